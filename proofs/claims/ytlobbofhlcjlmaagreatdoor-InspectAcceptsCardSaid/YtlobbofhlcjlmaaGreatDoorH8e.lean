/- The engine, part 8e: rows of their own are read and written; sums that may wrap. -/
import Derived.Test.YtlobbofhlcjlmaaGreatDoorH8d
set_option linter.unusedSimpArgs false
set_option linter.unusedVariables false
namespace Go.Eng
open Go.RowKit
def aDt (P:Program) (t:TypeId) (p:RV):Option Core:=if kM P t=some false then match p with
 | (.ptr nm g i 0,some (.mat _ _ _ xss []))=>some { need:=[D.len xss=g],val:=.row nm g i (D.len (D.get xss i [])) }
 | (.ptr _ g i 0,some (.mat _ _ _ xss [(j,v)]))=>some { need:=[D.len xss=g,i=j],val:=v }
 | (.rptr _ g i k j,some (.mat _ _ e xss []))=>some { need:=[D.len xss=g,D.len (D.get xss i [])=k],val:=.dat e (D.get (D.get xss i []) j e.dflt) }
 | _=>none else none
theorem pK {P:Program} {w:World} {t:TypeId} {bl off:Nat} {u:Value} (h2:kM P t=some false) (h:w.cell? ⟨bl,off,none⟩=some u) :
  (Instr.loadAt t (.pointer (some ⟨bl,off,none⟩))).run P w=.ok u w:=by
 simp [Instr.loadAt,Instr.sureAddr,loadVar,oD h2,h]
theorem aZ.matCells {S:Base} {σ:Sig} {a:Act} {w:World} {D:Nat→Prop} {E:Nat→Ent} (h:aZ S σ a w D E) {nm:Nat} {el eli:TypeId} {e:Ty} {xss:List (List e.den)} {ov:List (Nat×AV)} (hm:σ.m nm=some (.mat el eli e xss ov)) (hnil:(E nm).isNil=false) :
  e.sz=1∧∃ raw,w.ownsRow 0 el 1 (.slice (some ⟨(E nm).b,0,none⟩) xss.length (E nm).cap) xss.length raw∧aPj S.P 0 ⟨w,D,σ.m,E⟩ (E nm) eli e xss ov raw:=by
 obtain ⟨h0,raw,r1,r2⟩:=h.bl nm _ hm
 have e3:(E nm).handle xss.length=.slice (some ⟨(E nm).b,0,none⟩) xss.length (E nm).cap:=by unfold Ent.handle;rw [hnil];rfl
 rw [e3] at r1
 exact ⟨h0,raw,r1,r2⟩
theorem aF2 {P:Program} {C:Ctx} {e:Ty} {row:List e.den} {raw:List Value} (h:dV P C e row [] raw) (hz:e.sz=1) (hl:raw.length=row.length * 1) {j:Nat} (hj:j < row.length) (d:e.den):∃ u,raw[j]?=some u∧aF C.w C.D e (row.getD j d) [u]:=by
 have hr:=h j _ (getElem?_getD (d:=d) hj)
 simp only [List.lookup] at hr
 have hlt:j < raw.length:=by omega
 refine ⟨raw[j],List.getElem?_eq_getElem hlt,?_⟩
 have e4:(raw.drop (j * e.sz)).take e.sz=[raw[j]]:=by
  rw [hz,Nat.mul_one]
  apply List.ext_getElem?
  intro q
  rw [List.getElem?_take]
  cases q with
  | zero=>simp [hlt]
  | succ q=>simp
 rw [e4] at hr
 exact hr
theorem aGk {S:Base} {σ:Sig} {a:Act} {w:World} {D:Nat→Prop} {E:Nat→Ent} (h:aZ S σ a w D E) {p:RV} {t:TypeId} {c:Core} {v:Value}
  (hb:p.2=fD σ.m p.1) (hc:aDt S.P t p=some c) (hn:∀ q ∈ c.need,q) (hp:p.1.rel S.P ⟨w,D,σ.m,E⟩ v) :
  ∃ r,(Instr.loadAt t v).run S.P w=.ok r w∧c.val.rel S.P ⟨w,D,σ.m,E⟩ r∧c.upd=[]∧c.new=none:=by
 unfold aDt at hc
 split at hc
 case isFalse=>cases hc
 rename_i ha
 split at hc
 ·rename_i nm g i el eli e xss
  cases hc
  have hm:σ.m nm=some (.mat el eli e xss []):=hb.symm
  have e1:xss.length=g:=hn _ (by simp)
  obtain ⟨q1,q2,q3⟩:=(hp _ hm).2 e1
  have q2:(E nm).isNil=false:=q2
  obtain ⟨hz,raw,r1,r2⟩:=h.matCells hm q2
  have hi:i < xss.length:=by omega
  obtain ⟨u,g1,g2⟩:=r2 i _ (getElem?_getD (d:=[]) hi)
  simp only [List.lookup] at g2
  have q3':v=.pointer (some ⟨(E nm).b,i,none⟩):=by
   rw [q3];show Value.pointer (some ⟨(E nm).b,i * 1 + 0,none⟩)=_;rw [Nat.mul_one,Nat.add_zero]
  rw [q3']
  refine ⟨u,pK ha (by rw [r1.cellAt i (by omega)];exact g1),fun b hb'=>?_,rfl,rfl⟩
  have eb:b=.mat el eli e xss []:=Option.some.inj (hb'.symm.trans hm)
  subst eb
  obtain ⟨ao,cap,r3,k1,_,k2⟩:=g2
  exact ⟨Nat.le_of_eq e1.symm,fun _=>⟨ao,cap,k1,fun hp0=>(k2 hp0).1⟩⟩
 ·rename_i nm g i el eli e xss j av
  cases hc
  have hm:σ.m nm=some (.mat el eli e xss [(j,av)]):=hb.symm
  have e1:xss.length=g:=hn _ (by simp)
  have e2:i=j:=hn _ (by simp)
  subst e2
  obtain ⟨q1,q2,q3⟩:=(hp _ hm).2 e1
  have q2:(E nm).isNil=false:=q2
  obtain ⟨hz,raw,r1,r2⟩:=h.matCells hm q2
  have hi:i < xss.length:=by omega
  obtain ⟨u,g1,g2⟩:=r2 i _ (getElem?_getD (d:=[]) hi)
  simp only [List.lookup,beq_self_eq_true] at g2
  have q3':v=.pointer (some ⟨(E nm).b,i,none⟩):=by
   rw [q3];show Value.pointer (some ⟨(E nm).b,i * 1 + 0,none⟩)=_;rw [Nat.mul_one,Nat.add_zero]
  rw [q3']
  exact ⟨u,pK ha (by rw [r1.cellAt i (by omega)];exact g1),g2.2,rfl,rfl⟩
 ·rename_i nm g i k j el eli e xss
  cases hc
  have hm:σ.m nm=some (.mat el eli e xss []):=hb.symm
  have e1:xss.length=g:=hn _ (by simp)
  have e2:(xss.getD i []).length=k:=hn _ (by simp)
  obtain ⟨q1,q3⟩:=(hp _ hm).2 e1
  have hi:i < xss.length:=by
   rcases Nat.lt_or_ge i xss.length with g | g
   ·exact g
   ·rw [List.getD_eq_getElem?_getD,List.getElem?_eq_none g] at e2
    simp at e2;omega
  obtain ⟨hz,raw,r1,r2⟩:=h.bl nm _ hm
  obtain ⟨u,g1,g2⟩:=r2 i _ (getElem?_getD (d:=[]) hi)
  simp only [List.lookup] at g2
  obtain ⟨ao,cap,r3,k1,_,k2⟩:=g2
  have hjl:j < (xss.getD i []).length:=by rw [e2];exact q1
  obtain ⟨k3,k4,k5⟩:=k2 (by omega)
  subst k3
  rw [k1] at k4
  obtain ⟨z,z1,z2⟩:=aF2 k5 hz k4.1 hjl e.dflt
  rw [q3]
  exact ⟨z,pK ha (by rw [k4.cellAt j (by omega)];exact z1),z2,rfl,rfl⟩
 ·cases hc
def aBJ (P:Program) (t:TypeId) (p:RV) (i:AV):Option Core:=match gZ P t,i with
 | some e,.dat (.int _) i=>if sizeT P e=some 1 then match p with
  | (.buf nm n,some (.mat _ _ _ xss _))=>some (aAz nm n (D.len xss) i)
  | (.row nm g r k,some (.mat _ _ _ xss _))=>some { need:=[D.len xss=g,0≤i,i < (k:Int)],val:=.rptr nm g r k (D.nat i) }
  | _=>none
  else none
 | _,_=>none
theorem aE5 {S:Base} {σ:Sig} {a:Act} {w:World} {D:Nat→Prop} {E:Nat→Ent} (h:aZ S σ a w D E) {p:RV} {i:AV} {t:TypeId} {c:Core} {v vi:Value}
  (hb:p.2=fD σ.m p.1) (hc:aBJ S.P t p i=some c) (hn:∀ q ∈ c.need,q) (hp:p.1.rel S.P ⟨w,D,σ.m,E⟩ v) (hi:i.rel S.P ⟨w,D,σ.m,E⟩ vi) :
  ∃ r,(Instr.indexAt t v vi).run S.P w=.ok r w∧c.val.rel S.P ⟨w,D,σ.m,E⟩ r∧c.upd=[]∧c.new=none:=by
 unfold aBJ at hc
 split at hc
 case h_2=>cases hc
 rename_i e k i he
 have hu:=eH he
 simp only [AV.rel,aF,List.cons.injEq,and_true] at hi
 subst hi
 split at hc
 case isFalse=>cases hc
 rename_i hs
 have hsz:=dN hs w
 obtain ⟨i,rfl⟩:∃ j:Int,j=i:=⟨i,rfl⟩
 split at hc
 ·rename_i nm n el eli e' xss ov
  cases hc
  have hm:σ.m nm=some (.mat el eli e' xss ov):=hb.symm
  have hlen:xss.length=n:=hn _ (by simp [aAz])
  have h0:(0:Int)≤i:=hn _ (by simp [aAz])
  have h1:i < (xss.length:Int):=hn _ (by simp [aAz])
  obtain ⟨g1,g2⟩:=hp _ hm
  have e2:=g2 hlen
  have hnil:(E nm).isNil=false:=by
   cases hq:(E nm).isNil with
   | false=>rfl
   | true =>
    obtain ⟨_,raw,r1,r2⟩:=h.bl nm _ hm
    have e3:(E nm).handle xss.length=.slice none 0 0:=by unfold Ent.handle;rw [hq];rfl
    rw [e3] at r1
    rcases r1.2 with ⟨_,hz⟩ | ⟨g,cap,cur,hv,_⟩
    ·omega
    ·cases hv
  have e3:(E nm).handle n=.slice (some ⟨(E nm).b,0,none⟩) n (E nm).cap:=by unfold Ent.handle;rw [hnil];rfl
  have e4:v=.slice (some ⟨(E nm).b,0,none⟩) n (E nm).cap:=e2.trans e3
  subst e4
  have h1':i < (n:Int):=by rw [← hlen];exact h1
  refine ⟨.pointer (some ⟨(E nm).b,i.toNat * 1,none⟩),?_,fun b' hb'=>?_,rfl,rfl⟩
  ·simp [Instr.indexAt,asIntOf,run_underlying hu,h0,h1',hsz,Addr.add_mid]
  ·have eb:b'=.mat el eli e' xss ov:=Option.some.inj (hb'.symm.trans hm)
   subst eb
   exact ⟨Nat.le_of_eq hlen.symm,fun _=>⟨(by have h9:i < (n:Int):=h1';exact (show i.toNat < n by omega)),hnil,by simp [Blk.es]⟩⟩
 ·rename_i nm g r kk el eli e' xss ov
  cases hc
  have hm:σ.m nm=some (.mat el eli e' xss ov):=hb.symm
  have hlen:xss.length=g:=hn _ (by simp)
  have h0:(0:Int)≤i:=hn _ (by simp)
  have h1:i < (kk:Int):=hn _ (by simp)
  obtain ⟨ao,cap,hv,hpos⟩:=(hp _ hm).2 hlen
  have hao:=hpos (by omega)
  rw [hao] at hv
  have hv:v=.slice (some ⟨((E nm).rb r).1,0,none⟩) kk cap:=hv
  subst hv
  refine ⟨.pointer (some ⟨((E nm).rb r).1,i.toNat * 1,none⟩),?_,fun b' hb'=>?_,rfl,rfl⟩
  ·simp [Instr.indexAt,asIntOf,run_underlying hu,h0,h1,hsz,Addr.add_mid]
  ·have eb:b'=.mat el eli e' xss ov:=Option.some.inj (hb'.symm.trans hm)
   subst eb
   exact ⟨Nat.le_of_eq hlen.symm,fun _=>⟨(show i.toNat < kk by omega),by rw [Nat.mul_one]⟩⟩
 ·cases hc
def aAX (P:Program) (t:TypeId) (p v:RV):Option Core:=match aEL v,sizeT P t with
 | some ns,some 1=>if aHy v.1=false then match p with
  | (.ptr nm g i 0,some (.mat el eli e xss []))=>some { need:=[D.len xss=g] ++ ns,val:=.val undef,upd:=[(nm,.mat el eli e xss [(i,v.1)])] }
  | (.rptr nm g i k j,some (.mat el eli e xss []))=>match v.1.as e with
   | some y=>some { need:=[D.len xss=g,D.len (D.get xss i [])=k] ++ ns,val:=.val undef,upd:=[(nm,.mat el eli e (D.set (α:=List e.den) xss i (D.set (D.get xss i []) j y)) [])] }
   | none=>none
  | _=>none
  else none
 | _,_=>none
theorem aZ.turnRow {S:Base} {σ:Sig} {a:Act} {w:World} {D:Nat→Prop} {E:Nat→Ent} (h:aZ S σ a w D E) {nm i:Nat} {el eli:TypeId} {e:Ty} {xss:List (List e.den)} (hm:σ.m nm=some (.mat el eli e xss [])) (hi:i < xss.length) (hp:0 < (xss.getD i []).length)
  {row:List e.den} (hl:row.length=(xss.getD i []).length) (cs:Array Value)
  (hrow:∀ C',Later ⟨w,D,σ.m,E⟩ C'→C'.w=w.setRow ((E nm).rb i).1 cs→∀ u,aFF S.P 0 ⟨w,D,σ.m,E⟩ (E nm) eli e i (xss.getD i []) u→aFF S.P 0 C' (E nm) eli e i row u) :
  aZ S ⟨σ.T,upM σ.m [(nm,.mat el eli e (Go.Eng.D.set (α:=List e.den) xss i row) [])],σ.sv⟩ a (w.setRow ((E nm).rb i).1 cs) D E:=by
 have hat:dY σ.m E nm i ((E nm).rb i).1:=⟨el,eli,e,xss,[],xss.getD i [],hm,rfl,getElem?_getD hi,hp,rfl⟩
 obtain ⟨o1,o2,o3⟩:=h.pv.own _ _ _ hat
 have other:∀ k,k≠((E nm).rb i).1→(w.setRow ((E nm).rb i).1 cs).heap[k]?=w.heap[k]?:=fun k hk=>setRow_other w _ k cs hk
 have old:∀ k b',upM σ.m [(nm,.mat el eli e (Go.Eng.D.set (α:=List e.den) xss i row) [])] k=some b'→(k=nm∧b'=.mat el eli e (Go.Eng.D.set (α:=List e.den) xss i row) [])∨(k≠nm∧σ.m k=some b'):=fun k b' hk=>by
  rw [gB] at hk
  split at hk
  ·rename_i ek;cases hk;exact .inl ⟨ek,rfl⟩
  ·rename_i ek;exact .inr ⟨ek,hk⟩
 have L:Later ⟨w,D,σ.m,E⟩ ⟨w.setRow ((E nm).rb i).1 cs,D,upM σ.m [(nm,.mat el eli e (Go.Eng.D.set (α:=List e.den) xss i row) [])],E⟩:=⟨fun _ g=>g,fun b hb=>other b fun ek=>o3 (ek ▸ hb)⟩
 have hlen:(Go.Eng.D.set (α:=List e.den) xss i row).length=xss.length:=by rw [Go.Eng.D.set,List.length_set]
 have rowAt:∀ k r,(Go.Eng.D.set (α:=List e.den) xss i row)[k]?=some r→k < xss.length∧((k=i∧r=row)∨(k≠i∧xss[k]?=some r)):=fun k r hk=>by
  have hlt:k < xss.length:=by have:=(List.getElem?_eq_some_iff.1 hk).1;rwa [hlen] at this
  have hk':(List.set xss i row)[k]?=some r:=hk
  rw [List.getElem?_set] at hk'
  split at hk'
  ·rename_i ek;subst ek;simp only [Option.some.injEq] at hk';exact ⟨hlt,.inl ⟨rfl,hk'.symm⟩⟩
  ·rename_i ek;exact ⟨hlt,.inr ⟨fun q=>ek q.symm,hk'⟩⟩
 refine h.go (m':=upM σ.m [(nm,.mat el eli e (Go.Eng.D.set (α:=List e.den) xss i row) [])]) (E':=E) L (fun k=>.inl fun b' hb'=>?_) (fun k b' hk=>?_) (fun k b' hk hi'=>?_) (fun k k' b1 b2 hk hk' hi1 hi2 hbb=>?_)
  (h.low.step rfl rfl rfl (by simp) fun k hk hno=>other k fun ek=>?_) (fun b hb=>by simpa using h.dlt b hb) (fun b hb=>.inl hb) (h.pv.step (fun k j r hr=>?_) (by simp) (fun b hb=>.inl hb) fun k b' hk hi'=>?_)
 ·rcases old k b' hb' with ⟨rfl,rfl⟩ | ⟨g1,g2⟩
  ·exact ⟨_,hm,rfl,Nat.le_of_eq hlen.symm,fun _=>rfl⟩
  ·exact ⟨b',g2,rfl,Nat.le_refl _,fun _=>rfl⟩
 ·rcases old k b' hk with ⟨rfl,rfl⟩ | ⟨g1,g2⟩
  ·right
   obtain ⟨hz,raw,r1,r2⟩:=h.bl k _ hm
   refine ⟨hz,raw,?_,fun q r hq=>?_⟩
   ·rw [hlen]
    refine jW (fun g' n' c hh=>?_) r1
    obtain ⟨q1,rfl⟩:=aFa hh
    exact other _ (h.pv.ent k i _ hat k _ hm q1)
   ·obtain ⟨hlt,⟨rfl,rfl⟩ | ⟨hne,hq'⟩⟩:=rowAt q r hq
    ·obtain ⟨u,g1,g2⟩:=r2 q _ (getElem?_getD (d:=[]) hlt)
     simp only [List.lookup] at g2 ⊢
     exact ⟨u,g1,hrow _ L rfl u g2⟩
    ·obtain ⟨u,g1,g2⟩:=r2 q r hq'
     simp only [List.lookup] at g2 ⊢
     refine ⟨u,g1,?_⟩
     obtain ⟨ao,cap,r3,k1,k0,k2⟩:=g2
     refine ⟨ao,cap,r3,k1,k0,fun hpr=>?_⟩
     obtain ⟨k3,k4,k5⟩:=k2 hpr
     refine ⟨k3,jW (fun g' n' c hh=>?_) k4,bT (C:=⟨w,D,σ.m,E⟩) L (fun nm h=>by cases h) k5⟩
     rw [k1,k3] at hh
     simp at hh
     rw [← hh.1]
     refine other _ fun ek=>hne ?_
     exact (h.pv.inj k q _ k i ⟨el,eli,e,xss,[],r,hm,rfl,hq',hpr,rfl⟩ (ek ▸ hat)).2
  ·left
   refine ⟨g2,rfl,fun hi'=>other _ (h.pv.ent nm i _ hat k b' g2 hi'),fun q r hr=>other _ fun ek=>g1 ?_⟩
   exact (h.pv.inj k q r nm i (aY.2 ⟨b',g2,hr⟩) (ek ▸ hat)).1
 ·rcases old k b' hk with ⟨rfl,rfl⟩ | ⟨g1,g2⟩
  ·simpa using h.own k _ hm hi'
  ·simpa using h.own k b' g2 hi'
 ·have up:∀ k b',upM σ.m [(nm,.mat el eli e (Go.Eng.D.set (α:=List e.den) xss i row) [])] k=some b'→∃ b0,σ.m k=some b0:=fun k b' hk=>by
   rcases old k b' hk with ⟨rfl,rfl⟩ | ⟨_,g2⟩
   ·exact ⟨_,hm⟩
   ·exact ⟨_,g2⟩
  obtain ⟨c1,z1⟩:=up k b1 hk
  obtain ⟨c2,z2⟩:=up k' b2 hk'
  exact h.inj k k' c1 c2 z1 z2 hi1 hi2 hbb
 ·rcases o1 with g | g
  ·omega
  ·exact hno (ek ▸ g)
 ·obtain ⟨b',g1,g2⟩:=aY.1 hr
  rcases old k b' g1 with ⟨rfl,rfl⟩ | ⟨q1,q2⟩
  ·obtain ⟨el2,eli2,e2,xs2,ov2,r2,hx,p1,p2,p3,p4⟩:=g2
   cases hx
   obtain ⟨hlt,⟨rfl,rfl⟩ | ⟨hne,hq'⟩⟩:=rowAt j r2 p2
   ·exact ⟨_,_,_,_,_,_,hm,rfl,getElem?_getD (d:=[]) hlt,hp,p4⟩
   ·exact ⟨_,_,_,_,_,_,hm,rfl,hq',p3,p4⟩
  ·exact aY.2 ⟨b',q2,g2⟩
 ·rcases old k b' hk with ⟨rfl,rfl⟩ | ⟨g1,g2⟩
  ·exact .inr ⟨k,_,hm,hi',rfl⟩
  ·exact .inr ⟨k,b',g2,hi',rfl⟩
theorem aEe {S:Base} {σ:Sig} {a:Act} {w:World} {D:Nat→Prop} {E:Nat→Ent} (h:aZ S σ a w D E) {t:TypeId} {p v:RV} {c:Core} {vp u:Value}
  (hbp:p.2=fD σ.m p.1) (hbv:v.2=fD σ.m v.1) (hc:aAX S.P t p v=some c) (hn:∀ q ∈ c.need,q)
  (hp:p.1.rel S.P ⟨w,D,σ.m,E⟩ vp) (hv:v.1.rel S.P ⟨w,D,σ.m,E⟩ u) :
  c.new=none∧c.val=.val undef∧∃ w',(Instr.storeAt t vp u).run S.P w=.ok () w'∧∃ D E,aZ S ⟨σ.T,upM σ.m c.upd,σ.sv⟩ a w' D E:=by
 unfold aAX at hc
 split at hc
 case h_2=>cases hc
 rename_i ns hone hsz
 split at hc
 case isFalse=>cases hc
 rename_i hagg
 have ones:(∀ q ∈ ns,q)→∃ z:Value,u.cells=[z].toArray∧v.1.rel S.P ⟨w,D,σ.m,E⟩ z∧z.oneCell'=true:=fun hns=>by
  obtain ⟨us,g1,g2,g3⟩:=uF hbv hone hns hv
  have hcv:fF v.1=[v.1]:=by
   cases hq:v.1 <;> first | rfl | (rw [hq] at hagg;cases hagg)
  rw [hcv] at g2
  obtain ⟨z,us',e,q1,q2⟩:=g2
  simp only [AV.relL] at q2
  subst q2 e
  exact ⟨z,g1,q1,g3 z (by simp)⟩
 split at hc
 ·rename_i nm g i el eli e xss
  cases hc
  have hm:σ.m nm=some (.mat el eli e xss []):=hbp.symm
  have e1:xss.length=g:=hn _ (by simp)
  obtain ⟨z,z1,z2,z3⟩:=ones (fun q hq=>hn q (by simp [hq]))
  obtain ⟨q1,q2,q3⟩:=(hp _ hm).2 e1
  have q2:(E nm).isNil=false:=q2
  obtain ⟨hz,raw,r1,r2⟩:=h.matCells hm q2
  have hi:i < xss.length:=by omega
  obtain ⟨cur,p1,p2,p3⟩:=jH r1 i [z] (by simp;omega)
  have q3':vp=.pointer (some ⟨(E nm).b,i,none⟩):=by
   rw [q3];show Value.pointer (some ⟨(E nm).b,i * 1 + 0,none⟩)=_;rw [Nat.mul_one,Nat.add_zero]
  refine ⟨rfl,rfl,_,by rw [q3'];exact jQ (P:=S.P) (t:=t) (us:=[z]) p1 hsz z1 p2 (fun y hy=>by rw [List.mem_singleton.1 hy];exact z3),?_⟩
  refine aZ.stored (b:=.mat el eli e xss [(i,v.1)]) h hm q2 rfl rfl _ (fun C' L N hw=>?_) (fun k r hr=>?_)
  ·refine ⟨hz,raw.take i ++ [z] ++ raw.drop (i + [z].length),?_,fun k row hk=>?_⟩
   ·have e3:(E nm).handle xss.length=.slice (some ⟨(E nm).b,0,none⟩) xss.length (E nm).cap:=by unfold Ent.handle;rw [q2];rfl
    rw [hw,e3];exact p3
   ·have hk1:k < xss.length:=(List.getElem?_eq_some_iff.1 hk).1
    have hrl:raw.length=xss.length * 1:=r1.1
    by_cases hki:k=i
    ·subst hki
     refine ⟨z,?_,?_⟩
     ·rw [List.append_assoc,List.getElem?_append_right (by rw [List.length_take];omega),List.length_take]
      rw [show k - min k raw.length=0 by omega];rfl
     ·simp only [List.lookup,beq_self_eq_true]
      exact ⟨z3,AV.rel_mono L (fun x _=>N x) z2⟩
    ·obtain ⟨y,g1,g2⟩:=r2 k row hk
     simp only [List.lookup] at g2
     have hkb:(k == i)=false:=by simpa using hki
     refine ⟨y,?_,?_⟩
     ·rcases Nat.lt_or_ge k i with hlt | hge
      ·rw [List.append_assoc,List.getElem?_append_left (by rw [List.length_take];omega),List.getElem?_take,if_pos hlt];exact g1
      ·rw [List.getElem?_append_right (by rw [List.length_append,List.length_take];simp;omega),List.getElem?_drop]
       rw [List.length_append,List.length_take,List.length_singleton]
       rw [show i + 1 + (k - (min i raw.length + 1))=k by omega];exact g1
     ·simp only [List.lookup,hkb]
      obtain ⟨ao,cap,r3,k1,k0,k2⟩:=g2
      refine ⟨ao,cap,r3,k1,k0,fun hpr=>?_⟩
      obtain ⟨k3,k4,k5⟩:=k2 hpr
      refine ⟨k3,jW (fun g' n' c hh=>?_) k4,bT (C:=⟨w,D,σ.m,E⟩) L (fun nm h=>by cases h) k5⟩
      rw [k1,k3] at hh
      simp at hh
      rw [← hh.1,hw]
      refine setRow_other w _ _ _ fun ek=>?_
      exact h.pv.ent nm k _ ⟨el,eli,e,xss,[],row,hm,rfl,hk,hpr,rfl⟩ nm _ hm q2 ek.symm
  ·obtain ⟨el2,eli2,e2,xs2,ov2,r2',hx,s1,s2,s3,s4⟩:=hr
   cases hx
   exact ⟨_,_,_,_,_,_,rfl,rfl,s2,s3,s4⟩
 ·rename_i nm g i k j el eli e xss
  split at hc
  case h_2=>cases hc
  rename_i y hy
  cases hc
  have hm:σ.m nm=some (.mat el eli e xss []):=hbp.symm
  have e1:xss.length=g:=hn _ (by simp)
  have e2:(xss.getD i []).length=k:=hn _ (by simp)
  obtain ⟨z,z1,z2,z3⟩:=ones (fun q hq=>hn q (by simp [hq]))
  obtain ⟨q1,q3⟩:=(hp _ hm).2 e1
  have hi:i < xss.length:=by
   rcases Nat.lt_or_ge i xss.length with g | g
   ·exact g
   ·rw [List.getD_eq_getElem?_getD,List.getElem?_eq_none g] at e2
    simp at e2;omega
  have hzy:aF w D e y [z]:=AV.as_rel hy z2
  obtain ⟨hz,raw,r1,r2⟩:=h.bl nm _ hm
  obtain ⟨uu,g1,g2⟩:=r2 i _ (getElem?_getD (d:=[]) hi)
  simp only [List.lookup] at g2
  have hjl:j < (xss.getD i []).length:=by rw [e2];exact q1
  obtain ⟨ao,cap,r3,k1,k0,k2⟩:=g2
  obtain ⟨k3,k4,k5⟩:=k2 (by omega)
  rw [k1,k3] at k4
  have hfit:j + [z].length≤(xss.getD i []).length * 1:=by rw [List.length_singleton];omega
  obtain ⟨cur,p1,p2,p3⟩:=jH k4 j [z] hfit
  refine ⟨rfl,rfl,_,by rw [q3];exact jQ (P:=S.P) (t:=t) (us:=[z]) p1 hsz z1 p2 (fun y hy=>by rw [List.mem_singleton.1 hy];exact z3),D,E,?_⟩
  refine h.turnRow hm hi (by omega) (row:=Go.Eng.D.set (Go.Eng.D.get xss i []) j y) (by rw [Go.Eng.D.set,List.length_set]) _ fun C' L hw u' hu'=>?_
  obtain ⟨ao',cap',r3',k1',k0',k2'⟩:=hu'
  obtain ⟨k3',k4',k5'⟩:=k2' (by omega)
  have hlen:(Go.Eng.D.set (Go.Eng.D.get xss i []) j y).length=(xss.getD i []).length:=by rw [Go.Eng.D.set,List.length_set]
  rw [k1',k3'] at k4'
  have hcap:cap'=cap∧r3'=r3:=by
   rcases k4.2 with ⟨hq,_⟩ | ⟨gg,cc,cu,hq,_,hh,_,_,hcs,ht⟩
   ·cases hq
   ·rcases k4'.2 with ⟨hq',_⟩ | ⟨gg',cc',cu',hq',_,hh',hn1,hn2,hcs',ht'⟩
    ·cases hq'
    ·simp only [Value.slice.injEq,Option.some.injEq,Addr.mk.injEq,and_true,true_and] at hq hq'
     obtain ⟨rfl,rfl⟩:=hq
     obtain ⟨rfl,rfl⟩:=hq'
     rw [hh] at hh'
     cases hh'
     exact ⟨by omega,ht'.symm.trans ht⟩
  obtain ⟨rfl,rfl⟩:=hcap
  refine ⟨ao',cap',r3'.take j ++ [z] ++ r3'.drop (j + [z].length),by rw [hlen];exact k1',k0',fun _=>⟨k3',?_,?_⟩⟩
  ·rw [k1',k3',hw,hlen];exact p3
  ·have fin:=vX (P:=S.P) (C:=C') (t:=e) (us:=[z]) (ov:=[]) (i:=j) (y:=y) (by rw [k4.1,hz]) hjl (fun k a hk=>by simp at hk) (bT (C:=⟨w,D,σ.m,E⟩) L (fun nm h=>by cases h) k5') (by rw [hz];rfl) (aH L.D L.w hzy)
   rw [hz,Nat.mul_one] at fin
   exact fin
 ·cases hc
def aPq (op:BinOp):AV→AV→Option Core
 | .dat (.int k) x,.dat (.int k') y=>if k=k' then match op with
  | .add=>some { val:=.dat (.int k) (D.wrap k (D.add x y)) }
  | .sub=>some { val:=.dat (.int k) (D.wrap k (D.sub x y)) }
  | .mul=>some { val:=.dat (.int k) (D.wrap k (D.mul x y)) }
  | _=>none
  else none
 | _,_=>none
theorem aKa {P:Program} {C:Ctx} {w:World} {op:BinOp} {t:TypeId} {x y:Operand} {a b:AV} {u v:Value} {c:Core} (h:aPq op a b=some c)
  (ha:a.rel P C u) (hb:b.rel P C v) :
  ∃ r,(do eqGuard op t x y u v;binOp op t u v).run P w=.ok r w∧c.val.rel P C r∧c.upd=[]:=by
 unfold aPq at h
 split at h
 ·rename_i k xv k' yv
  split at h
  case isFalse=>cases h
  rename_i hk
  subst hk
  simp only [AV.rel,aF,List.cons.injEq,and_true] at ha hb
  subst ha hb
  split at h
  ·cases h
   exact ⟨.int k (k.wrap (xv + yv)),by simp [iM,oV.1,Op.intArith],rfl,rfl⟩
  ·cases h
   exact ⟨.int k (k.wrap (xv - yv)),by simp [iM,oV.2.1,Op.intArith],rfl,rfl⟩
  ·cases h
   exact ⟨.int k (k.wrap (xv * yv)),by simp [iM,oV.2.2,Op.intArith],rfl,rfl⟩
  ·cases h
 ·cases h
end Go.Eng
