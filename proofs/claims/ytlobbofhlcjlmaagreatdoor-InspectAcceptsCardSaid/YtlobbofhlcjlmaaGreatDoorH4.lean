/- The engine, part 4: operations that read. -/
import Derived.Test.YtlobbofhlcjlmaaGreatDoorH3
set_option linter.unusedSimpArgs false
set_option linter.unusedVariables false
namespace Go.Eng
open Go.RowKit
abbrev RV:=AV×Option Blk
def fD (m:Nat→Option Blk):AV→Option Blk
 | .buf nm _=>m nm
 | .view nm _=>m nm
 | .ptr nm _ _ _=>m nm
 | .row nm _ _ _=>m nm
 | .rptr nm _ _ _ _=>m nm
 | _=>none
def kM (P:Program) (t:TypeId):Option Bool:=match P.underlying t with
 | some (.struct _)=>some true
 | some (.array _ _)=>some true
 | some _=>some false
 | none=>none
def sizeT (P:Program) (t:TypeId):Option Nat:=(P.info? t).map (·.size)
theorem oD {P:Program} {t:TypeId} {b:Bool} (h:kM P t=some b) (w:World):(isAgg t).run P w=.ok b w:=by
 unfold kM at h
 unfold isAgg
 cases hu:P.underlying t with
 | none=>rw [hu] at h;cases h
 | some d =>
  rw [hu] at h
  rw [Sem.run_bind,run_underlying hu w]
  cases d <;> simp_all
theorem dN {P:Program} {t:TypeId} {n:Nat} (h:sizeT P t=some n) (w:World):(sizeOf t).run P w=.ok n w:=by
 unfold sizeT at h
 cases hi:P.info? t with
 | none=>rw [hi] at h;cases h
 | some i =>
  rw [hi] at h;cases h
  simp [sizeOf,typeInfo,hi]
def behind:AV→Option Blk→Option (List Prop×List AV)
 | .ip t x,_=>some ([],cellsOf t x)
 | .ipv x,_=>some ([],[x])
 | .ips cs,_=>some ([],cs)
 | .ptr _ g i c,some (.var cs)=>some ([1=g,i=0],cs.drop c)
 | .ptr _ g i c,some (.buf _ t xs [])=>some ([xs.length=g],(cellsOf t (D.get xs i t.dflt)).drop c)
 | .ptr _ g i 0,some (.buf _ t xs ((j,v) :: _))=>if t.sz=1 then some ([xs.length=g,i=j],[v]) else none
 | _,_=>none
theorem aCZ {S:Base} {σ:Sig} {a:Act} {w:World} {D:Nat→Prop} {E:Nat→Ent} (h:aZ S σ a w D E) {p:AV} {b:Option Blk} {ns:List Prop} {cs:List AV} {v:Value}
  (hb:b=fD σ.m p) (hc:behind p b=some (ns,cs)) (hn:∀ q ∈ ns,q) (hp:p.rel S.P ⟨w,D,σ.m,E⟩ v) :
  ∃ bl off us,v=.pointer (some ⟨bl,off,none⟩)∧gU w bl off us∧AV.relL S.P ⟨w,D,σ.m,E⟩ cs us:=by
 unfold behind at hc
 split at hc
 ·cases hc
  obtain ⟨bl,off,us,h1,h2,h3,h4⟩:=hp
  exact ⟨bl,off,us,h1,h3,fM h4⟩
 ·cases hc
  obtain ⟨bl,off,u,h1,h2,h3,h4⟩:=hp
  exact ⟨bl,off,[u],h1,fun j q hj=>by
   cases j with
   | zero=>simp at hj;subst hj;exact h3
   | succ j=>simp at hj,u,[],rfl,h4,rfl⟩
 ·cases hc
  obtain ⟨bl,off,us,h1,h2,h3,h4⟩:=hp
  exact ⟨bl,off,us,h1,h3,h4⟩
 ·rename_i nm g i c cs
  cases hc
  have hm:σ.m nm=some (.var cs):=hb.symm
  obtain ⟨g1,g2⟩:=hp _ hm
  have e1:1=g:=hn _ (by simp)
  have e2:i=0:=hn _ (by simp)
  obtain ⟨g3,g4,g5⟩:=g2 e1
  obtain ⟨_,us,el,h1,h2⟩:=h.bl nm _ hm
  subst e2
  have hl:=AV.relL_length h2
  refine ⟨(E nm).b,c,us.toList.drop c,by simpa using g5,?_,?_⟩
  ·intro j u hj
   rw [List.getElem?_drop] at hj
   have hh:w.heap[(E nm).b]?=some (.cells us el (0,0)):=h1
   rw [cell_of_row w _ _ us el (0,0) hh]
   simpa using hj
  ·have e:cs=cs.take c ++ cs.drop c:=(List.take_append_drop c cs).symm
   rw [e] at h2
   obtain ⟨u1,u2,e1,r1,r2⟩:=AV.relL_split h2
   have hl1:=AV.relL_length r1
   by_cases hlt:c≤cs.length
   ·have:u1.length=c:=by rw [← hl1,List.length_take];omega
    have e3:us.toList.drop c=u2:=by rw [e1,← this,List.drop_left]
    rw [e3];exact r2
   ·have e3:cs.drop c=[]:=List.drop_of_length_le (by omega)
    have e4:us.toList.drop c=[]:=List.drop_of_length_le (by omega)
    rw [e3,e4];rfl
 ·rename_i nm g i c el t xs
  cases hc
  have hm:σ.m nm=some (.buf el t xs []):=hb.symm
  obtain ⟨g1,g2⟩:=hp _ hm
  have e1:xs.length=g:=hn _ (by simp)
  obtain ⟨g3,g4,g5⟩:=g2 e1
  obtain ⟨raw,h1,h2⟩:=h.bl nm _ hm
  have hi:i < xs.length:=by omega
  have hx:xs[i]?=some (xs.getD i t.dflt):=by rw [List.getD_eq_getElem?_getD,List.getElem?_eq_getElem hi];rfl
  have hr:=h2 i _ hx
  simp only [List.lookup] at hr
  have hus:=fM (P:=S.P) (C:=⟨w,D,σ.m,E⟩) hr
  have hl:=AV.relL_length hus
  have hhd:(E nm).handle xs.length=.slice (some ⟨(E nm).b,0,none⟩) xs.length (E nm).cap:=by unfold Ent.handle;rw [g4];rfl
  rw [hhd] at h1
  have hsz:(raw.drop (i * t.sz)).take t.sz=(raw.drop (i * t.sz)).take t.sz:=rfl
  have hrl:=h1.1
  have hmul:i * t.sz + t.sz≤xs.length * t.sz:=by
   have:=Nat.mul_le_mul_right t.sz (show i + 1≤xs.length from hi)
   rw [Nat.add_mul,Nat.one_mul] at this;exact this
  refine ⟨(E nm).b,i * t.sz + c,((raw.drop (i * t.sz)).take t.sz).drop c,g5,?_,?_⟩
  ·intro j u hj
   rw [List.getElem?_drop,List.getElem?_take] at hj
   split at hj
   ·rename_i hlt
    rw [List.getElem?_drop] at hj
    show w.cell? ⟨(E nm).b,i * t.sz + c + j,none⟩=some u
    have hlt2:i * t.sz + c + j < xs.length * t.sz:=by omega
    rw [h1.cellAt (i * t.sz + c + j) hlt2,← hj,Nat.add_assoc]
   ·cases hj
  ·have e:cellsOf t (xs.getD i t.dflt)=(cellsOf t (xs.getD i t.dflt)).take c ++ (cellsOf t (xs.getD i t.dflt)).drop c:=(List.take_append_drop c _).symm
   rw [e] at hus
   obtain ⟨u1,u2,e1,r1,r2⟩:=AV.relL_split hus
   have hl1:=AV.relL_length r1
   by_cases hlt:c≤(cellsOf t (xs.getD i t.dflt)).length
   ·have:u1.length=c:=by rw [← hl1,List.length_take];omega
    have e3:((raw.drop (i * t.sz)).take t.sz).drop c=u2:=by rw [e1,← this,List.drop_left]
    rw [e3];exact r2
   ·have e3:(cellsOf t (xs.getD i t.dflt)).drop c=[]:=List.drop_of_length_le (by omega)
    have e4:((raw.drop (i * t.sz)).take t.sz).drop c=[]:=List.drop_of_length_le (by omega)
    rw [e3,e4];rfl
 ·rename_i nm g i el t xs j av rest
  split at hc
  ·rename_i ht
   cases hc
   have hm:σ.m nm=some (.buf el t xs ((j,av) :: rest)):=hb.symm
   obtain ⟨g1,g2⟩:=hp _ hm
   have e1:xs.length=g:=hn _ (by simp)
   have e2:i=j:=hn _ (by simp)
   obtain ⟨g3,g4,g5⟩:=g2 e1
   obtain ⟨raw,h1,h2⟩:=h.bl nm _ hm
   have hi:i < xs.length:=by omega
   have hx:xs[i]?=some (xs.getD i t.dflt):=by rw [List.getD_eq_getElem?_getD,List.getElem?_eq_getElem hi];rfl
   have hr:=h2 i _ hx
   subst e2
   simp only [List.lookup,beq_self_eq_true] at hr
   obtain ⟨_,u,hu,_,hru⟩:=hr
   have hhd:(E nm).handle xs.length=.slice (some ⟨(E nm).b,0,none⟩) xs.length (E nm).cap:=by unfold Ent.handle;rw [g4];rfl
   rw [hhd] at h1
   refine ⟨(E nm).b,i * t.sz + 0,[u],g5,?_,⟨u,[],rfl,hru,rfl⟩⟩
   intro k q hk
   cases k with
   | zero =>
    simp at hk;subst hk
    show w.cell? ⟨(E nm).b,i * t.sz + 0 + 0,none⟩=some u
    rw [h1.cellAt _ (by rw [ht];omega),← hu,ht];simp
   | succ k=>simp at hk
  ·cases hc
 ·cases hc
def aNJ (P:Program) (t:TypeId) (p:RV):Option Core :=
 match behind p.1 p.2,kM P t,sizeT P t with
 | some (ns,cs),some true,some k=>if k≤cs.length then some { need:=ns,val:=.agg (cs.take k) } else none
 | some (ns,c :: _),some false,_=>some { need:=ns,val:=c }
 | _,_,_=>none
theorem aHq {S:Base} {σ:Sig} {a:Act} {w:World} {D:Nat→Prop} {E:Nat→Ent} (h:aZ S σ a w D E) {p:RV} {t:TypeId} {c:Core} {v:Value}
  (hb:p.2=fD σ.m p.1) (hc:aNJ S.P t p=some c) (hn:∀ q ∈ c.need,q) (hp:p.1.rel S.P ⟨w,D,σ.m,E⟩ v) :
  ∃ r,(Instr.loadAt t v).run S.P w=.ok r w∧c.val.rel S.P ⟨w,D,σ.m,E⟩ r∧c.upd=[]∧c.new=none:=by
 unfold aNJ at hc
 split at hc
 ·rename_i ns cs k h1 h2 h3
  split at hc
  ·rename_i hk
   cases hc
   obtain ⟨bl,off,us,rfl,g1,g2⟩:=aCZ h hb h1 hn hp
   have hl:=AV.relL_length g2
   have hcells:gU w bl off (us.take k):=fun j u hj=>by
    rw [List.getElem?_take] at hj
    split at hj
    ·exact g1 j u hj
    ·cases hj
   have hu:∃ d,S.P.underlying t=some d∧d.isRow=true:=by
    unfold kM at h2
    cases hd:S.P.underlying t with
    | none=>rw [hd] at h2;cases h2
    | some d=>exact ⟨d,rfl,by rw [hd] at h2;cases d <;> simp_all⟩
   obtain ⟨d,hd1,hd2⟩:=hu
   refine ⟨.agg (us.take k).toArray,run_loadAt_mid (P:=S.P) w bl off t (us.take k) d hcells hd1 hd2 ?_,?_,rfl,rfl⟩
   ·have:(us.take k).length=k:=by rw [List.length_take];omega
    rw [this];exact h3
   ·refine ⟨us.take k,rfl,?_⟩
    have e:cs=cs.take k ++ cs.drop k:=(List.take_append_drop k cs).symm
    rw [e] at g2
    obtain ⟨u1,u2,e1,r1,r2⟩:=AV.relL_split g2
    have hl1:=AV.relL_length r1
    have:u1.length=k:=by rw [← hl1,List.length_take];omega
    have e3:us.take k=u1:=by rw [e1,← this,List.take_left]
    rw [e3];exact r1
  ·cases hc
 ·rename_i ns c' cs' h1 h2
  cases hc
  obtain ⟨bl,off,us,rfl,g1,g2⟩:=aCZ h hb h1 hn hp
  obtain ⟨u,us',e,r1,r2⟩:=g2
  subst e
  refine ⟨u,?_,r1,rfl,rfl⟩
  have:=g1 0 u rfl
  simp only [Nat.add_zero] at this
  simp [Instr.loadAt,Instr.sureAddr,loadVar,oD h2,this]
 ·cases hc
def wH:(t:Ty)→t.den→Nat→Option AV
 | .pair a b,x,off=>if off=0 then some (.ip (.pair a b) x) else if a.sz≤off then wH b x.2 (off - a.sz) else none
 | .int k,x,off=>if off=0 then some (.ip (.int k) x) else none
 | .bool,x,off=>if off=0 then some (.ip .bool x) else none
 | .str,x,off=>if off=0 then some (.ip .str x) else none
 | .sl e,x,off=>if off=0 then some (.ip (.sl e) x) else none
theorem aCs {P:Program} {C:Ctx}:∀ {t:Ty} {x:t.den} {off:Nat} {q:AV} {bl o:Nat} {us:List Value},wH t x off=some q→C.D bl→gU C.w bl o us→aF C.w C.D t x us →
  q.rel P C (.pointer (some ⟨bl,o + off,none⟩))
 | .pair a b,x,off,q,bl,o,us,h,hD,hc,hr=>by
  simp only [wH] at h
  split at h
  ·rename_i h0;subst h0;cases h
   exact ⟨bl,o,us,rfl,hD,hc,hr⟩
  ·split at h
   ·rename_i h0 hle
    obtain ⟨u1,u2,e,r1,r2⟩:=hr
    have hl:=bG r1
    subst e
    have hc2:gU C.w bl (o + a.sz) u2:=fun j u hj=>by
     have:=hc (a.sz + j) u (by rw [List.getElem?_append_right (by omega)];rw [hl];simpa using hj)
     rw [Nat.add_assoc];exact this
    have:=aCs (P:=P) h hD hc2 r2
    rw [show o + off=o + a.sz + (off - a.sz) by omega]
    exact this
   ·cases h
 | .int k,x,off,q,bl,o,us,h,hD,hc,hr=>by
  simp only [wH] at h
  split at h
  ·rename_i h0;subst h0;cases h;exact ⟨bl,o,us,rfl,hD,hc,hr⟩
  ·cases h
 | .bool,x,off,q,bl,o,us,h,hD,hc,hr=>by
  simp only [wH] at h
  split at h
  ·rename_i h0;subst h0;cases h;exact ⟨bl,o,us,rfl,hD,hc,hr⟩
  ·cases h
 | .str,x,off,q,bl,o,us,h,hD,hc,hr=>by
  simp only [wH] at h
  split at h
  ·rename_i h0;subst h0;cases h;exact ⟨bl,o,us,rfl,hD,hc,hr⟩
  ·cases h
 | .sl _,x,off,q,bl,o,us,h,hD,hc,hr=>by
  simp only [wH] at h
  split at h
  ·rename_i h0;subst h0;cases h;exact ⟨bl,o,us,rfl,hD,hc,hr⟩
  ·cases h
def zD (P:Program) (s:TypeId) (f:Nat) (p:RV):Option Core :=
 match P.underlying s with
 | some (.struct fs)=>match fs[f]? with
  | some fd=>match sizeT P fd.type with
   | some (_ + 1)=>match p with
    | (.ip t x,_)=>(wH t x fd.offset).map fun q=>{ val:=q }
    | (.ips cs,_)=>some { val:=.ips (cs.drop fd.offset) }
    | (.ptr nm g i c,some b)=>some { need:=[b.len=g],val:=.ptr nm g i (c + fd.offset) }
    | _=>none
   | _=>none
  | none=>none
 | _=>none
theorem aDI {S:Base} {σ:Sig} {a:Act} {w:World} {D:Nat→Prop} {E:Nat→Ent} (_h:aZ S σ a w D E) {p:RV} {s:TypeId} {f:Nat} {c:Core} {v:Value}
  (hb:p.2=fD σ.m p.1) (hc:zD S.P s f p=some c) (hn:∀ q ∈ c.need,q) (hp:p.1.rel S.P ⟨w,D,σ.m,E⟩ v) :
  ∃ r,(Instr.fieldAt s v f).run S.P w=.ok r w∧c.val.rel S.P ⟨w,D,σ.m,E⟩ r∧c.upd=[]∧c.new=none:=by
 unfold zD at hc
 split at hc
 ·rename_i fs hu
  split at hc
  ·rename_i fd hf
   split at hc
   ·rename_i n hs
    have hrun:∀ bl o,(Instr.fieldAt s (.pointer (some ⟨bl,o,none⟩)) f).run S.P w=.ok (.pointer (some ⟨bl,o + fd.offset,none⟩)) w:=by
     intro bl o
     have h0:=dN hs w
     simp [Instr.fieldAt,run_underlying hu,hf,Instr.sureAddr,fieldPlace,h0,Addr.add_mid]
    split at hc
    ·rename_i t x b2
     cases hsr:wH t x fd.offset with
     | none=>rw [hsr] at hc;cases hc
     | some q =>
      rw [hsr] at hc;cases hc
      obtain ⟨bl,off,us,rfl,h2,h3,h4⟩:=hp
      exact ⟨_,hrun bl off,aCs hsr h2 h3 h4,rfl,rfl⟩
    ·rename_i cs b2
     cases hc
     obtain ⟨bl,off,us,rfl,h2,h3,h4⟩:=hp
     refine ⟨_,hrun bl off,⟨bl,off + fd.offset,us.drop fd.offset,rfl,h2,fun j u hj=>?_,AV.relL_drop h4 _⟩,rfl,rfl⟩
     rw [List.getElem?_drop] at hj
     rw [Nat.add_assoc]
     exact h3 _ u hj
    ·rename_i nm g i c0 b
     cases hc
     have hm:σ.m nm=some b:=hb.symm
     have hbl:b.len=g:=hn _ (by simp)
     obtain ⟨g1,g2⟩:=hp b hm
     obtain ⟨g3,g4,rfl⟩:=g2 hbl
     refine ⟨_,hrun _ _,fun b' hb'=>?_,rfl,rfl⟩
     have e:b'=b:=Option.some.inj (hb'.symm.trans hm)
     subst e
     exact ⟨g1,fun _=>⟨g3,g4,by rw [Nat.add_assoc]⟩⟩
    ·cases hc
   ·cases hc
  ·cases hc
 ·cases hc
def gZ (P:Program) (t:TypeId):Option TypeId:=match P.underlying t with
 | some (.slice e)=>some e
 | _=>none
theorem eH {P:Program} {t e:TypeId} (h:gZ P t=some e):P.underlying t=some (.slice e):=by
 unfold gZ at h
 split at h
 ·cases h;assumption
 ·cases h
def aVp (ty:Ty) (xs:List ty.den) (i:Int):Core:={ need:=[0≤i,i < (xs.length:Int)],val:=.ip ty (D.get xs (D.nat i) ty.dflt) }
def aAz (nm n len:Nat) (i:Int):Core:={ need:=[len=n,0≤i,i < (len:Int)],val:=.ptr nm n (D.nat i) 0 }
theorem getElem?_getD {α:Type} {xs:List α} {i:Nat} {d:α} (h:i < xs.length):xs[i]?=some (xs.getD i d):=by
 rw [List.getD_eq_getElem?_getD,List.getElem?_eq_getElem h];rfl
def aT8 (ty:Ty) (xs:List ty.den) (n:Nat) (i:Int):Core:={ need:=[xs.length=n,0≤i,i < (n:Int)],val:=.ip ty (D.get xs (D.nat i) ty.dflt) }
def aKL (nm g j k n len:Nat) (i:Int):Core:={ need:=[len=g,0≤i,i < (n:Int),D.at2 j k n≤g],val:=.ptr nm g (D.at2 j k i) 0 }
def aBK (P:Program) (t:TypeId) (p:RV) (i:AV):Option Core :=
 match P.underlying t,i with
 | some (.array n e),.dat (.int _) i=>match p with
  | (.ia ty xs,_)=>if sizeT P e=some ty.sz then some (aT8 ty xs n i) else none
  | (.ptr nm g j 0,some (.buf _ ty xs _))=>match sizeT P e with
   | some se=>if se=se / ty.sz * ty.sz∧0 < se / ty.sz then some (aKL nm g j (se / ty.sz) n xs.length i) else none
   | none=>none
  | _=>none
 | _,_=>none
theorem aNU {j k n g i:Nat} (hi:i < n) (hk:0 < k) (h:j + n * k≤g):j + i * k < g:=by
 have:(i + 1) * k≤n * k:=Nat.mul_le_mul_right k hi
 rw [Nat.add_mul,Nat.one_mul] at this
 omega
theorem aE6 {S:Base} {σ:Sig} {a:Act} {w:World} {D:Nat→Prop} {E:Nat→Ent} (_h:aZ S σ a w D E) {p:RV} {i:AV} {t:TypeId} {c:Core} {v vi:Value}
  (hb:p.2=fD σ.m p.1) (hc:aBK S.P t p i=some c) (hn:∀ q ∈ c.need,q) (hp:p.1.rel S.P ⟨w,D,σ.m,E⟩ v) (hi:i.rel S.P ⟨w,D,σ.m,E⟩ vi) :
  ∃ r,(Instr.indexAt t v vi).run S.P w=.ok r w∧c.val.rel S.P ⟨w,D,σ.m,E⟩ r∧c.upd=[]∧c.new=none:=by
 unfold aBK at hc
 split at hc
 case h_2=>cases hc
 rename_i n e k i hu
 simp only [AV.rel,aF,List.cons.injEq,and_true] at hi
 subst hi
 obtain ⟨i,rfl⟩:∃ j:Int,j=i:=⟨i,rfl⟩
 have run:∀ (bl o se:Nat),sizeT S.P e=some se→0≤i→i < (n:Int)→(Instr.indexAt t (.pointer (some ⟨bl,o,none⟩)) (.int k i)).run S.P w=.ok (.pointer (some ⟨bl,o + i.toNat * se,none⟩)) w:=by
  intro bl o se hs h0 h1
  have hsz:=dN hs w
  simp [Instr.indexAt,asIntOf,run_underlying hu,Instr.sureAddr,h0,h1,hsz,Addr.add_mid]
 split at hc
 ·rename_i ty xs b2
  split at hc
  case isFalse=>cases hc
  rename_i hs
  cases hc
  have hl:List.length xs=n:=hn _ (by simp [aT8])
  have h0:(0:Int)≤i:=hn _ (by simp [aT8])
  have h1:i < (n:Int):=hn _ (by simp [aT8])
  obtain ⟨bl,off,rfl,ao,cap,g1,g2,g3,g4,g5⟩:=hp
  simp only [List.cons.injEq,Value.slice.injEq,and_true,true_and] at g1
  obtain ⟨g1,_⟩:=g1
  subst g1
  have hlt:i.toNat < List.length xs:=by omega
  obtain ⟨ad,ue,q1,r1,r2,r3⟩:=g5 i.toNat _ (getElem?_getD hlt)
  cases q1
  exact ⟨_,run bl off _ hs h0 h1,⟨bl,_,ue,rfl,r1,r2,r3⟩,rfl,rfl⟩
 ·rename_i nm g j el ty xs ov
  split at hc
  case h_2=>cases hc
  rename_i se hs
  split at hc
  case isFalse=>cases hc
  rename_i hse
  obtain ⟨hse,hk0⟩:=hse
  cases hc
  obtain ⟨kk,hkk⟩:∃ kk,kk=se / ty.sz:=⟨_,rfl⟩
  rw [← hkk] at hse hk0 hn ⊢
  have hlen:xs.length=g:=hn _ (by simp [aKL])
  have h0:(0:Int)≤i:=hn _ (by simp [aKL])
  have h1:i < (n:Int):=hn _ (by simp [aKL])
  have h2:Go.Eng.D.at2 j kk (n:Int)≤g:=hn _ (by simp [aKL])
  have h2:j + n * kk≤g:=by simpa [Go.Eng.D.at2] using h2
  have hm:σ.m nm=some (.buf el ty xs ov):=hb.symm
  obtain ⟨g1,g2⟩:=hp _ hm
  obtain ⟨g3,g4,rfl⟩:=g2 hlen
  refine ⟨_,run _ _ se hs h0 h1,fun b' hb'=>?_,rfl,rfl⟩
  have e:b'=.buf el ty xs ov:=Option.some.inj (hb'.symm.trans hm)
  subst e
  refine ⟨g1,fun _=>⟨aNU (n:=n) (by omega) hk0 h2,g4,?_⟩⟩
  simp only [Blk.es,Nat.add_zero]
  rw [Nat.add_mul,Nat.mul_assoc,← hse]
 ·cases hc
def yZ (P:Program) (t:TypeId) (p:RV) (i:AV):Option Core :=
 match gZ P t,i with
 | some e,.dat (.int _) i=>match p with
  | (.dat (.sl ty) xs,_)=>if sizeT P e=some ty.sz then
    some (aVp ty xs i) else none
  | (.buf nm n,some (.buf _ ty xs _))=>if sizeT P e=some ty.sz then
    some (aAz nm n xs.length i) else none
  | (.view nm n,some (.buf _ ty xs _))=>if sizeT P e=some ty.sz then
    some (aAz nm n xs.length i) else none
  | _=>none
 | _,_=>aBK P t p i
theorem aDB {S:Base} {σ:Sig} {a:Act} {w:World} {D:Nat→Prop} {E:Nat→Ent} (_h:aZ S σ a w D E) {p:RV} {i:AV} {t:TypeId} {c:Core} {v vi:Value}
  (hb:p.2=fD σ.m p.1) (hc:yZ S.P t p i=some c) (hn:∀ q ∈ c.need,q) (hp:p.1.rel S.P ⟨w,D,σ.m,E⟩ v) (hi:i.rel S.P ⟨w,D,σ.m,E⟩ vi) :
  ∃ r,(Instr.indexAt t v vi).run S.P w=.ok r w∧c.val.rel S.P ⟨w,D,σ.m,E⟩ r∧c.upd=[]∧c.new=none:=by
 unfold yZ at hc
 split at hc
 ·rename_i e k i he
  have hu:=eH he
  simp only [AV.rel,aF,List.cons.injEq,and_true] at hi
  subst hi
  split at hc
  ·rename_i ty xs b2
   split at hc
   ·rename_i hs
    cases hc
    obtain ⟨i,rfl⟩:∃ j:Int,j=i:=⟨i,rfl⟩
    have h0:(0:Int)≤i:=hn _ (by simp [aVp])
    have h1:i < (List.length xs:Int):=hn _ (by simp [aVp])
    obtain ⟨ao,cap,g1,g2,g3,g4,g5⟩:=hp
    simp only [List.cons.injEq,and_true] at g1
    subst g1
    have hlt:i.toNat < List.length xs:=by omega
    obtain ⟨ad,ue,rfl,r1,r2,r3⟩:=g5 i.toNat _ (getElem?_getD hlt)
    have hspot:=g4 ad rfl (by omega)
    have hadd:ad.add (i.toNat * ty.sz)=⟨ad.block,ad.off + i.toNat * ty.sz,none⟩:=by
     cases ad with | mk b o s=>simp only at hspot;subst hspot;exact Addr.add_mid b o _
    refine ⟨.pointer (some ⟨ad.block,ad.off + i.toNat * ty.sz,none⟩),?_,⟨ad.block,_,ue,rfl,r1,r2,r3⟩,rfl,rfl⟩
    have hsz:=dN hs w
    simp [Instr.indexAt,asIntOf,run_underlying hu,h0,h1,hsz,hadd]
   ·cases hc
  ·rename_i nm n el ty xs ov
   split at hc
   ·rename_i hs
    cases hc
    obtain ⟨i,rfl⟩:∃ j:Int,j=i:=⟨i,rfl⟩
    have hlen:List.length xs=n:=hn _ (by simp [aAz])
    have h0:(0:Int)≤i:=hn _ (by simp [aAz])
    have h1:i < (List.length xs:Int):=hn _ (by simp [aAz])
    have hm:σ.m nm=some (.buf el ty xs ov):=hb.symm
    obtain ⟨g1,g2⟩:=hp _ hm
    have e2:=g2 hlen
    have hsz:=dN hs w
    have hnil:(E nm).isNil=false:=by
     cases hq:(E nm).isNil with
     | false=>rfl
     | true =>
      obtain ⟨raw,r1,r2⟩:=_h.bl nm _ hm
      have e3:(E nm).handle xs.length=.slice none 0 0:=by unfold Ent.handle;rw [hq];rfl
      rw [e3] at r1
      rcases r1.2 with ⟨_,hz⟩ | ⟨g,cap,cur,hv,_⟩
      ·have hz':List.length xs=0:=hz
       rw [hz'] at h1;omega
      ·cases hv
    have e3:(E nm).handle n=.slice (some ⟨(E nm).b,0,none⟩) n (E nm).cap:=by unfold Ent.handle;rw [hnil];rfl
    have e4:v=.slice (some ⟨(E nm).b,0,none⟩) n (E nm).cap:=e2.trans e3
    subst e4
    have h1':i < (n:Int):=by rw [← hlen];exact h1
    refine ⟨.pointer (some ⟨(E nm).b,i.toNat * ty.sz,none⟩),?_,fun b' hb'=>?_,rfl,rfl⟩
    ·simp [Instr.indexAt,asIntOf,run_underlying hu,h0,h1',hsz,Addr.add_mid]
    ·have e:b'=.buf el ty xs ov:=Option.some.inj (hb'.symm.trans hm)
     subst e
     exact ⟨Nat.le_of_eq hlen.symm,fun _=>⟨(by have h9:i < (n:Int):=h1';exact (show i.toNat < n by omega)),hnil,by simp [Blk.es]⟩⟩
   ·cases hc
  ·rename_i nm n el ty xs ov
   split at hc
   ·rename_i hs
    cases hc
    obtain ⟨i,rfl⟩:∃ j:Int,j=i:=⟨i,rfl⟩
    have hlen:List.length xs=n:=hn _ (by simp [aAz])
    have h0:(0:Int)≤i:=hn _ (by simp [aAz])
    have h1:i < (List.length xs:Int):=hn _ (by simp [aAz])
    have hm:σ.m nm=some (.buf el ty xs ov):=hb.symm
    obtain ⟨g1,g2⟩:=hp _ hm
    obtain ⟨hnil,cap,_,e4⟩:=g2 hlen
    have hsz:=dN hs w
    subst e4
    have h1':i < (n:Int):=by rw [← hlen];exact h1
    refine ⟨.pointer (some ⟨(E nm).b,i.toNat * ty.sz,none⟩),?_,fun b' hb'=>?_,rfl,rfl⟩
    ·simp [Instr.indexAt,asIntOf,run_underlying hu,h0,h1',hsz,Addr.add_mid]
    ·have e:b'=.buf el ty xs ov:=Option.some.inj (hb'.symm.trans hm)
     subst e
     exact ⟨Nat.le_of_eq hlen.symm,fun _=>⟨(by have h9:i < (n:Int):=h1';exact (show i.toNat < n by omega)),hnil,by simp [Blk.es]⟩⟩
   ·cases hc
  ·cases hc
 ·exact aE6 _h hb hc hn hp hi
def aVl (P:Program) (t:TypeId) (p:RV):Option Core :=
 match P.underlying t,p with
 | some .string,(.dat .str s,_)=>some { val:=.dat (.int .i64) (s.size:Int) }
 | some (.slice _),(.dat (.sl _) xs,_)=>some { val:=.dat (.int .i64) (List.length xs:Int) }
 | some (.slice _),(.buf _ n,some b)=>some { need:=[b.len=n],val:=.dat (.int .i64) (n:Int) }
 | some (.slice _),(.view _ n,some b)=>some { need:=[b.len=n],val:=.dat (.int .i64) (n:Int) }
 | some (.slice _),(.val (.slice none 0 0),_)=>some { val:=.dat (.int .i64) 0 }
 | some (.slice _),(.row _ g _ k,some b)=>some { need:=[b.len=g],val:=.dat (.int .i64) (k:Int) }
 | some (.array n _),_=>some { val:=.dat (.int .i64) (n:Int) }
 | _,_=>none
theorem aQW {S:Base} {σ:Sig} {a:Act} {w:World} {D:Nat→Prop} {E:Nat→Ent} (h:aZ S σ a w D E) {p:RV} {t ty:TypeId} {ts:Array TypeId} {c:Core} {v:Value} (hts:ts[0]?=some t)
  (hb:p.2=fD σ.m p.1) (hc:aVl S.P t p=some c) (hn:∀ q ∈ c.need,q) (hp:p.1.rel S.P ⟨w,D,σ.m,E⟩ v) :
  ∃ r,(Builtin.len_ ts ty #[v]).run S.P w=.ok r w∧c.val.rel S.P ⟨w,D,σ.m,E⟩ r∧c.upd=[]∧c.new=none:=by
 unfold aVl at hc
 split at hc
 ·rename_i s b hu
  cases hc
  simp only [AV.rel,aF,List.cons.injEq,and_true] at hp
  subst hp
  exact ⟨_,by simp [Builtin.len_,hts,run_underlying hu,goInt];try rfl,rfl,rfl,rfl⟩
 ·rename_i e ty xs b hu
  cases hc
  obtain ⟨ao,cap,g1,g2,g3,g4,g5⟩:=hp
  simp only [List.cons.injEq,and_true] at g1
  subst g1
  exact ⟨_,by simp [Builtin.len_,hts,run_underlying hu,goInt];try rfl,rfl,rfl,rfl⟩
 ·rename_i e nm n b hu
  cases hc
  have hlen:b.len=n:=hn _ (by simp)
  have hm:σ.m nm=some b:=hb.symm
  obtain ⟨g1,g2⟩:=hp _ hm
  have e2:=g2 hlen
  have:∃ ao cap,v=.slice ao n cap:=by
   rw [e2]
   unfold Ent.handle
   split
   ·rename_i hq
    have hbl:=h.bl nm b hm
    cases b with
    | var cs=>exact absurd hq (by rw [hbl.1];simp)
    | buf el ty xs ov =>
     obtain ⟨raw,r1,r2⟩:=hbl
     have e3:(E nm).handle xs.length=.slice none 0 0:=by unfold Ent.handle;rw [hq];rfl
     rw [e3] at r1
     rcases r1.2 with ⟨_,hz⟩ | ⟨g,cap,cur,hv,_⟩
     ·have:n=0:=by rw [← hlen];exact hz
      subst this;exact ⟨none,0,rfl⟩
     ·cases hv
    | mat el eli ty xss ov =>
     obtain ⟨_,raw,r1,r2⟩:=hbl
     have e3:(E nm).handle xss.length=.slice none 0 0:=by unfold Ent.handle;rw [hq];rfl
     rw [e3] at r1
     rcases r1.2 with ⟨_,hz⟩ | ⟨g,cap,cur,hv,_⟩
     ·have:n=0:=by rw [← hlen];exact hz
      subst this;exact ⟨none,0,rfl⟩
     ·cases hv
   ·exact ⟨_,_,rfl⟩
  obtain ⟨ao,cap,rfl⟩:=this
  exact ⟨_,by simp [Builtin.len_,hts,run_underlying hu,goInt];try rfl,rfl,rfl,rfl⟩
 ·rename_i e nm n b hu
  cases hc
  have hlen:b.len=n:=hn _ (by simp)
  obtain ⟨_,cap,_,rfl⟩:=(hp _ hb.symm).2 hlen
  exact ⟨_,by simp [Builtin.len_,hts,run_underlying hu,goInt];try rfl,rfl,rfl,rfl⟩
 ·rename_i e b hu
  cases hc
  simp only [AV.rel] at hp
  subst hp
  exact ⟨_,by simp [Builtin.len_,hts,run_underlying hu,goInt];try rfl,rfl,rfl,rfl⟩
 ·rename_i e nm g i k b hu
  cases hc
  have hlen:b.len=g:=hn _ (by simp)
  obtain ⟨ao,cap,rfl,_⟩:=(hp _ hb.symm).2 hlen
  exact ⟨_,by simp [Builtin.len_,hts,run_underlying hu,goInt];try rfl,rfl,rfl,rfl⟩
 ·rename_i n e hu
  cases hc
  refine ⟨.int .i64 n,?_,rfl,rfl,rfl⟩
  cases v <;> simp [Builtin.len_,hts,run_underlying hu,goInt]
 ·cases hc
def aDK (i:Nat):AV→Option Core
 | .tup vs=>match vs[i]? with | some v=>some { val:=v } | none=>none
 | _=>none
theorem aGD {P:Program} {C:Ctx} {w:World} {i:Nat} {p:AV} {c:Core} {v:Value} (hc:aDK i p=some c) (hp:p.rel P C v) :
  ∃ r,(Instr.extract v i).run P w=.ok r w∧c.val.rel P C r∧c.upd=[]∧c.new=none:=by
 unfold aDK at hc
 split at hc
 ·split at hc
  ·rename_i vs a hv
   cases hc
   obtain ⟨us,rfl,h2⟩:=hp
   obtain ⟨u,h3,h4⟩:=AV.relL_get h2 hv
   exact ⟨u,by simp [Instr.extract,h3],h4,rfl,rfl⟩
  ·cases hc
 ·cases hc
def aK7 (P:Program) (t:TypeId) (f:Nat):AV→Option Core
 | .agg cs=>match P.underlying t with
  | some (.struct fs)=>match fs[f]? with
   | some fd=>match kM P fd.type,sizeT P fd.type with
    | some true,some k=>if fd.offset + k≤cs.length then some { val:=.agg ((cs.drop fd.offset).take k) } else none
    | some false,_=>match cs[fd.offset]? with | some v=>some { val:=v } | none=>none
    | _,_=>none
   | none=>none
  | _=>none
 | _=>none
theorem aK6 {P:Program} {C:Ctx} {w:World} {t:TypeId} {f:Nat} {p:AV} {c:Core} {v:Value} (hc:aK7 P t f p=some c) (hp:p.rel P C v) :
  ∃ r,(Instr.field t v f).run P w=.ok r w∧c.val.rel P C r∧c.upd=[]∧c.new=none:=by
 unfold aK7 at hc
 split at hc
 ·rename_i cs
  obtain ⟨us,rfl,h2⟩:=hp
  split at hc
  ·rename_i fs hu
   split at hc
   ·rename_i fd hf
    split at hc
    ·rename_i k h3 h4
     split at hc
     ·rename_i hle
      cases hc
      have hl:=AV.relL_length h2
      refine ⟨.agg (us.toArray.extract fd.offset (fd.offset + k)),?_,⟨(us.drop fd.offset).take k,?_,AV.relL_take (AV.relL_drop h2 _) _⟩,rfl,rfl⟩
      ·simp [Instr.field,run_underlying hu,hf,part,oD h3,asAgg,dN h4]
      ·congr 1
       apply Array.ext'
       simp
     ·cases hc
    ·rename_i h3
     split at hc
     ·rename_i v hv
      cases hc
      obtain ⟨u,h5,h6⟩:=AV.relL_get h2 hv
      refine ⟨u,?_,h6,rfl,rfl⟩
      simp [Instr.field,run_underlying hu,hf,part,oD h3,asAgg,h5]
     ·cases hc
    ·cases hc
   ·cases hc
  ·cases hc
 ·cases hc
def aKK (s:ByteArray) (i:Int):Core:={ need:=[0≤i,i < (s.size:Int)],val:=.dat (.int .u8) (D.byte s i) }
def aKQ (P:Program) (t:TypeId):AV→AV→Option Core
 | .dat .str s,.dat (.int _) i=>match P.underlying t with
  | some .string=>some (aKK s i)
  | _=>none
 | _,_=>none
theorem aKP {P:Program} {C:Ctx} {w:World} {t:TypeId} {p i:AV} {c:Core} {v vi:Value} (hc:aKQ P t p i=some c) (hn:∀ q ∈ c.need,q) (hp:p.rel P C v) (hi:i.rel P C vi) :
  ∃ r,(Instr.index t v vi).run P w=.ok r w∧c.val.rel P C r∧c.upd=[]∧c.new=none:=by
 unfold aKQ at hc
 split at hc
 ·rename_i s k i
  split at hc
  ·rename_i hu
   cases hc
   simp only [AV.rel,aF,List.cons.injEq,and_true] at hp hi
   subst hp hi
   obtain ⟨i,rfl⟩:∃ j:Int,j=i:=⟨i,rfl⟩
   obtain ⟨s,rfl⟩:∃ j:ByteArray,j=s:=⟨s,rfl⟩
   have h0:(0:Int)≤i:=hn _ (by simp [aKK])
   have h1:i < (s.size:Int):=hn _ (by simp [aKK])
   have hlt:i.toNat < s.size:=by omega
   refine ⟨.int .u8 ((s.data.getD i.toNat 0).toNat:Int),?_,rfl,rfl,rfl⟩
   have e:s[i.toNat]?=some (s.data.getD i.toNat 0):=by
    have h2:i.toNat < s.data.size:=hlt
    rw [getElem?_pos s i.toNat hlt]
    show some (s.data[i.toNat])=_
    have e2:s.data.getD i.toNat 0=s.data[i.toNat]:=by unfold Array.getD;rw [dif_pos h2];rfl
    rw [e2]
   simp [Instr.index,asIntOf,run_underlying hu,h0,e]
  ·cases hc
 ·cases hc
def aEn (s:ByteArray) (l:Int) (h:Option Int):Core :=
 match h with
 | none=>{ need:=[0≤l,l≤(s.size:Int)],val:=.dat .str (D.aQp s l) }
 | some h=>{ need:=[0≤l,l≤h,h≤(s.size:Int)],val:=.dat .str (D.aQn s l h) }
def aEo (ty:Ty) (xs:List ty.den) (l:Int) (h:Option Int):Core :=
 match h with
 | none=>{ need:=[0≤l,l≤(xs.length:Int)],val:=.dat (.sl ty) (D.tail xs l) }
 | some h=>{ need:=[0≤l,l≤h,h≤(xs.length:Int)],val:=.dat (.sl ty) (D.part xs l h) }
def aUb:Option AV→Option (Option Int)
 | none=>some none
 | some (.dat (.int _) i)=>some (some i)
 | _=>none
def aCu (P:Program) (t:TypeId) (x:AV) (lo hi:Option AV):Option Core :=
 match x,P.underlying t,aUb lo,aUb hi with
 | .dat .str s,some .string,some l,some h=>some (aEn s (l.getD 0) h)
 | .dat (.sl ty) xs,some (.slice e),some l,some h=>if sizeT P e=some ty.sz then some (aEo ty xs (l.getD 0) h) else none
 | _,_,_,_=>none
def aT2 (P:Program) (C:Ctx):Option AV→Option Value→Prop
 | none,none=>True
 | some a,some v=>a.rel P C v
 | _,_=>False
theorem aAR {P:Program} {C:Ctx} {a:Option AV} {v:Option Value} {r:Option Int} (h:aUb a=some r) (hr:aT2 P C a v) :
  (r=none∧v=none)∨∃ k i,r=some i∧v=some (.int k i):=by
 cases a with
 | none =>
  cases v with
  | none=>cases h;exact .inl ⟨rfl,rfl⟩
  | some v=>exact hr.elim
 | some a =>
  cases v with
  | none=>exact hr.elim
  | some v =>
   unfold aUb at h
   split at h
   ·rename_i he;cases he
   ·rename_i k i he
    cases he;cases h
    simp only [aT2,AV.rel,aF,List.cons.injEq,and_true] at hr
    subst hr
    exact .inr ⟨k,i,rfl,rfl⟩
   ·cases h
theorem run_sliceBound {P:Program} {w:World} {k:IntKind} {i:Int} {y:Nat} {code:BoundsCode} (h0:0≤i) (h1:i≤y):(Instr.sliceBound (.int k i) y code).run P w=.ok i.toNat w:=by
 simp [Instr.sliceBound,asIntOf,h0,h1]
theorem wL {P:Program} {C:Ctx} {w:World} {t:TypeId} {x:AV} {lo hi:Option AV} {c:Core} {v:Value} {vl vh:Option Value} (hc:aCu P t x lo hi=some c) (hn:∀ q ∈ c.need,q)
  (hx:x.rel P C v) (hl:aT2 P C lo vl) (hh:aT2 P C hi vh) :
  ∃ r,(Instr.sliceAt t v vl vh none).run P w=.ok r w∧c.val.rel P C r∧c.upd=[]∧c.new=none:=by
 unfold aCu at hc
 split at hc
 ·rename_i s l h hu hbl hbh
  cases hc
  simp only [AV.rel,aF,List.cons.injEq,and_true] at hx
  subst hx
  obtain ⟨s,rfl⟩:∃ j:ByteArray,j=s:=⟨s,rfl⟩
  have hsl:∀ vl vh,Instr.slice t (.string s) vl vh none=Instr.slice t (.string s) vl vh none:=fun _ _=>rfl
  rcases aAR hbh hh with ⟨rfl,rfl⟩ | ⟨kh,ih,rfl,rfl⟩ <;> rcases aAR hbl hl with ⟨rfl,rfl⟩ | ⟨kl,il,rfl,rfl⟩
  ·refine ⟨_,?_,rfl,rfl,rfl⟩
   simp [Instr.sliceAt,run_underlying hu,Instr.slice,Instr.sliceBounds,D.aQp]
  ·have h0:0≤il:=hn _ (by simp [aEn])
   have h1:il≤(s.size:Int):=hn _ (by simp [aEn])
   refine ⟨_,?_,rfl,rfl,rfl⟩
   simp [Instr.sliceAt,run_underlying hu,Instr.slice,Instr.sliceBounds,D.aQp,run_sliceBound h0 h1]
  ·have h1:(0:Int)≤ih:=hn _ (by simp [aEn])
   have h2:ih≤(s.size:Int):=hn _ (by simp [aEn])
   refine ⟨_,?_,rfl,rfl,rfl⟩
   simp [Instr.sliceAt,run_underlying hu,Instr.slice,Instr.sliceBounds,D.aQn,run_sliceBound h1 h2]
  ·have h0:0≤il:=hn _ (by simp [aEn])
   have h1:il≤ih:=hn _ (by simp [aEn])
   have h2:ih≤(s.size:Int):=hn _ (by simp [aEn])
   refine ⟨_,?_,rfl,rfl,rfl⟩
   have h3:il≤(ih.toNat:Int):=by omega
   simp [Instr.sliceAt,run_underlying hu,Instr.slice,Instr.sliceBounds,D.aQn,run_sliceBound (show (0:Int)≤ih by omega) h2,run_sliceBound h0 h3]
 ·rename_i ty xs e l h hu hbl hbh
  split at hc
  ·rename_i hs
   cases hc
   obtain ⟨xs,rfl⟩:∃ j:List ty.den,j=xs:=⟨xs,rfl⟩
   have hsz:=dN hs w
   obtain ⟨ao,cap,g1,g2,g3,g4,g5⟩:=hx
   simp only [List.cons.injEq,and_true] at g1
   subst g1
   have part:∀ (l h:Nat),l≤h→h≤xs.length →
     (AV.dat (.sl ty) ((xs.take h).drop l)).rel P C (.slice (if cap=l then ao else ao.map (·.add (l * ty.sz))) (h - l) (cap - l)):=by
    intro l h hlh hhx
    refine ⟨_,cap - l,by rw [List.length_drop,List.length_take,Nat.min_eq_left hhx],by rw [List.length_drop,List.length_take];omega,?_,?_,?_⟩
    ·intro hno
     split at hno
     ·rename_i he;omega
     ·cases ao with
      | none=>have:=g3 rfl;omega
      | some a=>cases hno
    ·intro a ha hpos
     rw [List.length_drop,List.length_take] at hpos
     have hp0:0 < xs.length:=by omega
     split at ha
     ·exact g4 a ha hp0
     ·cases ao with
      | none=>cases ha
      | some a0 =>
       cases ha
       have:=g4 a0 rfl hp0
       cases a0 with | mk b o s=>simp only at this;subst this;simp only [Addr.add_mid]
    ·intro i y hy
     rw [List.getElem?_drop,List.getElem?_take] at hy
     split at hy
     ·rename_i hlt
      obtain ⟨a,ue,rfl,r1,r2,r3⟩:=g5 (l + i) y hy
      have hlt':=(List.getElem?_eq_some_iff.1 hy).1
      have hsp:=g4 a rfl (Nat.lt_of_le_of_lt (Nat.zero_le _) hlt')
      have hadd:a.add (l * ty.sz)=⟨a.block,a.off + l * ty.sz,none⟩:=by
       cases a with | mk b o s=>simp only at hsp;subst hsp;exact Addr.add_mid b o _
      refine ⟨⟨a.block,a.off + l * ty.sz,none⟩,ue,?_,r1,?_,r3⟩
      ·rw [if_neg (by omega)];simp [hadd]
      ·have:a.off + (l + i) * ty.sz=a.off + l * ty.sz + i * ty.sz:=by rw [Nat.add_mul];omega
       rw [← this];exact r2
     ·cases hy
   rcases aAR hbh hh with ⟨rfl,rfl⟩ | ⟨kh,ih,rfl,rfl⟩ <;> rcases aAR hbl hl with ⟨rfl,rfl⟩ | ⟨kl,il,rfl,rfl⟩
   ·have:=part 0 xs.length (Nat.zero_le _) (Nat.le_refl _)
    rw [List.take_length] at this
    refine ⟨_,?_,this,rfl,rfl⟩
    simp [Instr.sliceAt,run_underlying hu,Instr.slice,Instr.sliceBounds,hsz]
   ·have h0:0≤il:=hn _ (by simp [aEo])
    have h1:il≤(xs.length:Int):=hn _ (by simp [aEo])
    have:=part il.toNat xs.length (by omega) (Nat.le_refl _)
    rw [List.take_length] at this
    refine ⟨_,?_,this,rfl,rfl⟩
    simp [Instr.sliceAt,run_underlying hu,Instr.slice,Instr.sliceBounds,hsz,run_sliceBound h0 h1]
   ·have h1:(0:Int)≤ih:=hn _ (by simp [aEo])
    have h2:ih≤(xs.length:Int):=hn _ (by simp [aEo])
    have h2':ih≤(cap:Int):=by omega
    have:=part 0 ih.toNat (Nat.zero_le _) (by omega)
    refine ⟨_,?_,this,rfl,rfl⟩
    simp [Instr.sliceAt,run_underlying hu,Instr.slice,Instr.sliceBounds,hsz,run_sliceBound h1 h2']
   ·have h0:0≤il:=hn _ (by simp [aEo])
    have h1:il≤ih:=hn _ (by simp [aEo])
    have h2:ih≤(xs.length:Int):=hn _ (by simp [aEo])
    have h2':ih≤(cap:Int):=by omega
    have h3:il≤(ih.toNat:Int):=by omega
    have:=part il.toNat ih.toNat (by omega) (by omega)
    refine ⟨_,?_,this,rfl,rfl⟩
    simp [Instr.sliceAt,run_underlying hu,Instr.slice,Instr.sliceBounds,hsz,run_sliceBound (show (0:Int)≤ih by omega) h2',run_sliceBound h0 h3]
  ·cases hc
 ·cases hc
end Go.Eng
