/- The engine, part 13: a state that says less. -/
import Derived.Test.YtlobbofhlcjlmaaGreatDoorH12b
set_option linter.unusedSimpArgs false
set_option linter.unusedVariables false
namespace Go.Eng
open Go.RowKit
def aIK (m:Mem) (nm:Nat):Bool:=m.any fun p=>match p.2 with
 | .mat _ _ _ _ ov=>(AV.namesL (ov.map (·.2))).contains nm
 | _=>false
def gone (m m':Mem) (nm:Nat):Option Blk:=if aIK m nm then none else match m'.lookup nm with
 | some _=>none
 | none=>m.lookup nm
theorem kP {m m':Mem} {nm:Nat} {b:Blk} (h:gone m m' nm=some b):m.lookup nm=some b∧m'.lookup nm=none∧aIK m nm=false:=by
 unfold gone at h
 split at h
 ·cases h
 ·rename_i hf
  split at h
  ·cases h
  ·rename_i hno
   exact ⟨h,hno,Bool.eq_false_iff.2 hf⟩
def aHN (m m':Mem) (nm n:Nat) (t:Ty):Option (List Prop×List t.den) :=
 match gone m m' nm with
  | some (.buf _ t' xs [])=>if h:t'=t then some ([xs.length=n],h ▸ xs) else none
  | some (.buf _ (.sl e) xs [(i,.buf nm2 n2)])=>match gone m m' nm2 with
    | some (.buf _ e' zs [])=>if h:e'=e then if h2:Ty.sl e=t then some ([xs.length=n,zs.length=n2],h2 ▸ D.set (α:=List e.den) xs i (h ▸ zs)) else none else none
    | _=>none
  | some (.mat _ _ e xss [])=>if h:Ty.sl e=t then some ([xss.length=n],h ▸ xss) else none
  | _=>none
mutual
def leA (m m':Mem):AV→AV→Option (List Prop)
 | a,b=>match b with
  | .top=>some []
  | b=>match a,b with
   | .dat t x,.dat t' y=>if h:t=t' then some [h ▸ x=y] else none
   | .val v,.dat t y=>match v,t,y with
    | .slice none 0 0,.sl _,y=>some [y=[]]
    | _,_,_=>none
   | .val v,.buf nm n=>match v,m.lookup nm,m'.lookup nm with
    | .slice none 0 0,none,some (.buf _ _ ys [])=>some [n=0,ys=[]]
    | _,_,_=>none
   | .val v,.val v'=>some [v=v']
   | .buf nm n,.buf nm' n'=>if nm=nm' then match m.lookup nm with | some _=>some [n=n'] | none=>none else none
   | .buf nm n,.dat t y=>match t,y with
    | .sl t,y=>match aHN m m' nm n t with | some (ns,xs)=>some (ns ++ [xs=y]) | none=>none
    | _,_=>none
   | .ptr nm g i c,.ptr nm' g' i' c'=>if nm=nm' then match m.lookup nm with | some _=>some [g=g',i=i',c=c'] | none=>none else none
   | .ptr nm g i c,.ip t y=>match gone m m' nm with
    | some (.var cs)=>match gG t (cs.drop c) with
     | some (x,_)=>some [1=g,i=0,x=y]
     | none=>none
    | _=>none
   | .ip t x,.ip t' y=>if h:t=t' then some [h ▸ x=y] else none
   | .agg cs,.agg cs'=>leL m m' cs cs'
   | .tup cs,.tup cs'=>leL m m' cs cs'
   | .fn f cs,.fn f' cs'=>if f=f' then leL m m' cs cs' else none
   | .clo1 a r p g,.clo1 a' r' p' g'=>some [AV.clo1 a r p g=AV.clo1 a' r' p' g']
   | .clo2 a b r p g,.clo2 a' b' r' p' g'=>some [AV.clo2 a b r p g=AV.clo2 a' b' r' p' g']
   | .ifc t a,.ifc t' b=>if t=t' then leA m m' a b else none
   | .grd g a,b=>match leA m m' a b with | some ns=>some ((g=true) :: ns) | none=>none
   | .ptr nm g i c,.ipv b=>match gone m m' nm with
    | some (.var cs)=>match cs.drop c with
     | x :: _=>if nameless x then some [1=g,i=0,x=b] else none
     | []=>none
    | _=>none
   | .ptr nm g i 0,.ia t y=>match gone m m' nm with
    | some (.buf _ t' xs [])=>if h:t'=t then some [xs.length=g,i=0,h ▸ xs=y] else none
    | _=>none
   | .ipv a,.ipv b=>leA m m' a b
   | .ips cs,.ips cs'=>leL m m' cs cs'
   | .ia t x,.ia t' y=>if h:t=t' then some [h ▸ x=y] else none
   | .yld l,.yld l'=>some [l=l']
   | .av t x,.av t' y=>if h:t=t' then some [h ▸ x=y] else none
   | .pin u a,.pin u' b=>match leA m m' a b with | some ns=>some ((u=u') :: ns) | none=>none
   | _,_=>none
def leL (m m':Mem):List AV→List AV→Option (List Prop)
 | [],[]=>some []
 | a :: as,b :: bs=>match leA m m' a b,leL m m' as bs with
  | some p,some q=>some (p ++ q)
  | _,_=>none
 | _,_=>none
end
def aRM (m m':Mem) (t:Ty) (xs ys:List t.den) (i:Nat) (v:AV):Option (List Prop) :=
 match t,xs,ys,v with
 | .sl e,xs,ys,.buf nm2 n2=>match aHN m m' nm2 n2 e with
  | some (ns,zs)=>some (ns ++ [D.set (α:=List e.den) xs i zs=ys])
  | none=>none
 | _,_,_,_=>none
def aHw (m m':Mem) (eli:TypeId) (e:Ty) (xs ys:List (List e.den)) (i:Nat):AV→Option (List Prop)
 | .buf nm2 n2=>match m'.lookup nm2,m.lookup nm2 with
  | none,some (.buf el2 e2 zs [])=>if el2=eli then if h:e2=e then some [zs.length=n2,D.set (α:=List e.den) xs i (h ▸ zs)=ys] else none else none
  | _,_=>none
 | _=>none
def aNP (e:Ty) (t:Ty) (xs:List t.den) (ys:List (List e.den)):Option (List Prop) :=
 if h:t=.sl e then if e.sz=1 then some [(h ▸ xs:List (Ty.den (.sl e)))=ys,D.aTJ ys] else none else none
def leB (m m':Mem):Blk→Blk→Option (List Prop)
 | .var cs,.var cs'=>leL m m' cs cs'
 | .buf el t xs ov,.buf el' t' ys ov'=>if el=el' then if h:t=t' then match ov,ov' with
   | [],[]=>some [h ▸ xs=ys]
   | [(i,v)],[(i',v')]=>match leA m m' v v' with
    | some ns=>some ([h ▸ xs=ys,i=i'] ++ ns)
    | none=>none
   | [(i,v)],[]=>aRM m m' t' (h ▸ xs) ys i v
   | _,_=>none
  else none else none
 | .buf el t xs [],.mat el' _ e ys []=>if el=el' then aNP e t xs ys else none
 | .mat el eli e xs ov,.mat el' eli' e' ys ov'=>if el=el'∧eli=eli' then if h:e=e' then match ov,ov' with
   | [],[]=>some [h ▸ xs=ys]
   | [(i,v)],[(i',v')]=>match leA m m' v v' with
    | some ns=>some ([h ▸ xs=ys,i=i'] ++ ns)
    | none=>none
   | [(i,v)],[]=>aHw m m' eli e' (h ▸ xs) ys i v
   | _,_=>none
  else none else none
 | _,_=>none
def leM (m m':Mem):Mem→Option (List Prop)
 | []=>some []
 | (nm,b') :: r=>match (match m.lookup nm with
   | some b=>leB m m' b b'
   | none=>match b' with
    | .buf _ _ ys []=>some [ys=[]]
    | _=>none),leM m m' r with
  | some p,some q=>some (p ++ q)
  | _,_=>none
def aCF:Mem→List Nat
 | []=>[]
 | (nm,.mat _ _ _ _ (_ :: _)) :: r=>nm :: aCF r
 | _ :: r=>aCF r
def aLV (s s':St):Option (List Prop) :=
 if s.tm.length=s'.tm.length∧(aCF s.mem).length≤1 then match leL s.mem s'.mem s.tm s'.tm,leM s.mem s'.mem s'.mem,leL s.mem s'.mem s.sv s'.sv with
  | some p,some q,some r=>some (p ++ q ++ r)
  | _,_,_=>none
 else none
section
variable {S:Base} {s s':St} {a:Act} {w:World} {D:Nat→Prop} {E:Nat→Ent}
def aO9 (m m':Mem) (D:Nat→Prop) (E:Nat→Ent) (b:Nat):Prop:=D b∨(∃ nm blk,m.lookup nm=some blk∧m'.lookup nm=none∧aIK m nm=false∧(E nm).isNil=false∧b=(E nm).b)∨∃ nm i,m'.lookup nm=none∧dY (fun k=>m.lookup k) E nm i b
def aRb (E:Nat→Ent) (nm:Nat):Blk→Nat→Nat×Nat
 | .mat _ _ _ _ [(i,.buf nm2 _)]=>fun k=>if k=i then ((E nm2).b,(E nm2).cap) else (E nm).rb k
 | _=>(E nm).rb
def aB9 (m:Mem) (E:Nat→Ent) (nm:Nat):Ent:=match m.lookup nm with | some b=>⟨(E nm).b,(E nm).cap,(E nm).isNil,aRb E nm b⟩ | none=>⟨0,0,true,noR⟩
theorem aFf {m:Mem} {E:Nat→Ent} {nm:Nat} {b:Blk} (h:m.lookup nm=some b):aB9 m E nm=⟨(E nm).b,(E nm).cap,(E nm).isNil,aRb E nm b⟩:=by unfold aB9;rw [h]
theorem aBQ {m:Mem} {E:Nat→Ent} {nm:Nat} {b:Blk} (h:m.lookup nm=some b) (n:Nat):(aB9 m E nm).handle n=(E nm).handle n:=by rw [aFf h];rfl
def aIO (s:St) (w:World) (D:Nat→Prop) (E:Nat→Ent):Ctx:=⟨w,D,s.sig.m,E⟩
def ctx1 (s s':St) (w:World) (D:Nat→Prop) (E:Nat→Ent):Ctx:=⟨w,aO9 s.mem s'.mem D E,s'.sig.m,aB9 s.mem E⟩
theorem nM (h:aZ S s.sig a w D E) {nm:Nat} {el:TypeId} {t:Ty} {xs:List t.den} {ov:List (Nat×AV)} (hm:s.mem.lookup nm=some (.buf el t xs ov)) :
  ∃ raw,dV S.P (aIO s w D E) t xs ov raw∧raw.length=xs.length * t.sz ∧
   (((E nm).isNil=true∧xs=[]∧(E nm).handle xs.length=.slice none 0 0) ∨
    ((E nm).isNil=false∧(E nm).handle xs.length=.slice (some ⟨(E nm).b,0,none⟩) xs.length (E nm).cap∧xs.length≤(E nm).cap∧gU w (E nm).b 0 raw)):=by
 obtain ⟨raw,r1,r2⟩:=h.bl nm _ hm
 refine ⟨raw,r2,r1.1,?_⟩
 cases hnil:(E nm).isNil with
 | true =>
  have e3:(E nm).handle xs.length=.slice none 0 0:=by unfold Ent.handle;rw [hnil];rfl
  rw [e3] at r1
  rcases r1.2 with ⟨_,hz⟩ | ⟨g,cap,cur,hq,_⟩
  ·exact .inl ⟨rfl,List.eq_nil_of_length_eq_zero hz,e3⟩
  ·cases hq
 | false =>
  have e3:(E nm).handle xs.length=.slice (some ⟨(E nm).b,0,none⟩) xs.length (E nm).cap:=by unfold Ent.handle;rw [hnil];rfl
  rw [e3] at r1
  refine .inr ⟨rfl,e3,?_,fun j u hj=>?_⟩
  ·rcases r1.2 with ⟨hq,_⟩ | ⟨g,cap,cur,hq,_,_,hle,_⟩
   ·cases hq
   ·simp only [Value.slice.injEq,true_and] at hq
    omega
  ·have hlt:j < xs.length * t.sz:=by rw [← r1.1];exact (List.getElem?_eq_some_iff.1 hj).1
   show w.cell? ⟨(E nm).b,0 + j,none⟩=some u
   rw [Nat.zero_add,r1.cellAt j hlt];exact hj
theorem dS {m m':Mem}:∀ b,D b→aO9 m m' D E b:=fun _ h=>.inl h
theorem sU (h:aZ S s.sig a w D E) {nm:Nat} {el:TypeId} {t:Ty} {xs:List t.den} (hg:gone s.mem s'.mem nm=some (.buf el t xs [])) :
  aF w (aO9 s.mem s'.mem D E) (.sl t) xs [(E nm).handle xs.length]:=by
 obtain ⟨hm,hno,hf⟩:=kP hg
 obtain ⟨raw,r1,r2,r3⟩:=nM h hm
 rcases r3 with ⟨_,rfl,e⟩ | ⟨hnil,e,hle,hc⟩
 ·rw [e];exact bU _ _ _
 ·rw [e]
  refine ⟨_,_,rfl,hle,(fun h=>by cases h),(fun ad had _=>by cases had;rfl),fun i y hy=>?_⟩
  have hr:=r1 i y hy
  simp only [List.lookup] at hr
  refine ⟨_,_,rfl,.inr (.inl ⟨nm,_,hm,hno,hf,hnil,rfl⟩),?_,aH dS (fun _ _=>rfl) hr⟩
  intro j u hj
  rw [List.getElem?_take] at hj
  split at hj
  ·rw [List.getElem?_drop] at hj
   have:=hc (i * t.sz + j) u hj
   show w.cell? ⟨(E nm).b,0 + i * t.sz + j,none⟩=some u
   rw [Nat.zero_add] at this ⊢;exact this
  ·cases hj
theorem aEU (h:aZ S s.sig a w D E) {nm:Nat} {el eli:TypeId} {t:Ty} {xss:List (List t.den)} (hg:gone s.mem s'.mem nm=some (.mat el eli t xss [])) :
  aF w (aO9 s.mem s'.mem D E) (.sl (.sl t)) xss [(E nm).handle xss.length]:=by
 obtain ⟨hm,hno,hf⟩:=kP hg
 obtain ⟨h0,raw,r1,r2⟩:=h.bl nm _ hm
 cases hnil:(E nm).isNil with
 | true =>
  have e3:(E nm).handle xss.length=.slice none 0 0:=by unfold Ent.handle;rw [hnil];rfl
  rw [e3] at r1 ⊢
  rcases r1.2 with ⟨_,hz⟩ | ⟨g,cap,cur,hq,_⟩
  ·have:xss=[]:=List.eq_nil_of_length_eq_zero hz
   subst this
   exact bU _ _ _
  ·cases hq
 | false =>
  have e3:(E nm).handle xss.length=.slice (some ⟨(E nm).b,0,none⟩) xss.length (E nm).cap:=by unfold Ent.handle;rw [hnil];rfl
  rw [e3] at r1 ⊢
  have hle:xss.length≤(E nm).cap:=by
   rcases r1.2 with ⟨hq,_⟩ | ⟨g,cap,cur,hq,_,_,hle,_⟩
   ·cases hq
   ·simp only [Value.slice.injEq,true_and] at hq
    omega
  refine ⟨_,_,rfl,hle,(fun h=>by cases h),(fun ad had _=>by cases had;rfl),fun i row hi=>?_⟩
  obtain ⟨u,g1,g2⟩:=r2 i row hi
  simp only [List.lookup] at g2
  obtain ⟨ao,cap,q2,k1,k0,k2⟩:=g2
  refine ⟨_,[u],rfl,.inr (.inl ⟨nm,_,hm,hno,hf,hnil,rfl⟩),?_,?_⟩
  ·intro j v hj
   cases j with
   | succ j=>simp at hj
   | zero =>
    simp at hj
    subst hj
    have hlt:i < xss.length * 1:=by have:=(List.getElem?_eq_some_iff.1 hi).1;omega
    show w.cell? ⟨(E nm).b,0 + i * 1 + 0,none⟩=some u
    rw [Nat.zero_add,Nat.mul_one,Nat.add_zero,r1.cellAt i hlt];exact g1
  ·by_cases hp:0 < row.length
   ·obtain ⟨p1,p2,p3⟩:=k2 hp
    subst k1 p1
    have hle2:row.length≤cap:=by
     rcases p2.2 with ⟨hq,_⟩ | ⟨g,cap',cur,hq,_,_,hle,_⟩
     ·cases hq
     ·simp only [Value.slice.injEq,true_and] at hq
      omega
    refine ⟨_,_,rfl,hle2,(fun h=>by cases h),(fun ad had _=>by cases had;rfl),fun j y hy=>?_⟩
    have hr:=p3 j y hy
    simp only [List.lookup] at hr
    refine ⟨_,_,rfl,.inr (.inr ⟨nm,i,hno,el,eli,t,xss,[],row,hm,rfl,hi,hp,rfl⟩),?_,aH dS (fun _ _=>rfl) hr⟩
    intro z v hz
    rw [List.getElem?_take] at hz
    split at hz
    ·rename_i hz1
     rw [List.getElem?_drop] at hz
     have hj:=(List.getElem?_eq_some_iff.1 hy).1
     have hlt:j * t.sz + z < row.length * 1:=by rw [h0] at hz1 ⊢;omega
     show w.cell? ⟨((E nm).rb i).1,0 + j * t.sz + z,none⟩=some v
     rw [Nat.zero_add,p2.cellAt _ hlt];exact hz
    ·cases hz
   ·have:row=[]:=List.eq_nil_of_length_eq_zero (by omega)
    subst this k1
    exact ⟨ao,cap,rfl,Nat.zero_le _,k0,fun _ _ h=>absurd h (Nat.lt_irrefl _),fun j y hy=>by cases hy⟩
theorem aCW (h:aZ S s.sig a w D E) {nm n:Nat} {t:Ty} {ns:List Prop} {xs:List t.den} {v:Value} (hc:aHN s.mem s'.mem nm n t=some (ns,xs)) (hn:∀ q ∈ ns,q)
  (hv:(AV.buf nm n).rel S.P (aIO s w D E) v):aF w (aO9 s.mem s'.mem D E) (.sl t) xs [v]:=by
 unfold aHN at hc
 split at hc
 ·rename_i el t' xs' hgo
  obtain ⟨hm,hno,hf⟩:=kP hgo
  split at hc
  ·rename_i ht
   subst ht
   cases hc
   have hlen:xs'.length=n:=hn _ (by simp)
   have e0:=(hv _ hm).2 hlen
   rw [← hlen] at e0
   rw [e0]
   exact sU h hgo
  ·cases hc
 ·rename_i el e xs' i nm2 n2 hgo
  obtain ⟨hm,hno,hf⟩:=kP hgo
  split at hc
  case h_2=>cases hc
  rename_i el2 e' zs hgo2
  obtain ⟨hm2,hno2,hf2⟩:=kP hgo2
  split at hc
  case isFalse=>cases hc
  rename_i he
  subst he
  split at hc
  case isFalse=>cases hc
  rename_i ht
  subst ht
  cases hc
  have hlen:xs'.length=n:=hn _ (by simp)
  have hlen2:zs.length=n2:=hn _ (by simp)
  have e0:=(hv _ hm).2 hlen
  rw [← hlen] at e0
  obtain ⟨raw,r1,r2,r3⟩:=nM h hm
  simp only [Ty.sz,Nat.mul_one] at r2
  rcases r3 with ⟨_,hx,e⟩ | ⟨hnil,e,hle,hc⟩
  ·have:xs'=[]:=hx
   subst this
   have e1:v=.slice none 0 0:=e0.trans e
   rw [e1];exact bU _ _ _
  ·have e1:=e0.trans e
   rw [e1]
   refine ⟨_,_,by rw [D.set,List.length_set],by rw [D.set,List.length_set];exact hle,(fun h=>by cases h),(fun ad had _=>by cases had;rfl),fun k y hy=>?_⟩
   have hy':(List.set xs' i zs)[k]?=some y:=hy
   have hk:k < xs'.length:=by have:=(List.getElem?_eq_some_iff.1 hy').1;rwa [List.length_set] at this
   have hx:=r1 k _ (List.getElem?_eq_getElem hk)
   refine ⟨⟨(E nm).b,0,none⟩,(raw.drop (k * 1)).take 1,rfl,.inr (.inl ⟨nm,_,hm,hno,hf,hnil,rfl⟩),?_,?_⟩
   ·intro j u hj
    rw [List.getElem?_take] at hj
    split at hj
    ·rename_i hj1
     rw [List.getElem?_drop] at hj
     have:=hc (k * 1 + j) u hj
     show w.cell? ⟨(E nm).b,0 + k * 1 + j,none⟩=some u
     rw [Nat.zero_add] at this ⊢;exact this
    ·cases hj
   ·rw [List.getElem?_set] at hy'
    split at hy'
    ·rename_i eik
     subst eik
     rw [if_pos hk] at hy'
     cases hy'
     simp only [List.lookup,beq_self_eq_true] at hx
     obtain ⟨_,u,hu,_,hur⟩:=hx
     have e4:(raw.drop (i * 1)).take 1=[u]:=by
      rw [Nat.mul_one]
      apply List.ext_getElem?
      intro q
      rw [List.getElem?_take]
      cases q with
      | zero=>simp [hu]
      | succ q=>simp
     rw [e4,(hur _ hm2).2 hlen2,← hlen2]
     exact sU h hgo2
    ·rename_i hne
     have hb:(k == i)=false:=by simpa using fun e=>hne e.symm
     simp only [List.lookup,hb] at hx
     have:y=xs'[k]:=by rw [List.getElem?_eq_getElem hk] at hy';exact (Option.some.inj hy').symm
     rw [this]
     exact aH dS (fun _ _=>rfl) hx
 ·rename_i el eli e xss hgo
  obtain ⟨hm,hno,hf⟩:=kP hgo
  split at hc
  case isFalse=>cases hc
  rename_i ht
  subst ht
  cases hc
  have hlen:xss.length=n:=hn _ (by simp)
  have e0:=(hv _ hm).2 hlen
  rw [← hlen] at e0
  rw [e0]
  exact aEU h hgo
 ·cases hc
theorem aLa {t t':Ty} {x:t.den} {y:t'.den} {w:World} {D:Nat→Prop} {us:List Value} (h:t=t') (e:h ▸ x=y) (hr:aF w D t x us):aF w D t' y us:=by
 subst h;simp only at e;subst e;exact hr
def Names (m m':Mem):Prop:=∀ nm b b',m.lookup nm=some b→m'.lookup nm=some b'→b.len=b'.len∧b.es=b'.es
mutual
theorem sD (h:aZ S s.sig a w D E) (hN:Names s.mem s'.mem):∀ {x y:AV} {ns:List Prop} {v:Value},leA s.mem s'.mem x y=some ns→(∀ q ∈ ns,q)→x.rel S.P (aIO s w D E) v→y.rel S.P (ctx1 s s' w D E) v
 | x,y,ns,v,hc,hn,hx=>by
  unfold leA at hc
  split at hc
  ·trivial
  ·rename_i hnt
   split at hc
   ·-- data
    split at hc
    ·rename_i ht
     cases hc
     exact aH dS (fun _ _=>rfl) (aLa ht (hn _ (by simp)) hx)
    ·cases hc
   ·-- nil as data
    split at hc
    ·rename_i e0 y0
     cases hc
     have hy:y0=[]:=hn _ (List.mem_singleton.2 rfl)
     simp only [AV.rel] at hx
     subst hx hy
     exact bU _ _ _
    ·cases hc
   ·-- nil as an empty buffer
    rename_i u nm n
    split at hc
    ·rename_i el ty ys hno hm'
     cases hc
     have h1:n=0:=hn _ (by simp)
     have h2:ys=[]:=hn _ (by simp)
     simp only [AV.rel] at hx
     subst hx
     intro b hb
     have e:b=.buf el ty ys []:=Option.some.inj (hb.symm.trans hm')
     subst e h1 h2
     refine ⟨Nat.le_refl _,fun _=>?_⟩
     show _=(aB9 s.mem E nm).handle 0
     unfold aB9;rw [hno];rfl
    ·cases hc
   ·cases hc
    have e:_=_:=hn _ (List.mem_singleton.2 rfl)
    simp only [AV.rel] at hx ⊢
    rw [hx];exact e
   ·-- a buffer
    rename_i nm n nm' n'
    split at hc
    case isFalse=>cases hc
    rename_i e
    subst e
    split at hc
    case h_2=>cases hc
    rename_i blk hm
    cases hc
    have e2:n=n':=hn _ (by simp)
    subst e2
    intro b' hb'
    obtain ⟨l1,l2⟩:=hN nm blk b' hm hb'
    obtain ⟨g1,g2⟩:=hx blk hm
    refine ⟨by omega,fun e=>?_⟩
    show v=(aB9 s.mem E nm).handle n
    rw [aBQ hm];exact g2 (by omega)
   ·-- a buffer as data
    rename_i nm n t y
    split at hc
    ·rename_i t y
     split at hc
     ·rename_i ns' xs hd
      cases hc
      have e:xs=y:=hn _ (by simp)
      subst e
      exact aCW h hd (fun q hq=>hn q (by simp [hq])) hx
     ·cases hc
    ·cases hc
   ·-- a pointer
    rename_i nm g i c nm' g' i' c'
    split at hc
    case isFalse=>cases hc
    rename_i e
    subst e
    split at hc
    case h_2=>cases hc
    rename_i blk hm
    cases hc
    have e1:g=g':=hn _ (by simp)
    have e2:i=i':=hn _ (by simp)
    have e3:c=c':=hn _ (by simp)
    subst e1 e2 e3
    intro b' hb'
    obtain ⟨l1,l2⟩:=hN nm blk b' hm hb'
    obtain ⟨g1,g2⟩:=hx blk hm
    refine ⟨by omega,fun e=>?_⟩
    obtain ⟨q1,q2,q3⟩:=g2 (by omega)
    have q2':(E nm).isNil=false:=q2
    refine ⟨q1,?_,?_⟩
    ·show (aB9 s.mem E nm).isNil=false
     rw [aFf hm];exact q2'
    ·show v=.pointer (some ⟨(aB9 s.mem E nm).b,_,none⟩)
     rw [aFf hm,← l2];exact q3
   ·-- a variable that is let go
    rename_i nm g i c t y
    split at hc
    case h_2=>cases hc
    rename_i cs hgo
    obtain ⟨hm,hno,hf⟩:=kP hgo
    split at hc
    case h_2=>cases hc
    rename_i x rest hof
    cases hc
    have e1:1=g:=hn _ (by simp)
    have e2:i=0:=hn _ (by simp)
    have e3:x=y:=hn _ (by simp)
    subst e2 e3
    obtain ⟨_,q2,q3⟩:=(hx _ hm).2 e1
    have q2':(E nm).isNil=false:=q2
    obtain ⟨_,us,el,r1,r2⟩:=h.bl nm _ hm
    have hd:=AV.relL_drop r2 c
    obtain ⟨u1,u2,e,p1,p2⟩:=fQ hof hd
    have q3':v=.pointer (some ⟨(E nm).b,c,none⟩):=by
     have:(Blk.var cs).es * 0=0:=Nat.mul_zero _
     rw [q3];show Value.pointer (some ⟨(E nm).b,0 * _ + c,none⟩)=_;rw [Nat.zero_mul,Nat.zero_add]
    refine ⟨(E nm).b,c,u1,q3',.inr (.inl ⟨nm,_,hm,hno,hf,q2',rfl⟩),?_,aH dS (fun _ _=>rfl) p1⟩
    intro j u hj
    have r1':w.heap[(E nm).b]?=some (.cells us el (0,0)):=r1
    show w.cell? ⟨(E nm).b,c + j,none⟩=some u
    rw [cell_of_row w _ _ us el (0,0) r1']
    have:(us.toList.drop c)[j]?=some u:=by rw [e,List.getElem?_append_left (List.getElem?_eq_some_iff.1 hj).1];exact hj
    rw [List.getElem?_drop] at this
    simpa using this
   ·split at hc
    ·rename_i ht
     cases hc
     obtain ⟨b,off,us,g1,g2,g3,g4⟩:=hx
     exact ⟨b,off,us,g1,.inl g2,g3,aH dS (fun _ _=>rfl) (aLa ht (hn _ (by simp)) g4)⟩
    ·cases hc
   ·obtain ⟨us,e,g⟩:=hx
    exact ⟨us,e,vP h hN hc hn g⟩
   ·obtain ⟨us,e,g⟩:=hx
    exact ⟨us,e,vP h hN hc hn g⟩
   ·split at hc
    ·rename_i ef
     subst ef
     obtain ⟨us,e,g⟩:=hx
     exact ⟨us,e,vP h hN hc hn g⟩
    ·cases hc
   ·cases hc
    have e:=hn _ (List.mem_singleton.2 rfl)
    rw [← e]
    exact AV.rel_mono (C:=aIO s w D E) (C':=ctx1 s s' w D E) ⟨dS,fun _ _=>rfl⟩ (fun nm hm=>by simp [AV.names] at hm) hx
   ·cases hc
    have e:=hn _ (List.mem_singleton.2 rfl)
    rw [← e]
    exact AV.rel_mono (C:=aIO s w D E) (C':=ctx1 s s' w D E) ⟨dS,fun _ _=>rfl⟩ (fun nm hm=>by simp [AV.names] at hm) hx
   ·split at hc
    ·rename_i et
     subst et
     obtain ⟨u,e,g⟩:=hx
     exact ⟨u,e,sD h hN hc hn g⟩
    ·cases hc
   ·rename_i g x'
    split at hc
    ·rename_i ns' hns
     cases hc
     have hg:g=true:=hn _ (by simp)
     exact sD h hN hns (fun q hq=>hn q (by simp [hq])) (hx.1 hg)
    ·cases hc
   ·-- a variable that is let go,whatever it holds
    rename_i nm g i c b'
    split at hc
    case h_2=>cases hc
    rename_i cs hgo
    obtain ⟨hm,hno,hf⟩:=kP hgo
    split at hc
    case h_2=>cases hc
    rename_i x rest hdr
    split at hc
    case isFalse=>cases hc
    rename_i hnl
    cases hc
    have e1:1=g:=hn _ (by simp)
    have e2:i=0:=hn _ (by simp)
    have e3:x=b':=hn _ (by simp)
    subst e2 e3
    obtain ⟨_,q2,q3⟩:=(hx _ hm).2 e1
    have q2':(E nm).isNil=false:=q2
    obtain ⟨_,us,el,r1,r2⟩:=h.bl nm _ hm
    have hd:=AV.relL_drop r2 c
    rw [hdr] at hd
    obtain ⟨u,us',e,p1,p2⟩:=hd
    have q3':v=.pointer (some ⟨(E nm).b,c,none⟩):=by
     rw [q3];show Value.pointer (some ⟨(E nm).b,0 * _ + c,none⟩)=_;rw [Nat.zero_mul,Nat.zero_add]
    refine ⟨(E nm).b,c,u,q3',.inr (.inl ⟨nm,_,hm,hno,hf,q2',rfl⟩),?_,aAh (C:=aIO s w D E) (C':=ctx1 s s' w D E) hnl ⟨dS,fun _ _=>rfl⟩ p1⟩
    have r1':w.heap[(E nm).b]?=some (.cells us el (0,0)):=r1
    show w.cell? ⟨(E nm).b,c,none⟩=some u
    rw [cell_of_row w _ _ us el (0,0) r1']
    have:(us.toList.drop c)[0]?=some u:=by rw [e];rfl
    rw [List.getElem?_drop] at this
    simpa using this
   ·-- an array that is let go
    rename_i nm g i t y
    split at hc
    case h_2=>cases hc
    rename_i el t' xs hgo
    obtain ⟨hm,hno,hf⟩:=kP hgo
    split at hc
    case isFalse=>cases hc
    rename_i ht
    subst ht
    cases hc
    have e1:xs.length=g:=hn _ (by simp)
    have e2:i=0:=hn _ (by simp)
    have e3:xs=y:=hn _ (by simp)
    subst e2 e3
    obtain ⟨_,q2,q3⟩:=(hx _ hm).2 e1
    have q2':(E nm).isNil=false:=q2
    have hp:=sU (s':=s') h hgo
    have e4:(E nm).handle xs.length=.slice (some ⟨(E nm).b,0,none⟩) xs.length (E nm).cap:=by unfold Ent.handle;rw [q2'];rfl
    rw [e4] at hp
    have q3':v=.pointer (some ⟨(E nm).b,0,none⟩):=by
     rw [q3];show Value.pointer (some ⟨(E nm).b,0 * _ + 0,none⟩)=_;rw [Nat.zero_mul]
    exact ⟨(E nm).b,0,q3',aEC hp _ (Nat.le_refl _)⟩
   ·obtain ⟨b,off,u,g1,g2,g3,g4⟩:=hx
    exact ⟨b,off,u,g1,.inl g2,g3,sD h hN hc hn g4⟩
   ·obtain ⟨b,off,us,g1,g2,g3,g4⟩:=hx
    exact ⟨b,off,us,g1,.inl g2,g3,vP h hN hc hn g4⟩
   ·split at hc
    ·rename_i ht
     cases hc
     subst ht
     have e:=hn _ (List.mem_singleton.2 rfl)
     simp only at e
     subst e
     obtain ⟨b,off,g1,g2⟩:=hx
     exact ⟨b,off,g1,aH dS (fun _ _=>rfl) g2⟩
    ·cases hc
   ·cases hc
    have e:=hn _ (List.mem_singleton.2 rfl)
    subst e
    exact hx
   ·split at hc
    ·rename_i ht
     cases hc
     subst ht
     have e:=hn _ (List.mem_singleton.2 rfl)
     simp only at e
     subst e
     obtain ⟨us,g1,g2,g3⟩:=hx
     exact ⟨us,g1,g2,fun i y hy=>aH dS (fun _ _=>rfl) (g3 i y hy)⟩
    ·cases hc
   ·split at hc
    ·rename_i ns' hns
     cases hc
     exact ⟨hx.1.trans (hn _ (by simp)),sD h hN hns (fun q hq=>hn q (by simp [hq])) hx.2⟩
    ·cases hc
   ·cases hc
theorem vP (h:aZ S s.sig a w D E) (hN:Names s.mem s'.mem):∀ {xs ys:List AV} {ns:List Prop} {vs:List Value},leL s.mem s'.mem xs ys=some ns→(∀ q ∈ ns,q)→AV.relL S.P (aIO s w D E) xs vs→AV.relL S.P (ctx1 s s' w D E) ys vs
 | [],[],ns,vs,hc,hn,hx=>hx
 | x :: xs,y :: ys,ns,vs,hc,hn,hx=>by
  simp only [leL] at hc
  split at hc
  ·rename_i p q h1 h2
   cases hc
   obtain ⟨v,vs',e,g1,g2⟩:=hx
   exact ⟨v,vs',e,sD h hN h1 (fun z hz=>hn z (List.mem_append.2 (.inl hz))) g1,vP h hN h2 (fun z hz=>hn z (List.mem_append.2 (.inr hz))) g2⟩
  ·cases hc
 | [],_ :: _,ns,vs,hc,hn,hx=>by simp [leL] at hc
 | _ :: _,[],ns,vs,hc,hn,hx=>by simp [leL] at hc
end
end
end Go.Eng
