/- The engine, part 14: a state that says less: blocks, and the whole. -/
import Derived.Test.YtlobbofhlcjlmaaGreatDoorH13
set_option linter.unusedSimpArgs false
set_option linter.unusedVariables false
namespace Go.Eng
open Go.RowKit
theorem aCK {m m':Mem}:∀ {xs ys:List AV} {ns:List Prop},leL m m' xs ys=some ns→xs.length=ys.length
 | [],[],_,_=>rfl
 | x :: xs,y :: ys,ns,h=>by
  simp only [leL] at h
  split at h
  ·rename_i p q h1 h2;simp [aCK h2]
  ·cases h
 | [],_ :: _,_,h=>by simp [leL] at h
 | _ :: _,[],_,h=>by simp [leL] at h
theorem aO3 {m m':Mem}:∀ {xs ys:List AV} {ns:List Prop} {i:Nat} {y:AV},leL m m' xs ys=some ns→ys[i]?=some y→∃ x p,xs[i]?=some x∧leA m m' x y=some p∧∀ q ∈ p,q ∈ ns
 | [],[],_,i,y,_,h=>by simp at h
 | x :: xs,y :: ys,ns,i,z,h,hi=>by
  simp only [leL] at h
  split at h
  ·rename_i p q h1 h2
   cases h
   cases i with
   | zero=>simp at hi;subst hi;exact ⟨x,p,rfl,h1,fun z hz=>List.mem_append.2 (.inl hz)⟩
   | succ i =>
    simp at hi
    obtain ⟨x',p',g1,g2,g3⟩:=aO3 h2 hi
    exact ⟨x',p',by simpa using g1,g2,fun z hz=>List.mem_append.2 (.inr (g3 z hz))⟩
  ·cases h
 | [],_ :: _,_,_,_,h,_=>by simp [leL] at h
 | _ :: _,[],_,_,_,h,_=>by simp [leL] at h
theorem aQY {m m':Mem} {b b':Blk} {ns:List Prop} (h:leB m m' b b'=some ns) (hn:∀ q ∈ ns,q):b.len=b'.len∧b.es=b'.es:=by
 unfold leB at h
 split at h
 ·exact ⟨rfl,aCK h⟩
 ·split at h
  case isFalse=>cases h
  split at h
  case isFalse=>cases h
  rename_i ht
  subst ht
  split at h
  ·cases h
   have e:=hn _ (List.mem_singleton.2 rfl)
   simp only at e
   subst e
   exact ⟨rfl,rfl⟩
  ·split at h
   ·cases h
    have e:=hn _ (List.mem_cons_self)
    simp only at e
    subst e
    exact ⟨rfl,rfl⟩
   ·cases h
  ·unfold aRM at h
   split at h
   ·split at h
    ·cases h
     have e:=hn _ (List.mem_append.2 (.inr (List.mem_singleton.2 rfl)))
     subst e
     exact ⟨by simp [Blk.len,D.set],rfl⟩
    ·cases h
   ·cases h
  ·cases h
 ·split at h
  case isFalse=>cases h
  unfold aNP at h
  split at h
  case isFalse=>cases h
  rename_i ht
  subst ht
  split at h
  case isFalse=>cases h
  cases h
  have e:=hn _ List.mem_cons_self
  simp only at e
  subst e
  exact ⟨rfl,rfl⟩
 ·split at h
  case isFalse=>cases h
  split at h
  case isFalse=>cases h
  rename_i ht
  subst ht
  split at h
  ·cases h
   have e:=hn _ (List.mem_singleton.2 rfl)
   simp only at e
   subst e
   exact ⟨rfl,rfl⟩
  ·split at h
   ·cases h
    have e:=hn _ (List.mem_cons_self)
    simp only at e
    subst e
    exact ⟨rfl,rfl⟩
   ·cases h
  ·unfold aHw at h
   split at h
   ·split at h
    ·split at h
     case isFalse=>cases h
     split at h
     case isFalse=>cases h
     rename_i e2
     subst e2
     cases h
     have e:=hn _ (List.mem_cons_of_mem _ (List.mem_singleton.2 rfl))
     subst e
     exact ⟨by simp [Blk.len,D.set],rfl⟩
    ·cases h
   ·cases h
  ·cases h
 ·cases h
section
variable {S:Base} {s s':St} {a:Act} {w:World} {D:Nat→Prop} {E:Nat→Ent}
theorem aHv {m m':Mem}:∀ {l:Mem} {ns:List Prop} {nm:Nat} {b':Blk},leM m m' l=some ns→l.lookup nm=some b'→(∀ q ∈ ns,q) →
  (∃ b p,m.lookup nm=some b∧leB m m' b b'=some p∧∀ q ∈ p,q)∨(m.lookup nm=none∧∃ el t,b'=.buf el t [] [])
 | [],_,_,_,_,h,_=>by simp at h
 | (k,bk) :: r,ns,nm,b',h,hl,hn=>by
  simp only [leM] at h
  split at h
  case h_2=>cases h
  rename_i p q h1 h2
  cases h
  simp only [List.lookup] at hl
  split at hl
  ·rename_i e
   cases hl
   have e:nm=k:=by simpa using e
   subst e
   split at h1
   ·rename_i b hb
    exact .inl ⟨b,p,hb,h1,fun z hz=>hn z (List.mem_append.2 (.inl hz))⟩
   ·rename_i hb
    split at h1
    ·cases h1
     have e:_=[]:=hn _ (List.mem_append.2 (.inl (List.mem_singleton.2 rfl)))
     subst e
     exact .inr ⟨hb,_,_,rfl⟩
    ·cases h1
  ·exact aHv h2 hl (fun z hz=>hn z (List.mem_append.2 (.inr hz)))
theorem aNE {p:List Prop} (h:leM s.mem s'.mem s'.mem=some p) (hn:∀ q ∈ p,q):Names s.mem s'.mem:=by
 intro nm b b' hb hb'
 rcases aHv h hb' hn with ⟨c,ps,h1,h2,h3⟩ | ⟨h1,_⟩
 ·rw [hb] at h1;cases h1
  exact aQY h2 h3
 ·rw [hb] at h1;cases h1
theorem aNO (h:aZ S s.sig a w D E) {t:Ty} {xs ys:List t.den} {i:Nat} {v:AV} {ns:List Prop} {e:Ent} {el:TypeId} {raw:List Value} (hc:aRM s.mem s'.mem t xs ys i v=some ns) (hn:∀ q ∈ ns,q)
  (r1:w.ownsRow 0 el t.sz (e.handle xs.length) xs.length raw) (r2:dV S.P (aIO s w D E) t xs [(i,v)] raw) :
  iL S.P 0 (ctx1 s s' w D E) e (.buf el t ys []):=by
 cases t with
 | sl e' =>
  cases v with
  | buf nm2 n2 =>
   simp only [aRM] at hc
   split at hc
   case h_2=>cases hc
   rename_i ns' zs hz
   cases hc
   have ex:Go.Eng.D.set (α:=List e'.den) xs i zs=ys:=hn _ (List.mem_append.2 (.inr (List.mem_singleton.2 rfl)))
   subst ex
   refine ⟨raw,by rw [Go.Eng.D.set,List.length_set];exact r1,fun k y hy=>?_⟩
   have hy':(List.set xs i zs)[k]?=some y:=hy
   have hk:k < xs.length:=by have:=(List.getElem?_eq_some_iff.1 hy').1;rwa [List.length_set] at this
   have hx:=r2 k _ (List.getElem?_eq_getElem hk)
   simp only [List.lookup]
   rw [List.getElem?_set] at hy'
   split at hy'
   ·rename_i eik
    subst eik
    rw [if_pos hk] at hy'
    cases hy'
    simp only [List.lookup,beq_self_eq_true] at hx
    obtain ⟨_,u,hu,_,hur⟩:=hx
    have e4:(raw.drop (i * (Ty.sl e').sz)).take (Ty.sl e').sz=[u]:=by
     simp only [Ty.sz,Nat.mul_one]
     apply List.ext_getElem?
     intro q
     rw [List.getElem?_take]
     cases q with
     | zero=>simp [hu]
     | succ q=>simp
    rw [e4]
    exact aCW h hz (fun q hq=>hn q (List.mem_append.2 (.inl hq))) hur
   ·rename_i hne
    have hb:(k == i)=false:=by simpa using fun e=>hne e.symm
    simp only [List.lookup,hb] at hx
    have:y=xs[k]:=by rw [List.getElem?_eq_getElem hk] at hy';exact (Option.some.inj hy').symm
    rw [this]
    exact aH dS (fun _ _=>rfl) hx
  | _=>simp [aRM] at hc
 | _=>simp [aRM] at hc
theorem aBR {nm k i:Nat} {v:AV} {el eli:TypeId} {t:Ty} {xss:List (List t.den)} (hk:k≠i):aRb E nm (.mat el eli t xss [(i,v)]) k=(E nm).rb k:=by
 cases v <;> first
  | rfl
  | (show (if k=i then _ else (E nm).rb k)=_;rw [if_neg hk])
theorem aKg {nm k:Nat} {eli:TypeId} {t:Ty} {row:List t.den} {u:Value} (hrb:(aB9 s.mem E nm).rb k=(E nm).rb k) (hr:aFF S.P 0 (aIO s w D E) (E nm) eli t k row u):aFF S.P 0 (ctx1 s s' w D E) (aB9 s.mem E nm) eli t k row u:=by
 obtain ⟨ao,cap,z2,q1,q0,q2⟩:=hr
 refine ⟨ao,cap,z2,q1,q0,fun hp=>?_⟩
 obtain ⟨k1,k2,k3⟩:=q2 hp
 exact ⟨by rw [hrb];exact k1,k2,bT (C:=aIO s w D E) (C':=ctx1 s s' w D E) ⟨dS,fun _ _=>rfl⟩ (fun nm h=>by cases h) k3⟩
theorem aQX (h:aZ S s.sig a w D E) (hN:Names s.mem s'.mem) {nm:Nat} {b b':Blk} {ns:List Prop} (hm:s.mem.lookup nm=some b) (hc:leB s.mem s'.mem b b'=some ns) (hn:∀ q ∈ ns,q) :
  iL S.P 0 (ctx1 s s' w D E) (aB9 s.mem E nm) b':=by
 have hb:iL S.P 0 (aIO s w D E) (E nm) b:=h.bl nm b hm
 have hE:=aFf (E:=E) hm
 have hH:=aBQ (E:=E) hm
 unfold leB at hc
 split at hc
 ·obtain ⟨h0,us,el,h1,h2⟩:=hb
  exact ⟨by rw [hE];exact h0,us,el,by rw [hE];exact h1,vP h hN hc hn h2⟩
 ·split at hc
  case isFalse=>cases hc
  rename_i he
  subst he
  split at hc
  case isFalse=>cases hc
  rename_i ht
  subst ht
  obtain ⟨raw,r1,r2⟩:=hb
  split at hc
  ·cases hc
   have ex:=hn _ (List.mem_singleton.2 rfl)
   simp only at ex
   subst ex
   refine ⟨raw,by rw [hH];exact r1,fun i y hy=>?_⟩
   have g:=r2 i y hy
   simp only [List.lookup] at g ⊢
   exact aH dS (fun _ _=>rfl) g
  ·rename_i i v i' v'
   split at hc
   ·rename_i ns' hv
    cases hc
    have ex:=hn _ (List.mem_cons_self)
    have ei:i=i':=hn _ (by simp)
    simp only at ex
    subst ex ei
    refine ⟨raw,by rw [hH];exact r1,fun k y hy=>?_⟩
    have g:=r2 k y hy
    by_cases hki:(k == i)=true
    ·simp only [List.lookup,hki] at g ⊢
     obtain ⟨g1,u,g2,g3,g4⟩:=g
     exact ⟨g1,u,g2,g3,sD h hN hv (fun q hq=>hn q (by simp [hq])) g4⟩
    ·have hki:(k == i)=false:=by simpa using hki
     simp only [List.lookup,hki] at g ⊢
     exact aH dS (fun _ _=>rfl) g
   ·cases hc
  ·exact aNO h hc hn (by rw [hH];exact r1) r2
  ·cases hc
 ·-- empty rows
  split at hc
  case isFalse=>cases hc
  rename_i he
  subst he
  unfold aNP at hc
  split at hc
  case isFalse=>cases hc
  rename_i ht
  subst ht
  split at hc
  case isFalse=>cases hc
  rename_i hz
  cases hc
  have e1:=hn _ List.mem_cons_self
  have e2:∀ r ∈ _,r=[]:=hn _ (List.mem_cons_of_mem _ (List.mem_singleton.2 rfl))
  simp only at e1
  subst e1
  obtain ⟨raw,r1,r2⟩:=hb
  refine ⟨hz,raw,by rw [hH];exact r1,fun i row hi=>?_⟩
  have e3:=e2 row (List.mem_of_getElem? hi)
  subst e3
  have g:=r2 i [] hi
  simp only [List.lookup] at g ⊢
  obtain ⟨ao,cap,q1,q2,q3,_⟩:=g
  refine ⟨.slice ao 0 cap,?_,ao,cap,[],rfl,q3,fun h=>absurd h (Nat.lt_irrefl _)⟩
  have:((raw.drop (i * 1)).take 1)[0]?=some (.slice ao 0 cap):=by
   have q1':(raw.drop (i * 1)).take 1=[.slice ao (List.length ([]:List _)) cap]:=q1
   rw [q1'];rfl
  rw [List.getElem?_take,if_pos (by decide),List.getElem?_drop] at this
  simpa using this
 ·-- rows of its own
  split at hc
  case isFalse=>cases hc
  rename_i he
  obtain ⟨he1,he2⟩:=he
  subst he1 he2
  split at hc
  case isFalse=>cases hc
  rename_i ht
  subst ht
  obtain ⟨hz,raw,r1,r2⟩:=hb
  split at hc
  ·cases hc
   have ex:=hn _ (List.mem_singleton.2 rfl)
   simp only at ex
   subst ex
   refine ⟨hz,raw,by rw [hH];exact r1,fun i row hi=>?_⟩
   obtain ⟨u,g1,g2⟩:=r2 i row hi
   simp only [List.lookup] at g2 ⊢
   exact ⟨u,g1,aKg (by rw [hE];rfl) g2⟩
  ·rename_i i v i' v'
   split at hc
   ·rename_i ns' hv
    cases hc
    have ex:=hn _ (List.mem_cons_self)
    have ei:i=i':=hn _ (by simp)
    simp only at ex
    subst ex ei
    refine ⟨hz,raw,by rw [hH];exact r1,fun k row hk=>?_⟩
    obtain ⟨u,g1,g2⟩:=r2 k row hk
    refine ⟨u,g1,?_⟩
    by_cases hki:(k == i)=true
    ·simp only [List.lookup,hki] at g2 ⊢
     exact ⟨g2.1,sD h hN hv (fun q hq=>hn q (by simp [hq])) g2.2⟩
    ·have hki:(k == i)=false:=by simpa using hki
     simp only [List.lookup,hki] at g2 ⊢
     exact aKg (by rw [hE];exact aBR (by simpa using hki)) g2
   ·cases hc
  ·rename_i i v
   unfold aHw at hc
   split at hc
   case h_2=>cases hc
   rename_i nm2 n2
   split at hc
   case h_2=>cases hc
   rename_i el2 e2 zs hno2 hm2
   split at hc
   case isFalse=>cases hc
   rename_i hel
   subst hel
   split at hc
   case isFalse=>cases hc
   rename_i ht2
   subst ht2
   cases hc
   have ex:=hn _ (List.mem_cons_of_mem _ (List.mem_singleton.2 rfl))
   have elen:zs.length=n2:=hn _ List.mem_cons_self
   simp only at ex
   subst ex
   refine ⟨hz,raw,by rw [hH,Go.Eng.D.set,List.length_set];exact r1,fun k row hk=>?_⟩
   have hk':(List.set _ i zs)[k]?=some row:=hk
   have hlt:=(List.getElem?_eq_some_iff.1 hk').1
   rw [List.length_set] at hlt
   obtain ⟨u,g1,g2⟩:=r2 k _ (List.getElem?_eq_getElem hlt)
   refine ⟨u,g1,?_⟩
   simp only [List.lookup]
   rw [List.getElem?_set] at hk'
   split at hk'
   ·rename_i eik
    subst eik
    rw [if_pos hlt] at hk'
    cases hk'
    simp only [List.lookup,beq_self_eq_true] at g2
    obtain ⟨_,hur⟩:=g2
    have hu:=(hur _ hm2).2 elen
    obtain ⟨raw2,p1,p2⟩:=h.bl nm2 _ hm2
    have hu:u=(E nm2).handle zs.length:=by rw [elen];exact hu
    have hrb:(aB9 s.mem E nm).rb i=((E nm2).b,(E nm2).cap):=by rw [hE];show (if i=i then ((E nm2).b,(E nm2).cap) else (E nm).rb i)=_;rw [if_pos rfl]
    cases hnil:(E nm2).isNil with
    | true =>
     have e3:(E nm2).handle zs.length=.slice none 0 0:=by unfold Ent.handle;rw [hnil];rfl
     rw [e3] at p1
     rcases p1.2 with ⟨_,hz0⟩ | ⟨g,cap,cur,hq,_⟩
     ·have hz0':zs.length=0:=hz0
      exact ⟨none,0,[],by rw [hu,e3,hz0'],fun _=>rfl,fun hp=>by omega⟩
     ·cases hq
    | false =>
     have e3:(E nm2).handle zs.length=.slice (some ⟨(E nm2).b,0,none⟩) zs.length (E nm2).cap:=by unfold Ent.handle;rw [hnil];rfl
     rw [hz] at p1
     refine ⟨_,_,raw2,by rw [hu,e3],fun h=>by (cases h),fun hp=>⟨by rw [hrb],by rw [hu];exact p1,?_⟩⟩
     exact bT (C:=aIO s w D E) (C':=ctx1 s s' w D E) ⟨dS,fun _ _=>rfl⟩ (fun nm h=>by cases h) p2
   ·rename_i hne
    have hb:(k == i)=false:=by simpa using fun e=>hne e.symm
    simp only [List.lookup,hb] at g2
    rw [List.getElem?_eq_getElem hlt] at hk'
    have erow:=Option.some.inj hk'
    rw [erow] at g2
    exact aKg (by rw [hE];exact if_neg (show ¬ k=i by simpa using hb)) g2
  ·cases hc
 ·cases hc
theorem aKp {p:List Prop} (hq:leM s.mem s'.mem s'.mem=some p) (hn:∀ q ∈ p,q) {nm i k:Nat} (hp:dY (fun x=>s'.mem.lookup x) (aB9 s.mem E) nm i k) :
  dY (fun x=>s.mem.lookup x) E nm i k∨∃ el eli t xss nm2 n2 blk,s.mem.lookup nm=some (.mat el eli t xss [(i,.buf nm2 n2)])∧s'.mem.lookup nm2=none∧s.mem.lookup nm2=some blk∧(blk.len≠0→True)∧0 < blk.len∧(∃ el2 t2 zs,blk=.buf el2 t2 zs [])∧k=(E nm2).b:=by
 obtain ⟨el,eli,t,xss,ov,row,h1,h2,h3,h4,h5⟩:=hp
 rcases aHv hq h1 hn with ⟨b,ps,hm,hc,hps⟩ | ⟨_,_,_,hx⟩
 ·rw [aFf hm] at h5
  simp only at h5
  unfold leB at hc
  split at hc
  ·rename_i hx;cases hx
  ·rename_i hx;cases hx
  ·rename_i hb hx
   cases hx
   split at hc
   case isFalse=>cases hc
   unfold aNP at hc
   split at hc
   case isFalse=>cases hc
   split at hc
   case isFalse=>cases hc
   cases hc
   have e2:∀ r ∈ _,r=[]:=hps _ (List.mem_cons_of_mem _ (List.mem_singleton.2 rfl))
   have:=e2 row (List.mem_of_getElem? h3)
   subst this
   exact absurd h4 (Nat.lt_irrefl _)
  ·rename_i el0 eli0 e0 xs0 ov0 el1 eli1 e1 ys1 ov1 hx
   cases hx
   split at hc
   case isFalse=>cases hc
   split at hc
   case isFalse=>cases hc
   rename_i ht
   subst ht
   split at hc
   ·cases hc
    have ex:=hps _ (List.mem_singleton.2 rfl)
    simp only at ex
    subst ex
    left
    replace h5:k=((E nm).rb i).1:=h5
    exact ⟨_,_,_,_,_,row,hm,rfl,h3,h4,h5⟩
   ·rename_i j v j' v'
    split at hc
    ·rename_i ns' hv
     cases hc
     have ex:=hps _ (List.mem_cons_self)
     have ei:j=j':=hps _ (by simp)
     simp only at ex
     subst ex ei
     left
     have hij:i≠j:=fun e=>by subst e;simp [List.lookup] at h2
     rw [aBR hij] at h5
     have hij':(i == j)=false:=by simpa using hij
     exact ⟨_,_,_,_,_,row,hm,by simp [List.lookup,hij'],h3,h4,h5⟩
    ·cases hc
   ·rename_i j v
    unfold aHw at hc
    split at hc
    case h_2=>cases hc
    rename_i nm2 n2
    split at hc
    case h_2=>cases hc
    rename_i el2 e2 zs hno2 hm2
    split at hc
    case isFalse=>cases hc
    split at hc
    case isFalse=>cases hc
    rename_i ht2
    subst ht2
    cases hc
    have ex:=hps _ (List.mem_cons_of_mem _ (List.mem_singleton.2 rfl))
    simp only at ex
    subst ex
    have h3':(List.set _ j zs)[i]?=some row:=h3
    rw [List.getElem?_set] at h3'
    by_cases hij:j=i
    ·subst hij
     rw [if_pos rfl] at h3'
     split at h3'
     ·cases h3'
      right
      refine ⟨_,_,_,_,nm2,n2,_,hm,hno2,hm2,fun _=>trivial,h4,⟨_,_,_,rfl⟩,?_⟩
      rw [h5];show (if j=j then ((E nm2).b,(E nm2).cap) else (E nm).rb j).1=_;rw [if_pos rfl]
     ·cases h3'
    ·rw [if_neg hij] at h3'
     left
     have hij2:i≠j:=fun e=>hij e.symm
     rw [aBR hij2] at h5
     have hij':(i == j)=false:=by simpa using hij2
     exact ⟨_,_,_,_,_,row,hm,by simp [List.lookup,hij'],h3',h4,h5⟩
   ·cases hc
  ·cases hc
 ·cases hx
theorem yQ:∀ {m:Mem} {nm:Nat} {el eli:TypeId} {t:Ty} {xss:List (List t.den)} {p:Nat×AV} {r:List (Nat×AV)},m.lookup nm=some (.mat el eli t xss (p :: r))→nm ∈ aCF m
 | [],_,_,_,_,_,_,_,h=>by cases h
 | (k,b) :: m,nm,el,eli,t,xss,p,r,h=>by
  simp only [List.lookup] at h
  split at h
  ·rename_i e
   have e:nm=k:=by simpa using e
   subst e
   cases h
   simp [aCF]
  ·have ih:=yQ h
   unfold aCF
   split
   ·rename_i hx;cases hx
   ·rename_i hx;cases hx;exact List.mem_cons_of_mem _ ih
   ·rename_i hx;cases hx;exact ih
theorem aQN {l:List Nat} (h:l.length≤1) {a b:Nat} (ha:a ∈ l) (hb:b ∈ l):a=b:=by
 match l,h with
 | [],_=>cases ha
 | [x],_=>rw [List.mem_singleton.1 ha,List.mem_singleton.1 hb]
def aV (m:Nat→Option Blk) (E:Nat→Ent) (b:Nat):Prop:=bV m E b∨∃ nm i,dY m E nm i b
theorem aZ.ownAll {S:Base} {σ:Sig} {a:Act} {w:World} {D:Nat→Prop} {E:Nat→Ent} (h:aZ S σ a w D E) {b:Nat} (hb:aV σ.m E b):(S.w0.heap.size≤b∨S.O b)∧b < w.heap.size∧¬ D b:=by
 rcases hb with ⟨nm,blk,g1,g2,g3⟩ | ⟨nm,i,g⟩
 ·rw [g3];exact h.own nm blk g1 g2
 ·exact h.pv.own nm i b g
theorem aC9 {ns:List Prop} (h:aZ S s.sig a w D E) (hc:aLV s s'=some ns) (hn:∀ q ∈ ns,q) :
  ∃ D' E',aZ S s'.sig a w D' E'∧(∀ b,D b→D' b)∧(∀ b,D' b→D b∨aV s.sig.m E b)∧∀ b,aV s'.sig.m E' b→aV s.sig.m E b:=by
 unfold aLV at hc
 split at hc
 case isFalse=>cases hc
 rename_i hone
 obtain ⟨_,hone⟩:=hone
 split at hc
 case h_2=>cases hc
 rename_i p q r hp hq hsv
 cases hc
 have hnp:∀ z ∈ p,z:=fun z hz=>hn z (List.mem_append.2 (.inl (List.mem_append.2 (.inl hz))))
 have hnq:∀ z ∈ q,z:=fun z hz=>hn z (List.mem_append.2 (.inl (List.mem_append.2 (.inr hz))))
 have hnr:∀ z ∈ r,z:=fun z hz=>hn z (List.mem_append.2 (.inr hz))
 have hN:=aNE hq hnq
 have keep:∀ nm,(aB9 s.mem E nm).isNil=false→((aB9 s.mem E nm).b=(E nm).b∧(E nm).isNil=false)∧∃ b,s.mem.lookup nm=some b:=fun nm hm=>by
  unfold aB9 at hm ⊢
  split at hm
  ·rename_i b hb;exact ⟨⟨rfl,hm⟩,b,hb⟩
  ·cases hm
 have foldIn:∀ nm el eli t xss i nm2 n2,s.mem.lookup nm=some (.mat el eli t xss [(i,.buf nm2 n2)])→aIK s.mem nm2=true:=fun nm el eli t xss i nm2 n2 hm=>by
  unfold aIK
  rw [List.any_eq_true]
  exact ⟨_,aBx hm,by simp [AV.namesL,AV.names]⟩
 have hpv:jO S.w0.heap.size S.O s'.sig.m (aB9 s.mem E) w.heap.size (aO9 s.mem s'.mem D E):=by
  have src:=fun {nm i k:Nat} (hk:dY s'.sig.m (aB9 s.mem E) nm i k)=>aKp (s:=s) (s':=s') (E:=E) hq hnq hk
  have aQQ:∀ {nm2 blk},s.mem.lookup nm2=some blk→0 < blk.len→(∃ el2 t2 zs,blk=.buf el2 t2 zs [])→(E nm2).isNil=false:=by
   rintro nm2 blk hm2 hl ⟨el2,t2,zs,rfl⟩
   obtain ⟨raw,_,_,r3⟩:=nM h hm2
   rcases r3 with ⟨_,hx,_⟩ | ⟨hx,_⟩
   ·subst hx;exact absurd hl (Nat.lt_irrefl _)
   ·exact hx
  refine ⟨fun nm i k hk=>?_,fun nm i k hk nm' b' hb' hi e=>?_,fun nm i k nm' j h1 h2=>?_⟩
  ·have notD:∀ (hD:¬ D k) (hent:∀ nm3 blk,s.mem.lookup nm3=some blk→(E nm3).isNil=false→(E nm3).b=k→aIK s.mem nm3=true) (hrow:∀ nm3 j,s'.mem.lookup nm3=none→dY s.sig.m E nm3 j k→False),¬ aO9 s.mem s'.mem D E k:=by
    rintro hD hent hrow (hd | ⟨nm3,blk,k1,k2,k3,k4,k5⟩ | ⟨nm3,j,k1,k2⟩)
    ·exact hD hd
    ·rw [hent nm3 blk k1 k4 k5.symm] at k3;cases k3
    ·exact hrow nm3 j k1 k2
   rcases src hk with g | ⟨el,eli,t,xss,nm2,n2,blk,g1,g2,g3,_,g4,g5,rfl⟩
   ·obtain ⟨q1,q2,q3⟩:=h.pv.own nm i k g
    refine ⟨q1,q2,notD q3 (fun nm3 blk k1 k4 k5=>(h.pv.ent nm i k g nm3 blk k1 k4 k5).elim) fun nm3 j k1 k2=>?_⟩
    obtain ⟨e1,_⟩:=h.pv.inj nm i k nm3 j g k2
    subst e1
    obtain ⟨_,_,_,_,_,_,hx,_⟩:=hk
    have hx':s'.mem.lookup nm=some _:=hx
    rw [k1] at hx';cases hx'
   ·have hi2:=aQQ g3 g4 g5
    obtain ⟨q1,q2,q3⟩:=h.own nm2 blk g3 hi2
    refine ⟨q1,q2,notD q3 (fun nm3 blk3 k1 k4 k5=>?_) fun nm3 j k1 k2=>h.pv.ent nm3 j _ k2 nm2 blk g3 hi2 rfl⟩
    have:=h.inj nm3 nm2 blk3 blk k1 g3 k4 hi2 k5
    subst this
    exact foldIn _ _ _ _ _ _ _ _ g1
  ·obtain ⟨⟨e1,e2⟩,c1,k1⟩:=keep nm' hi
   rw [e1] at e
   rcases src hk with g | ⟨el,eli,t,xss,nm2,n2,blk,g1,g2,g3,_,g4,g5,rfl⟩
   ·exact h.pv.ent nm i k g nm' c1 k1 e2 e
   ·have:=h.inj nm' nm2 c1 blk k1 g3 e2 (aQQ g3 g4 g5) e
    subst this
    have hb2:s'.mem.lookup nm'=some b':=hb'
    rw [g2] at hb2;cases hb2
  ·rcases src h1 with g | ⟨el,eli,t,xss,nm2,n2,blk,g1,g2,g3,_,g4,g5,g6⟩ <;> rcases src h2 with q | ⟨el',eli',t',xss',nm2',n2',blk',q1,q2,q3,_,q4,q5,q6⟩
   ·exact h.pv.inj nm i k nm' j g q
   ·exact (h.pv.ent nm i k g nm2' blk' q3 (aQQ q3 q4 q5) q6.symm).elim
   ·exact (h.pv.ent nm' j k q nm2 blk g3 (aQQ g3 g4 g5) g6.symm).elim
   ·have:nm=nm':=aQN hone (yQ g1) (yQ q1)
    subst this
    rw [g1] at q1
    cases q1
    exact ⟨rfl,rfl⟩
 refine ⟨aO9 s.mem s'.mem D E,aB9 s.mem E,⟨h.sz,⟨h.df.1,fun d hd=>?_⟩,fun t=>?_,fun nm b' hb'=>?_,fun nm b' hb' hi=>?_,fun nm nm' b b' hb hb' hi hi' e=>?_,h.low,fun b hb=>?_,fun b hb=>.inl (h.dlo b hb),fun b hb=>?_,rU.mono (C:=⟨w,D,s.sig.m,E⟩) ⟨fun b hb=>.inl hb,fun _ _=>rfl⟩ h.gl,vP h hN hsv hnr h.svr,hpv⟩,fun b hb=>.inl hb,fun b hb=>?_,fun b hb=>?_⟩
 ·rcases h.df.2 d hd with g | ⟨k,g1,g2,g3,g4⟩
  ·exact .inl g
  ·exact .inr ⟨k,g1,g2,.inl g3,g4⟩
 ·show (s'.tm.getD t .top).rel S.P (ctx1 s s' w D E) (a.tmps.getD t undef)
  rw [List.getD_eq_getElem?_getD]
  cases ht:s'.tm[t]? with
  | none=>trivial
  | some y =>
   obtain ⟨x,ps,g1,g2,g3⟩:=aO3 hp ht
   have hx:(s.tm.getD t .top).rel S.P (aIO s w D E) (a.tmps.getD t undef):=h.tm t
   rw [List.getD_eq_getElem?_getD,g1] at hx
   exact sD h hN g2 (fun z hz=>hnp z (g3 z hz)) hx
 ·rcases aHv hq hb' hnq with ⟨b,ps,h1,h2,h3⟩ | ⟨h1,el,t,rfl⟩
  ·exact aQX h hN h1 h2 h3
  ·have ek:aB9 s.mem E nm=⟨0,0,true,noR⟩:=by unfold aB9;rw [h1]
   rw [ek]
   exact ⟨[],⟨by simp,.inl ⟨rfl,rfl⟩⟩,fun i y hy=>by simp at hy⟩
 ·obtain ⟨⟨e1,e2⟩,b,hb⟩:=keep nm hi
  rw [e1]
  obtain ⟨g1,g2,g3⟩:=h.own nm b hb e2
  refine ⟨g1,g2,fun hd=>?_⟩
  rcases hd with hd | ⟨nm2,b2,k1,k2,_,k3,k4⟩ | ⟨nm2,i,k1,k2⟩
  ·exact g3 hd
  ·have:nm=nm2:=h.inj nm nm2 b b2 hb k1 e2 k3 k4
   subst this
   have hb2:s'.mem.lookup nm=some b':=hb'
   rw [k2] at hb2;cases hb2
  ·exact h.pv.ent nm2 i _ k2 nm b hb e2 rfl
 ·obtain ⟨⟨e1,i1⟩,c1,h1⟩:=keep nm hi
  obtain ⟨⟨e2,i2⟩,c2,h2⟩:=keep nm' hi'
  rw [e1,e2] at e
  exact h.inj nm nm' c1 c2 h1 h2 i1 i2 e
 ·rcases hb with hb | ⟨nm2,b2,k1,k2,_,k3,k4⟩ | ⟨nm2,i,k1,k2⟩
  ·exact h.dlt b hb
  ·rw [k4];exact (h.own nm2 b2 k1 k3).2.1
  ·exact (h.pv.own nm2 i b k2).2.1
 ·rcases hb with hb | ⟨nm2,b2,k1,k2,_,k3,k4⟩ | ⟨nm2,i,k1,k2⟩
  ·exact h.dhi b hb
  ·rw [k4];exact .inr (h.own nm2 b2 k1 k3).1
  ·exact .inr (h.pv.own nm2 i b k2).1
 ·rcases hb with hb | ⟨nm2,b2,k1,k2,_,k3,k4⟩ | ⟨nm2,i,k1,k2⟩
  ·exact .inl hb
  ·exact .inr (.inl ⟨nm2,b2,k1,k3,k4⟩)
  ·exact .inr (.inr ⟨nm2,i,k2⟩)
 ·rcases hb with ⟨nm,blk,g1,g2,g3⟩ | ⟨nm,i,g⟩
  ·obtain ⟨⟨e1,e2⟩,c1,h1⟩:=keep nm g2
   rw [e1] at g3
   exact .inl ⟨nm,c1,h1,e2,g3⟩
  ·rcases aKp (s:=s) (s':=s') (E:=E) hq hnq g with g | ⟨el,eli,t,xss,nm2,n2,blk,g1,g2,g3,_,g4,⟨el2,t2,zs,rfl⟩,g6⟩
   ·exact .inr ⟨nm,i,g⟩
   ·refine .inl ⟨nm2,_,g3,?_,g6⟩
    obtain ⟨raw,_,_,r3⟩:=nM h g3
    rcases r3 with ⟨_,hx,_⟩ | ⟨hx,_⟩
    ·subst hx;exact absurd g4 (Nat.lt_irrefl _)
    ·exact hx
theorem aG8 {ns:List Prop} (h:Sim S s.sig a w) (hc:aLV s s'=some ns) (hn:∀ q ∈ ns,q):Sim S s'.sig a w:=by
 obtain ⟨D,E,h⟩:=h
 obtain ⟨D',E',h',_⟩:=aC9 h hc hn
 exact ⟨D',E',h'⟩
end
end Go.Eng
