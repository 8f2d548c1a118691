/- PeH12, PeH12b -/
import Derived.Test.YtlobbofhlcjlmaaGreatDoorH11
set_option linter.unusedSimpArgs false
set_option linter.unusedVariables false
/- The engine, part 12: a region, in the text's order and in whatever order. -/
namespace Go.Eng
open Go.RowKit
structure St where
 tm:List AV
 mem:List (Nat×Blk)
 nx:Nat
 sv:List AV:=[]
def St.sig (s:St):Sig:=⟨fun t=>s.tm.getD t .top,fun nm=>s.mem.lookup nm,s.sv⟩
def aBu:List (Nat×Blk)→Nat→Blk→List (Nat×Blk)
 | [],k,b=>[(k,b)]
 | q :: r,k,b=>if q.1=k then (k,b) :: r else q :: aBu r k b
theorem xC (k:Nat) (b:Blk):∀ (l:List (Nat×Blk)) (i:Nat),(aBu l k b).lookup i=if i=k then some b else l.lookup i
 | [],i=>by
  simp only [aBu,List.lookup]
  by_cases e:i=k
  ·subst e;simp
  ·have:(i == k)=false:=by simpa using e
   simp [this,e]
 | q :: r,i=>by
  obtain ⟨q1,q2⟩:=q
  simp only [aBu]
  by_cases hq:q1=k
  ·subst hq
   simp only [if_true,List.lookup]
   by_cases e:i=q1
   ·subst e;simp
   ·have:(i == q1)=false:=by simpa using e
    simp [this,e]
  ·simp only [hq,if_false,List.lookup]
   by_cases e:i=q1
   ·subst e
    simp [hq]
   ·have:(i == q1)=false:=by simpa using e
    simp only [this]
    exact xC k b r i
def fU (r:Rec) (s:St):St :=
 { s with
  tm:=match r.dst with | some d=>s.tm.set d r.val | none=>s.tm
  mem:=r.upd.foldr (fun p m=>aBu m p.1 p.2) s.mem
  nx:=match r.new with | some k=>k + 1 | none=>s.nx }
def kU (r:Rec) (n:Nat):Bool :=
 (match r.dst with | some d=>decide (d < n) | none=>true) && true
theorem mQ (r:Rec) (s:St):(fU r s).tm.length=s.tm.length:=by
 unfold fU;cases r.dst <;> simp
theorem kW {r:Rec} {s:St} (h:kU r s.tm.length=true):(fU r s).sig=jA r s.sig:=by
 unfold kU at h
 simp only [Bool.and_eq_true] at h
 obtain ⟨h1,h2⟩:=h
 have eT:(fU r s).sig.T=(jA r s.sig).T:=by
  funext t
  simp only [St.sig,fU,jA,upT]
  cases hd:r.dst with
  | none=>simp
  | some d =>
   rw [hd] at h1
   have hlt:d < s.tm.length:=by simpa using h1
   simp only [Option.some.injEq]
   by_cases e:t=d
   ·subst e
    simp [List.getD_eq_getElem?_getD,hlt]
   ·simp only [if_neg e,List.getD_eq_getElem?_getD]
    rw [List.getElem?_set_ne (fun h=>e h.symm)]
 have eM:(fU r s).sig.m=(jA r s.sig).m:=by
  funext k
  simp only [St.sig,fU,jA,upM]
  induction r.upd with
  | nil=>rfl
  | cons p l ih =>
   obtain ⟨k',b⟩:=p
   simp only [List.foldr_cons,xC,List.lookup]
   by_cases e:k=k'
   ·subst e;simp
   ·have:(k == k')=false:=by simpa using e
    simp only [this,if_neg e]
    exact ih
 cases hs1:(fU r s).sig with
 | mk T m sv =>
  cases hs2:jA r s.sig with
  | mk T' m' sv' =>
   have eS:(fU r s).sig.sv=(jA r s.sig).sv:=rfl
   rw [hs1,hs2] at eT eM eS
   simp only at eT eM eS
   rw [eT,eM,eS]
structure oW where
 pre:Prop
 t:Ty
 L:List t.den
structure Cfg where
 P:Program
 G:List (Nat×AV)
 K:Kt
 mb:Tmp→Bool
 KI:FuncId→List AV→Option oW
 rng:Bool
 KP:KPt:=fun _ _ _=>none
 pf:FuncId→Bool:=fun _=>false
def aRJ (mb:Tmp→Bool) (o:Oper):Bool:=match o.dst with | some d=>mb d | none=>false
def Cfg.mt (c:Cfg) (o:Oper):Bool:=aRJ c.mb o
def aOQ (c:Cfg) (ops:Array Oper):List Oper→St→Option (List Rec)
 | [],_=>some []
 | o :: os,s=>match lF c.P c.G c.K (c.mt o) ops s.nx s.sig o with
  | some r=>if kU r s.tm.length=true then match aOQ c ops os (fU r s) with
   | some rs=>some (r :: rs)
   | none=>none
   else none
  | none=>none
def kF (rs:List Rec) (s:St) (j:Nat):St:=(rs.take j).foldl (fun s r=>fU r s) s
theorem pI (rs:List Rec) (s:St) (j:Nat):(kF rs s j).tm.length=s.tm.length:=by
 unfold kF
 induction rs.take j generalizing s with
 | nil=>rfl
 | cons r l ih=>simp only [List.foldl_cons];rw [ih,mQ]
theorem aA7 {c:Cfg} {ops:Array Oper}:∀ {os:List Oper} {s:St} {rs:List Rec},aOQ c ops os s=some rs →
  rs.length=os.length∧∀ (j:Nat) o r,os[j]?=some o→rs[j]?=some r →
   lF c.P c.G c.K (c.mt o) ops (kF rs s j).nx (kF rs s j).sig o=some r∧kU r s.tm.length=true
 | [],s,rs,h=>by
  simp only [aOQ] at h;cases h
  exact ⟨rfl,fun j o r h=>by simp at h⟩
 | o :: os,s,rs,h=>by
  simp only [aOQ] at h
  split at h
  case h_2=>cases h
  rename_i r hr
  split at h
  case isFalse=>cases h
  rename_i hok
  split at h
  case h_2=>cases h
  rename_i rs' hrs
  cases h
  obtain ⟨g1,g2⟩:=aA7 hrs
  refine ⟨by simp [g1],fun j o' r' ho hr'=>?_⟩
  cases j with
  | zero =>
   simp at ho hr';subst ho hr'
   exact ⟨hr,hok⟩
  | succ j =>
   obtain ⟨q1,q2⟩:=g2 j o' r' (by simpa using ho) (by simpa using hr')
   rw [mQ] at q2
   exact ⟨by simpa [kF] using q1,q2⟩
theorem rH (rs:List Rec) (s:St) (j:Nat) (r:Rec) (h:rs[j]?=some r):kF rs s (j + 1)=fU r (kF rs s j):=by
 unfold kF
 rw [List.take_add_one,h]
 simp
def unB (k:Nat) (s:St):Bool :=
 (s.mem.lookup k).isNone && s.tm.all (fun a=>!a.names.contains k) && s.mem.all (fun p=>!p.2.names.contains k) && !(AV.namesL s.sv).contains k
theorem gJ {l:List (Nat×Blk)} {k:Nat} {b:Blk} (h:l.lookup k=some b):(k,b) ∈ l:=by
 induction l with
 | nil=>simp at h
 | cons p l ih =>
  obtain ⟨p1,p2⟩:=p
  simp only [List.lookup] at h
  split at h
  ·rename_i e
   cases h
   have:k=p1:=by simpa using e
   subst this;simp
  ·exact List.mem_cons_of_mem _ (ih h)
theorem aG1 {k:Nat} {s:St} (h:unB k s=true):Unm k s.sig:=by
 unfold unB at h
 simp only [Bool.and_eq_true,List.all_eq_true] at h
 obtain ⟨⟨⟨h1,h2⟩,h3⟩,h4⟩:=h
 refine ⟨?_,fun t=>?_,fun nm b hb=>?_,by have h5:k ∉ AV.namesL s.sv:=(by simpa using h4);exact h5⟩
 ·show s.mem.lookup k=none
  cases hl:s.mem.lookup k with
  | none=>rfl
  | some b=>rw [hl] at h1;cases h1
 ·show k ∉ (s.tm.getD t .top).names
  rw [List.getD_eq_getElem?_getD]
  cases hl:s.tm[t]? with
  | none=>simp [AV.names]
  | some a =>
   have:=h2 a (List.mem_of_getElem? hl)
   simpa using this
 ·have:=h3 _ (gJ hb)
  simpa using this
def aDj (k:Nat) (r:Rec):Bool:=!r.val.names.contains k && r.upd.all (fun p=>!(p.1 == k) && !p.2.names.contains k)
theorem yP {k:Nat} {r:Rec} (h:aDj k r=true) {s:Sig} (hu:Unm k s):Unm k (jA r s):=by
 unfold aDj at h
 simp only [Bool.and_eq_true,List.all_eq_true] at h
 obtain ⟨h1,h2⟩:=h
 have hup:∀ nm b,r.upd.lookup nm=some b→nm≠k∧k ∉ b.names:=fun nm b hb=>by
  have:=h2 _ (gJ hb)
  simpa using this
 refine ⟨?_,fun t=>?_,fun nm b hb=>?_,hu.2.2.2⟩
 ·show upM s.m r.upd k=none
  unfold upM
  cases hl:r.upd.lookup k with
  | none=>exact hu.1
  | some b=>exact absurd rfl (hup k b hl).1
 ·show k ∉ (upT s.T r.dst r.val t).names
  unfold upT
  split
  ·simpa using h1
  ·exact hu.2.1 t
 ·replace hb:upM s.m r.upd nm=some b:=hb
  unfold upM at hb
  cases hl:r.upd.lookup nm with
  | none=>rw [hl] at hb;exact hu.2.2.1 nm b hb
  | some b'=>rw [hl] at hb;cases hb;exact (hup nm _ hl).2
def aN5 (d:Option Tmp) (l:List Tmp):Bool:=match d with | some d=>l.contains d | none=>false
def aTy:Option Tmp→Option Tmp→Bool
 | some d,some e=>d == e
 | _,_=>false
def indep (r s:Rec):Bool :=
 !aN5 r.dst s.reads && !aN5 s.dst r.reads && !aTy r.dst s.dst &&
 r.upd.all (fun p=>!s.fp.contains p.1 && s.upd.all fun q=>!(p.1 == q.1)) && s.upd.all (fun p=>!r.fp.contains p.1)
theorem aCG {l:List (Nat×Blk)} {k:Nat} (h:∀ p ∈ l,p.1≠k):l.lookup k=none:=by
 cases hl:l.lookup k with
 | none=>rfl
 | some b=>exact absurd rfl (h _ (gJ hl))
theorem uO {r s:Rec} (h:indep r s=true) :
  (∀ σ,jA s (jA r σ)=jA r (jA s σ))∧(∀ σ,(∀ t ∈ s.reads,(jA r σ).T t=σ.T t)∧∀ nm ∈ s.fp,(jA r σ).m nm=σ.m nm) ∧
  (∀ σ,(∀ t ∈ r.reads,(jA s σ).T t=σ.T t)∧∀ nm ∈ r.fp,(jA s σ).m nm=σ.m nm):=by
 unfold indep at h
 simp only [Bool.and_eq_true,List.all_eq_true] at h
 obtain ⟨⟨⟨⟨h1,h2⟩,h3⟩,h4⟩,h5⟩:=h
 have hT:∀ (d:Option Tmp) (l:List Tmp),(!aN5 d l)=true→∀ t ∈ l,some t≠d:=by
  intro d l hd t ht e
  subst e
  simp [aN5,ht] at hd
 refine ⟨fun σ=>?_,fun σ=>⟨fun t ht=>?_,fun nm hnm=>?_⟩,fun σ=>⟨fun t ht=>?_,fun nm hnm=>?_⟩⟩
 ·unfold jA
  congr 1
  ·funext t
   simp only [upT]
   by_cases e1:some t=s.dst <;> by_cases e2:some t=r.dst
   ·exfalso
    rw [← e1,← e2] at h3
    simp [aTy] at h3
   ·rw [if_pos e1,if_neg e2,if_pos e1]
   ·rw [if_neg e1,if_pos e2,if_pos e2]
   ·rw [if_neg e1,if_neg e2,if_neg e2,if_neg e1]
  ·funext nm
   simp only [upM]
   cases hr:r.upd.lookup nm <;> cases hs:s.upd.lookup nm <;> simp only []
   exfalso
   have:=(h4 _ (gJ hr))
   simp only [] at this
   have:=this.2 _ (gJ hs)
   simp at this
 ·show upT σ.T r.dst r.val t=σ.T t
  unfold upT;rw [if_neg (hT _ _ h1 t ht)]
 ·show upM σ.m r.upd nm=σ.m nm
  unfold upM
  rw [aCG (fun p hp e=>by
   have:=(h4 p hp).1
   rw [e] at this
   simp [hnm] at this)]
 ·show upT σ.T s.dst s.val t=σ.T t
  unfold upT;rw [if_neg (hT _ _ h2 t ht)]
 ·show upM σ.m s.upd nm=σ.m nm
  unfold upM
  rw [aCG (fun p hp e=>by
   have:=h5 p hp
   rw [e] at this
   simp [hnm] at this)]
def aGS (tbl:List Nat) (o:Oper):Nat:=o.after.toList.foldl (fun s e=>if Region.binds .any e then s ||| 2 ^ e.on ||| tbl.getD e.on 0 else s) 0
def mV:List Nat→List Oper→List Nat
 | acc,[]=>acc
 | acc,o :: os=>mV (acc ++ [aGS acc o]) os
theorem aB5 {tbl:List Nat} {i:Nat}:∀ (es:List Edge) (s:Nat),(es.foldl (fun s e=>if Region.binds .any e then s ||| 2 ^ e.on ||| tbl.getD e.on 0 else s) s).testBit i=true →
  s.testBit i=true∨∃ e ∈ es,Region.binds .any e=true∧(i=e.on∨(tbl.getD e.on 0).testBit i=true)
 | [],s,h=>.inl h
 | e :: es,s,h=>by
  simp only [List.foldl_cons] at h
  rcases aB5 es _ h with g | ⟨e',h1,h2⟩
  ·split at g
   ·rename_i hb
    simp only [Nat.testBit_or,Bool.or_eq_true] at g
    rcases g with (g | g) | g
    ·exact .inl g
    ·rw [Nat.testBit_two_pow] at g
     have h9:e.on=i:=by simpa using g
     exact .inr ⟨e,by simp,hb,.inl h9.symm⟩
    ·exact .inr ⟨e,by simp,hb,.inr g⟩
   ·exact .inl g
  ·exact .inr ⟨e',by simp [h1],h2⟩
def dflt:Rec:={ dst:=none,val:=.top,upd:=[],new:=none,reads:=[],fp:=[],need:=[] }
def vG (tbl:List Nat) (ops:List Oper) (rs:List Rec):Bool :=
 (List.range ops.length).all fun j =>
  (match ops[j]? with | some o=>tbl.getD j 0 == aGS tbl o && o.after.all (fun e=>!Region.binds .any e || decide (e.on < j)) | none=>false) &&
  (List.range j).all fun i=>(tbl.getD j 0).testBit i || indep (rs.getD i dflt) (rs.getD j dflt)
def aBn (draw:Bool) (tbl:List Nat) (s:St) (rs:List Rec):Bool :=
 (List.range rs.length).all fun j=>match (rs.getD j dflt).new with
  | none=>true
  | some k=>unB k s && (List.range rs.length).all fun i=>i == j || (decide (j < i) && (!draw || (tbl.getD i 0).testBit j)) || aDj k (rs.getD i dflt)
theorem aBO {α:Type} {l:List α} {i:Nat} {x d:α} (h:l[i]?=some x):l.getD i d=x:=by
 rw [List.getD_eq_getElem?_getD,h];rfl
theorem uG {draw:Bool} {tbl:List Nat} {s:St} {rs:List Rec} (h:aBn draw tbl s rs=true) {j k:Nat} {r:Rec} (hj:rs[j]?=some r) (hk:r.new=some k) :
  Unm k s.sig∧∀ i q,rs[i]?=some q→i≠j→(i < j∨(draw=true∧(tbl.getD i 0).testBit j=false))→aDj k q=true:=by
 unfold aBn at h
 rw [List.all_eq_true] at h
 have hjl:=(List.getElem?_eq_some_iff.1 hj).1
 have h1:=h j (by simpa using hjl)
 rw [aBO hj,hk] at h1
 simp only [Bool.and_eq_true,List.all_eq_true] at h1
 refine ⟨aG1 h1.1,fun i q hq hne hc=>?_⟩
 have hil:=(List.getElem?_eq_some_iff.1 hq).1
 have h2:=h1.2 i (by simpa using hil)
 rw [aBO hq] at h2
 simp only [Bool.or_eq_true,beq_iff_eq,Bool.and_eq_true,decide_eq_true_eq,Bool.not_eq_true'] at h2
 rcases h2 with (g | ⟨g1,g2⟩) | g
 ·exact (hne g).elim
 ·rcases hc with hc | ⟨hc1,hc2⟩
  ·omega
  ·rcases g2 with g2 | g2
   ·rw [hc1] at g2;cases g2
   ·rw [hc2] at g2;cases g2
 ·exact g
def aTf (c:Cfg) (ops:Array Oper) (draw:Bool) (s:St):Option (List Prop×St) :=
 match aOQ c ops ops.toList s with
 | some rs =>
  let tbl:=if draw then mV [] ops.toList else []
  if aBn draw tbl s rs=true∧(draw=true→vG tbl ops.toList rs=true) then some (rs.flatMap (·.need),kF rs s rs.length) else none
 | none=>none
section
variable {S:Base} {K:Kt} {mb:Tmp→Bool} {ops:Array Oper} {s:St} {rs:List Rec}
def dU (rs:List Rec) (i:Nat) (σ:Sig):Sig:=match rs[i]? with
 | some r=>jA r σ
 | none=>σ
theorem tY (hok:∀ (j:Nat) (r:Rec),rs[j]?=some r→kU r s.tm.length=true):∀ j,j≤rs.length→jR (dU rs) aLD j s.sig=(kF rs s j).sig
 | 0,_=>rfl
 | j + 1,hj=>by
  have ih:=tY hok j (by omega)
  have hr:=List.getElem?_eq_getElem (l:=rs) (show j < rs.length by omega)
  show dU rs j (jR (dU rs) aLD j s.sig)=_
  rw [ih,rH rs s j _ hr,kW (by rw [pI];exact hok j _ hr)]
  simp only [dU,hr]
structure aFG (S:Base) (K:Kt) (mb:Tmp→Bool) (ops:Array Oper) (s:St) (rs:List Rec):Prop where
 len:rs.length=ops.size
 at_:∀ (j:Nat) o r,ops[j]?=some o→rs[j]?=some r→lF S.P S.G K (aRJ mb o) ops (kF rs s j).nx (kF rs s j).sig o=some r∧kU r s.tm.length=true
 tm:s.tm.length=S.N
 need:∀ (j:Nat) r,rs[j]?=some r→∀ q ∈ r.need,q
theorem aFG.dst (H:aFG S K mb ops s rs) {j:Nat} {o:Oper} {r:Rec} (ho:ops[j]?=some o) (hr:rs[j]?=some r):∀ d,o.dst=some d→d < S.N:=by
 intro d hd
 obtain ⟨h1,h2⟩:=H.at_ j o r ho hr
 have e:r.dst=o.dst:=by
  unfold lF at h1
  split at h1
  ·split at h1
   ·unfold aGg at h1
    split at h1
    ·cases h1;rfl
    ·split at h1
     ·cases h1;rfl
     ·cases h1
   ·cases h1
  ·cases h1
 unfold kU at h2
 simp only [Bool.and_eq_true] at h2
 have:=h2.1
 rw [e,hd] at this
 rw [← H.tm];simpa using this
theorem aFG.step (hK:aQ S.P S.G K) (H:aFG S K mb ops s rs) {Q:Exit→Act→World→Prop} {j:Nat} {o:Oper} {r:Rec} (ho:ops[j]?=some o) (hr:rs[j]?=some r) {σ:Sig} {a:Act} {w:World}
  (h1:∀ t ∈ r.reads,σ.T t=(kF rs s j).sig.T t) (h2:∀ nm ∈ r.fp,σ.m nm=(kF rs s j).sig.m nm) (hu:∀ k,r.new=some k→Unm k σ) (hs:Sim S σ a w) :
  wpOpIn S.F 0 S.P ops Q j (fun a' w'=>Sim S (dU rs j σ) a' w') a w:=by
 have hst:=aAZ (H.at_ j o r ho hr).1 h1 h2
 have:=wJ (Q:=Q) hK ho hs (H.dst ho hr) hst (H.need j r hr) hu
 simp only [dU,hr]
 exact this
theorem aED (hK:aQ S.P S.G K) (H:aFG S K mb ops s rs) {tbl:List Nat} (hnew:aBn false tbl s rs=true) {a:Act} {w:World} (hs:Sim S s.sig a w) {Q:Exit→Act→World→Prop}
  (hQ:∀ a' w',Sim S (kF rs s rs.length).sig a' w'→Q .normal a' w') {id:Nat}:(Code.region id ops false).wpIn S.F 0 S.P Q a w:=by
 refine wpIn_region ?_
 have hok:∀ (j:Nat) (r:Rec),rs[j]?=some r→kU r s.tm.length=true:=fun j r hr=>by
  have hj:j < ops.size:=by rw [← H.len];exact (List.getElem?_eq_some_iff.1 hr).1
  exact (H.at_ j _ r (Array.getElem?_eq_getElem hj) hr).2
 have hun:∀ (j k:Nat) r,rs[j]?=some r→r.new=some k→∀ i,i≤j→Unm k (kF rs s i).sig:=by
  intro j k r hr hk i
  induction i with
  | zero=>intro _;exact (uG hnew hr hk).1
  | succ i ih =>
   intro hi
   have hil:i < rs.length:=by have:=(List.getElem?_eq_some_iff.1 hr).1;omega
   have hri:=List.getElem?_eq_getElem hil
   rw [rH rs s i _ hri,kW (by rw [pI];exact hok i _ hri)]
   exact yP ((uG hnew hr hk).2 i _ hri (by omega) (.inl (by omega))) (ih (by omega))
 have key:∀ (n j:Nat),j + n=ops.size→∀ a w,Sim S (kF rs s j).sig a w→wpOpsIn S.F 0 S.P ops Q (List.range' j n) a w:=by
  intro n
  induction n with
  | zero =>
   intro j hj a w h
   simp only [List.range'_zero,wpOpsIn]
   have:j=rs.length:=by rw [H.len];omega
   subst this;exact hQ a w h
  | succ n ih =>
   intro j hj a w h
   have hjl:j < ops.size:=by omega
   have ho:=Array.getElem?_eq_getElem hjl
   have hr:=List.getElem?_eq_getElem (l:=rs) (show j < rs.length by rw [H.len];exact hjl)
   rw [List.range'_succ,wpOpsIn_cons]
   refine wpOpIn_mono (fun a' w' h'=>ih (j + 1) (by omega) a' w' ?_) (H.step hK (Q:=Q) ho hr (fun _ _=>rfl) (fun _ _=>rfl) (fun k hk=>hun j k _ hr hk j (Nat.le_refl _)) h)
   rw [rH rs s j _ hr,kW (by rw [pI];exact hok j _ hr)]
   simpa only [dU,hr] using h'
 have:=key ops.size 0 (by omega) a w hs
 rwa [← List.range_eq_range'] at this
theorem aEN {tbl:List Nat} (h:vG tbl ops.toList rs=true) (hlen:rs.length=ops.size) :
  (∀ (j:Nat) o,ops[j]?=some o→(∀ e ∈ o.after,Region.binds .any e=true→e.on < j)∧∀ i,(tbl.getD j 0).testBit i=true→∃ e ∈ o.after,Region.binds .any e=true∧(i=e.on∨(tbl.getD e.on 0).testBit i=true)) ∧
  (∀ (i j:Nat) (r q:Rec),i < j→rs[i]?=some r→rs[j]?=some q→(tbl.getD j 0).testBit i=false→indep r q=true):=by
 unfold vG at h
 rw [List.all_eq_true] at h
 refine ⟨fun j o ho=>?_,fun i j r q hij hr hq hb=>?_⟩
 ·have hj:j < ops.size:=(Array.getElem?_eq_some_iff.1 ho).1
  have h1:=h j (by simpa using hj)
  have ho':ops.toList[j]?=some o:=by simpa using ho
  rw [ho'] at h1
  simp only [Bool.and_eq_true,beq_iff_eq] at h1
  obtain ⟨⟨h2,h3⟩,_⟩:=h1
  refine ⟨fun e he hb=>?_,fun i hi=>?_⟩
  ·rw [Array.all_eq_true_iff_forall_mem] at h3
   have:=h3 e he
   simpa [hb] using this
  ·rw [h2] at hi
   unfold aGS at hi
   rcases aB5 _ _ hi with g | ⟨e,h4,h5⟩
   ·simp at g
   ·exact ⟨e,by simpa using h4,h5⟩
 ·have hj:j < ops.size:=by rw [← hlen];exact (List.getElem?_eq_some_iff.1 hq).1
  have h1:=h j (by simpa using hj)
  simp only [Bool.and_eq_true,List.all_eq_true] at h1
  have h2:=h1.2 i (by simpa using hij)
  rw [aBO hr,aBO hq,hb] at h2
  simpa using h2
theorem aBf (hK:aQ S.P S.G K) (hm:S.P.follows .mixedOrders=true) (H:aFG S K mb ops s rs) {tbl:List Nat} (hnew:aBn true tbl s rs=true) (hdr:vG tbl ops.toList rs=true)
  {a:Act} {w:World} (hs:Sim S s.sig a { w with drawn:=w.drawn + 1 }) {Q:Exit→Act→World→Prop} (hQ:∀ a' w',Sim S (kF rs s rs.length).sig a' w'→Q .normal a' w') {id:Nat} :
  (Code.region id ops true).wpIn S.F 0 S.P Q a w:=by
 refine wpIn_region_any hm ?_
 have hok:∀ (j:Nat) (r:Rec),rs[j]?=some r→kU r s.tm.length=true:=fun j r hr=>by
  have hj:j < ops.size:=by rw [← H.len];exact (List.getElem?_eq_some_iff.1 hr).1
  exact (H.at_ j _ r (Array.getElem?_eq_getElem hj) hr).2
 obtain ⟨hanc,hind⟩:=aEN hdr H.len
 have get:∀ j,j < ops.size→∃ r,rs[j]?=some r:=fun j hj=>⟨_,List.getElem?_eq_getElem (by rw [H.len];exact hj)⟩
 -- the orders
 have HO:Orders (dU rs) ops.size (fun i j=>(tbl.getD j 0).testBit i)
   (fun j σ=>∀ r,rs[j]?=some r→(∀ t ∈ r.reads,σ.T t=(kF rs s j).sig.T t)∧∀ nm ∈ r.fp,σ.m nm=(kF rs s j).sig.m nm)
   (fun j σ=>∀ r k,rs[j]?=some r→r.new=some k→Unm k σ) s.sig:=by
  refine ⟨fun i j hij hj hna σ=>?_,fun i j hij hj hna σ=>?_,fun i j hij hj hna σ=>?_,fun i j hi hj hne hc σ hu=>?_,fun j hj=>?_,fun j hj r k hr hk=>(uG hnew hr hk).1⟩
  ·obtain ⟨r,hr⟩:=get i (by omega);obtain ⟨q,hq⟩:=get j hj
   simp only [dU,hr,hq]
   exact (uO (hind i j r q hij hr hq hna)).1 σ
  ·obtain ⟨r,hr⟩:=get i (by omega);obtain ⟨q,hq⟩:=get j hj
   obtain ⟨g1,g2⟩:=(uO (hind i j r q hij hr hq hna)).2.1 σ
   simp only [dU,hr]
   refine ⟨fun h r' hr'=>?_,fun h r' hr'=>?_⟩ <;> (have e:r'=q:=Option.some.inj (hr'.symm.trans hq);subst e;obtain ⟨h1,h2⟩:=h _ hr')
   ·exact ⟨fun t ht=>(g1 t ht).symm.trans (h1 t ht),fun nm hnm=>(g2 nm hnm).symm.trans (h2 nm hnm)⟩
   ·exact ⟨fun t ht=>(g1 t ht).trans (h1 t ht),fun nm hnm=>(g2 nm hnm).trans (h2 nm hnm)⟩
  ·obtain ⟨r,hr⟩:=get i (by omega);obtain ⟨q,hq⟩:=get j hj
   obtain ⟨g1,g2⟩:=(uO (hind i j r q hij hr hq hna)).2.2 σ
   simp only [dU,hq]
   refine ⟨fun h r' hr'=>?_,fun h r' hr'=>?_⟩ <;> (have e:r'=r:=Option.some.inj (hr'.symm.trans hr);subst e;obtain ⟨h1,h2⟩:=h _ hr')
   ·exact ⟨fun t ht=>(g1 t ht).symm.trans (h1 t ht),fun nm hnm=>(g2 nm hnm).symm.trans (h2 nm hnm)⟩
   ·exact ⟨fun t ht=>(g1 t ht).trans (h1 t ht),fun nm hnm=>(g2 nm hnm).trans (h2 nm hnm)⟩
  ·obtain ⟨q,hq⟩:=get i hi
   intro r k hr hk
   simp only [dU,hq]
   refine yP ((uG hnew hr hk).2 i q hq hne ?_) (hu r k hr hk)
   rcases hc with hc | hc
   ·exact .inl hc
   ·exact .inr ⟨rfl,hc⟩
  ·intro r hr
   rw [tY hok j (by rw [H.len];omega)]
   exact ⟨fun _ _=>rfl,fun _ _=>rfl⟩
 -- the induction
 have key:∀ (n:Nat) (listed:Array Bool) (a:Act) (w:World),listed.size=ops.size →
   ((List.range ops.size).filter fun i=>!listed.getD i true).length≤n →
   (∀ i j,i < j→j < ops.size→(tbl.getD j 0).testBit i=true→listed.getD j false=true→listed.getD i false=true) →
   Sim S (jR (dU rs) (fun i=>listed.getD i false) ops.size s.sig) a w→wpAnyIn S.F 0 S.P .any ops Q n listed a w:=by
  have allDone:∀ (listed:Array Bool) (a:Act) (w:World),listed.size=ops.size→Region.ready .any ops listed=[] →
    Sim S (jR (dU rs) (fun i=>listed.getD i false) ops.size s.sig) a w→Q .normal a w:=by
   intro listed a w hsz hrd h
   have hall:∀ j,j < ops.size→listed.getD j false=true:=by
    intro j
    induction j using Nat.strongRecOn with
    | _ j ih =>
     intro hj
     cases hd:listed.getD j false with
     | true=>rfl
     | false =>
      exfalso
      have ho:=Array.getElem?_eq_getElem hj
      have hmem:j ∈ Region.ready .any ops listed:=by
       unfold Region.ready
       simp only [List.mem_filter,List.mem_range,Bool.and_eq_true,ho,Option.map_some,Option.getD_some]
       refine ⟨hj,?_,?_⟩
       ·have:listed.getD j true=listed.getD j false:=by simp [Array.getD,hsz,hj]
        rw [this,hd];rfl
       ·rw [Array.all_eq_true_iff_forall_mem]
        intro e he
        cases hb:Region.binds .any e with
        | false=>rfl
        | true =>
         have hlt:=(hanc j _ ho).1 e he hb
         rw [ih e.on hlt (by omega)];rfl
      rw [hrd] at hmem;cases hmem
   refine hQ a w ?_
   rw [H.len,← tY hok ops.size (by rw [H.len];exact Nat.le_refl _),tX (dU rs) (d:=aLD) (d':=fun i=>listed.getD i false) ops.size s.sig (fun i hi=>(hall i hi).symm)]
   exact h
  intro n
  induction n with
  | zero =>
   intro listed a w hsz hcnt hdc h
   have hrd:Region.ready .any ops listed=[]:=by
    have:((List.range ops.size).filter fun i=>!listed.getD i true)=[]:=List.eq_nil_of_length_eq_zero (by omega)
    unfold Region.ready
    rw [List.filter_eq_nil_iff] at this ⊢
    intro i hi
    have:=this i hi
    simp only [Bool.and_eq_true,not_and]
    intro h1;exact (this h1).elim
   exact ⟨hrd,allDone listed a w hsz hrd h⟩
  | succ n ih =>
   intro listed a w hsz hcnt hdc h
   refine ⟨fun hrd=>allDone listed a w hsz hrd h,fun j hj=>?_⟩
   obtain ⟨hjun,o,ho,hpre⟩:=mem_ready.1 hj
   have hjl:j < ops.size:=(Array.getElem?_eq_some_iff.1 ho).1
   obtain ⟨r,hr⟩:=get j hjl
   have hjf:listed.getD j false=false:=by
    have:listed.getD j true=listed.getD j false:=by simp [Array.getD,hsz,hjl]
    rw [← this];exact hjun
   have hp:∀ i,i < j→(tbl.getD j 0).testBit i=true→listed.getD i false=true:=by
    intro i hij hb
    obtain ⟨e,he,heb,hc⟩:=(hanc j o ho).2 i hb
    have hel:=hpre e he heb
    rcases hc with rfl | hc
    ·exact hel
    ·have hlt:=(hanc j o ho).1 e he heb
     have:i < e.on:=by
      -- bits of the table lie below their operation
      have below:∀ q,q < ops.size→∀ i,(tbl.getD q 0).testBit i=true→i < q:=by
       intro q
       induction q using Nat.strongRecOn with
       | _ q ihq =>
        intro hq i hb
        have hoq:=Array.getElem?_eq_getElem hq
        obtain ⟨e,he,heb,hc⟩:=(hanc q _ hoq).2 i hb
        have hlt:=(hanc q _ hoq).1 e he heb
        rcases hc with rfl | hc
        ·exact hlt
        ·have:=ihq e.on hlt (by omega) i hc;omega
      exact below e.on (by omega) i hc
     exact hdc i e.on this (by omega) hc hel
   obtain ⟨g1,g2,g3⟩:=aEI HO (done:=fun i=>listed.getD i false) hdc hjl hjf hp
   obtain ⟨g4,g5⟩:=g1 r hr
   refine wpOpIn_mono (fun a' w' h'=>ih (listed.setIfInBounds j true) a' w' (by simpa using hsz) ?_ ?_ ?_) (H.step hK (Q:=Q) ho hr g4 g5 (fun k hk=>g2 r k hr hk) h)
   ·-- one fewer is left
    have hc:∀ (l:List Nat),l.Nodup→j ∈ l→(l.filter fun i=>!(listed.setIfInBounds j true).getD i true).length + 1≤(l.filter fun i=>!listed.getD i true).length:=by
     intro l
     induction l with
     | nil=>intro _ h;cases h
     | cons x l ihl =>
      intro hnd hm
      rw [List.nodup_cons] at hnd
      simp only [List.filter_cons]
      by_cases hx:x=j
      ·subst hx
       have e1:(listed.setIfInBounds x true).getD x true=true:=by
        simp [Array.getD,hsz,hjl]
       have e2:∀ (l:List Nat),x ∉ l→(l.filter fun i=>!(listed.setIfInBounds x true).getD i true)=l.filter fun i=>!listed.getD i true:=by
        intro l hl
        apply List.filter_congr
        intro i hi
        have:i≠x:=fun e=>hl (e ▸ hi)
        simp only [Array.getD_eq_getD_getElem?,Array.getElem?_setIfInBounds]
        rw [if_neg (fun e=>this e.symm)]
       rw [e1,hjun,e2 l hnd.1]
       simp
      ·have e1:(listed.setIfInBounds j true).getD x true=listed.getD x true:=by
        simp only [Array.getD_eq_getD_getElem?,Array.getElem?_setIfInBounds]
        rw [if_neg (fun e=>hx e.symm)]
       rw [e1]
       have ih2:=ihl hnd.2 (by rcases List.mem_cons.1 hm with g | g;exact (hx g.symm).elim;exact g)
       split
       ·simp only [List.length_cons];omega
       ·exact ih2
    have:=hc (List.range ops.size) List.nodup_range (by simpa using hjl)
    omega
   ·intro i q hiq hq hb hlq
    have e:∀ i,(listed.setIfInBounds j true).getD i false=if i=j then true else listed.getD i false:=by
     intro i
     simp only [Array.getD_eq_getD_getElem?,Array.getElem?_setIfInBounds]
     by_cases e:j=i
     ·subst e;simp [hsz,hjl]
     ·rw [if_neg e,if_neg (fun h=>e h.symm)]
    rw [e] at hlq ⊢
    split
    ·rfl
    ·split at hlq
     ·rename_i e1;subst e1;exact hp i hiq hb
     ·exact hdc i q hiq hq hb hlq
   ·have e:(fun i=>(listed.setIfInBounds j true).getD i false)=fun i=>if i=j then true else listed.getD i false:=by
     funext i
     simp only [Array.getD_eq_getD_getElem?,Array.getElem?_setIfInBounds]
     by_cases e:j=i
     ·subst e;simp [hsz,hjl]
     ·rw [if_neg e,if_neg (fun h=>e h.symm)]
    rw [e,g3];exact h'
 refine key ops.size (Array.replicate ops.size false) a _ (by simp) ?_ ?_ ?_
 ·exact Nat.le_trans (List.length_filter_le _ _) (by simp)
 ·intro i j hij hj hb hl
  rw [Array.getD_eq_getD_getElem?] at hl
  simp [hj] at hl
 ·have:∀ n,jR (dU rs) (fun i=>(Array.replicate ops.size false).getD i false) n s.sig=s.sig:=by
   intro n
   induction n with
   | zero=>rfl
   | succ n ih =>
    have:(Array.replicate ops.size false).getD n false=false:=by
     rw [Array.getD_eq_getD_getElem?]
     cases h:(Array.replicate ops.size false)[n]? with
     | none=>rfl
     | some v=>rw [Array.getElem?_replicate] at h;split at h <;> cases h;rfl
    simp only [jR,this,Bool.false_eq_true,if_false];exact ih
  rw [this];exact hs
end
end Go.Eng

/- The engine, part 12b: a region that draws its order, where one operation is of another kind: it may panic, or hand something over. -/
namespace Go.Eng
open Go.RowKit
section
variable {S:Base} {K:Kt} {mb:Tmp→Bool} {ops:Array Oper} {s:St} {rs:List Rec}
theorem aG0 {listed:Array Bool} {j N:Nat} (hsz:listed.size=N) (hjl:j < N) (hjun:listed.getD j true=false):((List.range N).filter fun i=>!(listed.setIfInBounds j true).getD i true).length + 1≤((List.range N).filter fun i=>!listed.getD i true).length:=by
 have hc:∀ (l:List Nat),l.Nodup→j ∈ l→(l.filter fun i=>!(listed.setIfInBounds j true).getD i true).length + 1≤(l.filter fun i=>!listed.getD i true).length:=by
  intro l
  induction l with
  | nil=>intro _ h;cases h
  | cons x l ihl =>
   intro hnd hm
   rw [List.nodup_cons] at hnd
   simp only [List.filter_cons]
   by_cases hx:x=j
   ·subst hx
    have e1:(listed.setIfInBounds x true).getD x true=true:=by
     simp [Array.getD,hsz,hjl]
    have e2:∀ (l:List Nat),x ∉ l→(l.filter fun i=>!(listed.setIfInBounds x true).getD i true)=l.filter fun i=>!listed.getD i true:=by
     intro l hl
     apply List.filter_congr
     intro i hi
     have:i≠x:=fun e=>hl (e ▸ hi)
     simp only [Array.getD_eq_getD_getElem?,Array.getElem?_setIfInBounds]
     rw [if_neg (fun e=>this e.symm)]
    rw [e1,hjun,e2 l hnd.1]
    simp
   ·have e1:(listed.setIfInBounds j true).getD x true=listed.getD x true:=by
     simp only [Array.getD_eq_getD_getElem?,Array.getElem?_setIfInBounds]
     rw [if_neg (fun e=>hx e.symm)]
    rw [e1]
    have ih2:=ihl hnd.2 (by rcases List.mem_cons.1 hm with g | g;exact (hx g.symm).elim;exact g)
    split
    ·simp only [List.length_cons];omega
    ·exact ih2
 exact hc (List.range N) List.nodup_range (by simpa using hjl)
def Live (tbl:List Nat) (k q j:Nat):Prop:=k≤j∧j≠q∧(tbl.getD j 0).testBit q=false
theorem aDO (hK:aQ S.P S.G K) (hlen:rs.length=ops.size) (htm:s.tm.length=S.N) {tbl:List Nat} {k q:Nat}
  (hat:∀ (j:Nat) o r,ops[j]?=some o→rs[j]?=some r→Live tbl k q j→lF S.P S.G K (aRJ mb o) ops (kF rs s j).nx (kF rs s j).sig o=some r∧(∀ d,o.dst=some d→d < S.N)∧∀ p ∈ r.need,p)
  (hok:∀ (j:Nat) (r:Rec),rs[j]?=some r→kU r s.tm.length=true) (hnew:aBn true tbl s rs=true) (hdr:vG tbl ops.toList rs=true) {Q:Exit→Act→World→Prop}
  (hQ:ops.size≤q→∀ a' w',Sim S (kF rs s rs.length).sig a' w'→Q .normal a' w')
  (spec:q < ops.size→∀ (n:Nat) (listed:Array Bool) (a:Act) (w:World),listed.size=ops.size→listed.getD q false=false→((List.range ops.size).filter fun i=>!listed.getD i true).length≤n + 1 →
   (∀ i,(tbl.getD q 0).testBit i=true→listed.getD i false=true)→(∀ i,(tbl.getD i 0).testBit q=true→i < ops.size→listed.getD i false=false) →
   (∀ r,rs[q]?=some r→(∀ t ∈ r.reads,(jR (dU rs) (fun i=>listed.getD i false) ops.size s.sig).T t=(kF rs s q).sig.T t)∧∀ nm ∈ r.fp,(jR (dU rs) (fun i=>listed.getD i false) ops.size s.sig).m nm=(kF rs s q).sig.m nm) →
   Sim S (jR (dU rs) (fun i=>listed.getD i false) ops.size s.sig) a w→wpOpIn S.F 0 S.P ops Q q (wpAnyIn S.F 0 S.P .any ops Q n (listed.setIfInBounds q true)) a w) :
  ∀ (n:Nat) (listed:Array Bool) (a:Act) (w:World),listed.size=ops.size→((List.range ops.size).filter fun i=>!listed.getD i true).length≤n →
   (∀ i,i < k→i < ops.size→listed.getD i false=true)→(q < ops.size→listed.getD q false=false) →
   (∀ i j,i < j→j < ops.size→(tbl.getD j 0).testBit i=true→listed.getD j false=true→listed.getD i false=true) →
   Sim S (jR (dU rs) (fun i=>listed.getD i false) ops.size s.sig) a w→wpAnyIn S.F 0 S.P .any ops Q n listed a w:=by
 obtain ⟨hanc,hind⟩:=aEN hdr hlen
 have get:∀ j,j < ops.size→∃ r,rs[j]?=some r:=fun j hj=>⟨_,List.getElem?_eq_getElem (by rw [hlen];exact hj)⟩
 -- the orders
 have HO:Orders (dU rs) ops.size (fun i j=>(tbl.getD j 0).testBit i)
   (fun j σ=>∀ r,rs[j]?=some r→(∀ t ∈ r.reads,σ.T t=(kF rs s j).sig.T t)∧∀ nm ∈ r.fp,σ.m nm=(kF rs s j).sig.m nm)
   (fun j σ=>∀ r k,rs[j]?=some r→r.new=some k→Unm k σ) s.sig:=by
  refine ⟨fun i j hij hj hna σ=>?_,fun i j hij hj hna σ=>?_,fun i j hij hj hna σ=>?_,fun i j hi hj hne hc σ hu=>?_,fun j hj=>?_,fun j hj r k hr hk=>(uG hnew hr hk).1⟩
  ·obtain ⟨r,hr⟩:=get i (by omega);obtain ⟨q,hq⟩:=get j hj
   simp only [dU,hr,hq]
   exact (uO (hind i j r q hij hr hq hna)).1 σ
  ·obtain ⟨r,hr⟩:=get i (by omega);obtain ⟨q,hq⟩:=get j hj
   obtain ⟨g1,g2⟩:=(uO (hind i j r q hij hr hq hna)).2.1 σ
   simp only [dU,hr]
   refine ⟨fun h r' hr'=>?_,fun h r' hr'=>?_⟩ <;> (have e:r'=q:=Option.some.inj (hr'.symm.trans hq);subst e;obtain ⟨h1,h2⟩:=h _ hr')
   ·exact ⟨fun t ht=>(g1 t ht).symm.trans (h1 t ht),fun nm hnm=>(g2 nm hnm).symm.trans (h2 nm hnm)⟩
   ·exact ⟨fun t ht=>(g1 t ht).trans (h1 t ht),fun nm hnm=>(g2 nm hnm).trans (h2 nm hnm)⟩
  ·obtain ⟨r,hr⟩:=get i (by omega);obtain ⟨q,hq⟩:=get j hj
   obtain ⟨g1,g2⟩:=(uO (hind i j r q hij hr hq hna)).2.2 σ
   simp only [dU,hq]
   refine ⟨fun h r' hr'=>?_,fun h r' hr'=>?_⟩ <;> (have e:r'=r:=Option.some.inj (hr'.symm.trans hr);subst e;obtain ⟨h1,h2⟩:=h _ hr')
   ·exact ⟨fun t ht=>(g1 t ht).symm.trans (h1 t ht),fun nm hnm=>(g2 nm hnm).symm.trans (h2 nm hnm)⟩
   ·exact ⟨fun t ht=>(g1 t ht).trans (h1 t ht),fun nm hnm=>(g2 nm hnm).trans (h2 nm hnm)⟩
  ·obtain ⟨q,hq⟩:=get i hi
   intro r k hr hk
   simp only [dU,hq]
   refine yP ((uG hnew hr hk).2 i q hq hne ?_) (hu r k hr hk)
   rcases hc with hc | hc
   ·exact .inl hc
   ·exact .inr ⟨rfl,hc⟩
  ·intro r hr
   rw [tY hok j (by rw [hlen];omega)]
   exact ⟨fun _ _=>rfl,fun _ _=>rfl⟩
 have below:∀ q,q < ops.size→∀ i,(tbl.getD q 0).testBit i=true→i < q:=by
  intro q
  induction q using Nat.strongRecOn with
  | _ q ihq =>
   intro hq i hb
   have hoq:=Array.getElem?_eq_getElem hq
   obtain ⟨e,he,heb,hc⟩:=(hanc q _ hoq).2 i hb
   have hlt:=(hanc q _ hoq).1 e he heb
   rcases hc with rfl | hc
   ·exact hlt
   ·have:=ihq e.on hlt (by omega) i hc;omega
 have allDone:∀ (listed:Array Bool) (a:Act) (w:World),listed.size=ops.size→Region.ready .any ops listed=[]→(q < ops.size→listed.getD q false=false) →
   Sim S (jR (dU rs) (fun i=>listed.getD i false) ops.size s.sig) a w→Q .normal a w:=by
  intro listed a w hsz hrd hql h
  have hall:∀ j,j < ops.size→listed.getD j false=true:=by
   intro j
   induction j using Nat.strongRecOn with
   | _ j ih =>
    intro hj
    cases hd:listed.getD j false with
    | true=>rfl
    | false =>
     exfalso
     have ho:=Array.getElem?_eq_getElem hj
     have hmem:j ∈ Region.ready .any ops listed:=by
      unfold Region.ready
      simp only [List.mem_filter,List.mem_range,Bool.and_eq_true,ho,Option.map_some,Option.getD_some]
      refine ⟨hj,?_,?_⟩
      ·have:listed.getD j true=listed.getD j false:=by simp [Array.getD,hsz,hj]
       rw [this,hd];rfl
      ·rw [Array.all_eq_true_iff_forall_mem]
       intro e he
       cases hb:Region.binds .any e with
       | false=>rfl
       | true =>
        have hlt:=(hanc j _ ho).1 e he hb
        rw [ih e.on hlt (by omega)];rfl
     rw [hrd] at hmem;cases hmem
  have hqs:ops.size≤q:=by
   rcases Nat.lt_or_ge q ops.size with g | g
   ·have:=hql g;rw [hall q g] at this;cases this
   ·exact g
  refine hQ hqs a w ?_
  rw [hlen,← tY hok ops.size (by rw [hlen];exact Nat.le_refl _),tX (dU rs) (d:=aLD) (d':=fun i=>listed.getD i false) ops.size s.sig (fun i hi=>(hall i hi).symm)]
  exact h
 intro n
 induction n with
 | zero =>
  intro listed a w hsz hcnt _ hql hdc h
  have hrd:Region.ready .any ops listed=[]:=by
   have:((List.range ops.size).filter fun i=>!listed.getD i true)=[]:=List.eq_nil_of_length_eq_zero (by omega)
   unfold Region.ready
   rw [List.filter_eq_nil_iff] at this ⊢
   intro i hi
   have:=this i hi
   simp only [Bool.and_eq_true,not_and]
   intro h1;exact (this h1).elim
  exact ⟨hrd,allDone listed a w hsz hrd hql h⟩
 | succ n ih =>
  intro listed a w hsz hcnt hk hql hdc h
  refine ⟨fun hrd=>allDone listed a w hsz hrd hql h,fun j hj=>?_⟩
  obtain ⟨hjun,o,ho,hpre⟩:=mem_ready.1 hj
  have hjl:j < ops.size:=(Array.getElem?_eq_some_iff.1 ho).1
  obtain ⟨r,hr⟩:=get j hjl
  have hjf:listed.getD j false=false:=by
   have:listed.getD j true=listed.getD j false:=by simp [Array.getD,hsz,hjl]
   rw [← this];exact hjun
  have hp:∀ i,i < j→(tbl.getD j 0).testBit i=true→listed.getD i false=true:=by
   intro i hij hb
   obtain ⟨e,he,heb,hc⟩:=(hanc j o ho).2 i hb
   have hel:=hpre e he heb
   rcases hc with rfl | hc
   ·exact hel
   ·have hlt:=(hanc j o ho).1 e he heb
    exact hdc i e.on (below e.on (by omega) i hc) (by omega) hc hel
  obtain ⟨g1,g2,g3⟩:=aEI HO (done:=fun i=>listed.getD i false) hdc hjl hjf hp
  by_cases hjq:j=q
  ·subst hjq
   exact spec hjl n listed a w hsz hjf hcnt (fun i hb=>hp i (below j hjl i hb) hb) (fun i hb hi=>by
    cases hl:listed.getD i false with
    | false=>rfl
    | true=>have:=hdc j i (below i hi j hb) hi hb hl;rw [hjf] at this;cases this) g1 h
  ·have hlive:Live tbl k q j:=by
    refine ⟨?_,hjq,?_⟩
    ·rcases Nat.lt_or_ge j k with g | g
     ·have:=hk j g hjl;rw [hjf] at this;cases this
     ·exact g
    ·cases hb:(tbl.getD j 0).testBit q with
     | false=>rfl
     | true =>
      have hlt:=below j hjl q hb
      have:=hp q hlt hb
      rw [hql (by omega)] at this;cases this
   obtain ⟨g4,g5⟩:=g1 r hr
   obtain ⟨l1,l2,l3⟩:=hat j o r ho hr hlive
   have hst:=aAZ l1 g4 g5
   have hstep:wpOpIn S.F 0 S.P ops Q j (fun a' w'=>Sim S (dU rs j (jR (dU rs) (fun i=>listed.getD i false) ops.size s.sig)) a' w') a w:=by
    have:=wJ (Q:=Q) hK ho h l2 hst l3 (fun k hk=>g2 r k hr hk)
    simp only [dU,hr]
    exact this
   have eset:∀ i,(listed.setIfInBounds j true).getD i false=if i=j then true else listed.getD i false:=by
    intro i
    simp only [Array.getD_eq_getD_getElem?,Array.getElem?_setIfInBounds]
    by_cases e:j=i
    ·subst e;simp [hsz,hjl]
    ·rw [if_neg e,if_neg (fun h=>e h.symm)]
   refine wpOpIn_mono (fun a' w' h'=>ih (listed.setIfInBounds j true) a' w' (by simpa using hsz) ?_ ?_ ?_ ?_ ?_) hstep
   ·have:=aG0 hsz hjl hjun
    omega
   ·intro i hi hil
    rw [eset];split
    ·rfl
    ·exact hk i hi hil
   ·intro hqs
    rw [eset,if_neg (fun e=>hjq e.symm)];exact hql hqs
   ·intro i p hip hp2 hb hlp
    rw [eset] at hlp ⊢
    split
    ·rfl
    ·split at hlp
     ·rename_i e1;subst e1;exact hp i hip hb
     ·exact hdc i p hip hp2 hb hlp
   ·rw [show (fun i=>(listed.setIfInBounds j true).getD i false)=fun i=>if i=j then true else listed.getD i false from funext eset,g3];exact h'
end
end Go.Eng
