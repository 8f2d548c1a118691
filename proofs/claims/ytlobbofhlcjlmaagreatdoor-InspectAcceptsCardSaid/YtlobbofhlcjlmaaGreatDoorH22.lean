/- The engine, part 22: tables of contracts, by the forms of the arguments. -/
import Derived.Test.YtlobbofhlcjlmaaGreatDoorH21c
set_option linter.unusedSimpArgs false
set_option linter.unusedVariables false
namespace Go.Eng
open Go.RowKit
def aVn (l:List Nat) (s:St):St:={ s with tm:=(List.range s.tm.length).map fun i=>if l.contains i then s.tm.getD i .top else .top }
def lvA (L:List (Nat×List Nat)) (A:Ann):Ann:=⟨fun id s=>match L.lookup id with
 | none=>A.loop id s
 | some l=>match A.loop id s with
  | some sp=>some { sp with st:=fun x=>aVn l (sp.st x) }
  | none=>none,A.pre,A.cut⟩
inductive AK where
 | val (t:Ty)
 | row (t:Ty)
 | ptr (t:Ty)
 | arr (t:Ty)
 | fn (g:FuncId) (t:Ty)
 | fnp (g:FuncId) (t:Ty)
 | fn0 (g:FuncId)
 | fnp0 (g:FuncId)
 | bp (t:Ty)
 | mp (nm:Nat)
 | pv (nm:Nat) (a b:Ty)
 | pvf (a b:Ty)
 | pvb (a b:Ty)
 | fnb (g:FuncId) (t:Ty)
@[reducible] def AK.den:AK→Type
 | .val t=>t.den
 | .row t=>t.den
 | .ptr t=>t.den
 | .arr t=>List t.den
 | .fn _ t=>t.den
 | .fnp _ t=>t.den
 | .fn0 _=>PUnit
 | .fnp0 _=>PUnit
 | .bp t=>t.den
 | .mp _=>PUnit
 | .pv _ a b=>a.den×b.den
 | .pvf a b=>a.den×b.den
 | .pvb a b=>a.den×b.den
 | .fnb _ t=>t.den
def AK.av:(k:AK)→k.den→AV
 | .val t,x=>.dat t x
 | .row t,x=>.agg (cellsOf t x)
 | .ptr t,x=>.ip t x
 | .arr t,x=>.ia t x
 | .fn g t,x=>.fn g [.ip t x]
 | .fnp g t,x=>.ipv (.fn g [.ip t x])
 | .fn0 g,_=>.fn g []
 | .fnp0 g,_=>.ipv (.fn g [])
 | .bp t,x=>.ipv (.ip t x)
 | .mp nm,_=>.ptr nm 1 0 0
 | .pv nm a b,x=>.ips [.ip a x.1,.ip b x.2,.ptr nm 1 0 0]
 | .pvf a b,x=>.ips [.ip a x.1,.ip b x.2,.top]
 | .pvb a b,x=>.ipv (.ips [.ip a x.1,.ip b x.2,.top])
 | .fnb g t,x=>.fn g [.ipv (.ip t x)]
def aLZ (t:Ty):AV→Option t.den
 | .ip t' x=>if h:t'=t then some (h ▸ x) else none
 | _=>none
def aUe (g:FuncId) (t:Ty):AV→Option t.den
 | .fn g' [a]=>if g'=g then aLZ t a else none
 | _=>none
def aRq (g:FuncId) (t:Ty):AV→Option t.den
 | .fn g' [.ipv a]=>if g'=g then aLZ t a else none
 | _=>none
def aUc (a b:Ty):AV→Option (a.den×b.den)
 | .ips [x,y,.top]=>match aLZ a x,aLZ b y with
  | some x,some y=>some (x,y)
  | _,_=>none
 | _=>none
def aRp (nm:Nat) (a b:Ty):AV→Option (a.den×b.den)
 | .ips [x,y,.ptr nm' 1 0 0]=>if nm'=nm then match aLZ a x,aLZ b y with
  | some x,some y=>some (x,y)
  | _,_=>none
  else none
 | _=>none
def aOw (g:FuncId):AV→Option PUnit
 | .fn g' []=>if g'=g then some ⟨⟩ else none
 | _=>none
def AK.of:(k:AK)→AV→Option k.den
 | .val t,a=>a.as t
 | .row t,a=>match a with
  | .agg cs=>match gG t cs with
   | some (x,[])=>some x
   | _=>none
  | _=>none
 | .ptr t,a=>aLZ t a
 | .arr t,a=>match a with
  | .ia t' x=>if h:t'=t then some (h ▸ x) else none
  | _=>none
 | .fn g t,a=>aUe g t a
 | .fnp g t,a=>match a with
  | .ipv b=>aUe g t b
  | _=>none
 | .fn0 g,a=>aOw g a
 | .fnp0 g,a=>match a with
  | .ipv b=>aOw g b
  | _=>none
 | .bp t,a=>match a with
  | .ipv b=>aLZ t b
  | _=>none
 | .mp nm,a=>match a with
  | .ptr nm' 1 0 0=>if nm'=nm then some ⟨⟩ else none
  | _=>none
 | .pv nm a b,x=>aRp nm a b x
 | .pvf a b,x=>aUc a b x
 | .pvb a b,x=>match x with
  | .ipv y=>aUc a b y
  | _=>none
 | .fnb g t,a=>aRq g t a
theorem sV {t:Ty} {a:AV} {x:t.den} (h:aLZ t a=some x):a=.ip t x:=by
 unfold aLZ at h
 split at h
 ·split at h
  ·rename_i e;subst e;cases h;rfl
  ·cases h
 ·cases h
theorem aLz {g:FuncId} {t:Ty} {a:AV} {x:t.den} (h:aUe g t a=some x):a=.fn g [.ip t x]:=by
 unfold aUe at h
 split at h
 ·split at h
  ·rename_i e;subst e;rw [sV h]
  ·cases h
 ·cases h
theorem aOv {g:FuncId} {t:Ty} {a:AV} {x:t.den} (h:aRq g t a=some x):a=.fn g [.ipv (.ip t x)]:=by
 unfold aRq at h
 split at h
 ·split at h
  ·rename_i e;subst e;rw [sV h]
  ·cases h
 ·cases h
theorem aLx {t s:Ty} {a:AV} {x:t.den×s.den} (h:aUc t s a=some x):a=.ips [.ip t x.1,.ip s x.2,.top]:=by
 unfold aUc at h
 split at h
 ·split at h
  ·rename_i h1 h2
   cases h
   rw [sV h1,sV h2]
  ·cases h
 ·cases h
theorem aOu {nm:Nat} {t s:Ty} {a:AV} {x:t.den×s.den} (h:aRp nm t s a=some x):a=.ips [.ip t x.1,.ip s x.2,.ptr nm 1 0 0]:=by
 unfold aRp at h
 split at h
 ·split at h
  ·rename_i e
   subst e
   split at h
   ·rename_i h1 h2
    cases h
    rw [sV h1,sV h2]
   ·cases h
  ·cases h
 ·cases h
theorem aHR {g:FuncId} {a:AV} {x:PUnit} (h:aOw g a=some x):a=.fn g []:=by
 unfold aOw at h
 split at h
 ·split at h
  ·rename_i e;subst e;rfl
  ·cases h
 ·cases h
theorem AK.of_rel {P:Program} {C:Ctx} {k:AK} {a:AV} {x:k.den} {v:Value} (h:k.of a=some x) (hr:a.rel P C v):(k.av x).rel P C v:=by
 cases k with
 | val t=>exact AV.as_rel h hr
 | row t =>
  simp only [AK.of] at h
  split at h
  ·split at h
   ·rename_i y hy
    cases h
    obtain ⟨us,e,g⟩:=hr
    obtain ⟨u1,u2,e2,g1,g2⟩:=fQ hy g
    have g2':u2=[]:=g2
    subst g2' e2
    exact ⟨u1 ++ [],e,by rw [List.append_nil];exact fM g1⟩
   ·cases h
  ·cases h
 | ptr t=>rw [sV h] at hr;exact hr
 | arr t =>
  simp only [AK.of] at h
  split at h
  ·split at h
   ·rename_i e;subst e;cases h;exact hr
   ·cases h
  ·cases h
 | fn g t=>rw [aLz h] at hr;exact hr
 | fnp g t =>
  simp only [AK.of] at h
  split at h
  ·rw [aLz h] at hr;exact hr
  ·cases h
 | fn0 g=>rw [aHR h] at hr;exact hr
 | fnp0 g =>
  simp only [AK.of] at h
  split at h
  ·rw [aHR h] at hr;exact hr
  ·cases h
 | bp t =>
  simp only [AK.of] at h
  split at h
  ·rw [sV h] at hr;exact hr
  ·cases h
 | mp nm =>
  simp only [AK.of] at h
  split at h
  ·split at h
   ·rename_i e;subst e;exact hr
   ·cases h
  ·cases h
 | pv nm a b=>rw [aOu h] at hr;exact hr
 | pvf a b=>rw [aLx h] at hr;exact hr
 | pvb a b =>
  simp only [AK.of] at h
  split at h
  ·rw [aLx h] at hr;exact hr
  ·cases h
 | fnb g t=>rw [aOv h] at hr;exact hr
@[reducible] def AKs:List AK→Type
 | []=>PUnit
 | k :: r=>k.den×AKs r
def avK:(l:List AK)→AKs l→List AV
 | [],_=>[]
 | k :: r,x=>k.av x.1 :: avK r x.2
def ofK:(l:List AK)→List AV→Option (AKs l)
 | [],[]=>some ⟨⟩
 | k :: r,a :: as=>match k.of a,ofK r as with
  | some x,some y=>some (x,y)
  | _,_=>none
 | _,_=>none
theorem lJ {P:Program} {C:Ctx}:∀ {l:List AK} {as:List AV} {x:AKs l} {us:List Value},ofK l as=some x→AV.relL P C as us→AV.relL P C (avK l x) us
 | [],[],_,_,_,hr=>hr
 | k :: r,a :: as,x,us,h,hr=>by
  simp only [ofK] at h
  split at h
  ·rename_i y z h1 h2
   cases h
   obtain ⟨u,us',e,g1,g2⟩:=hr
   exact ⟨u,us',e,AK.of_rel h1 g1,lJ h2 g2⟩
  ·cases h
 | [],_ :: _,_,_,h,_=>by simp [ofK] at h
 | _ :: _,[],_,_,h,_=>by simp [ofK] at h
def bD (l:List AK) (pre:AKs l→Prop) (ret:AKs l→AV) (args:List AV) (m:Mem):Option pF:=match m with
 | []=>match ofK l args with
  | some x=>some ⟨pre x,ret x,[]⟩
  | none=>none
 | _=>none
theorem aG {P:Program} {G:List (Nat×AV)} {f:FuncId} {l:List AK} {pre:AKs l→Prop} {ret:AKs l→AV} (h:∀ x,aC P G f (avK l x) [] ⟨pre x,ret x,[]⟩) :
  ∀ args m c,bD l pre ret args m=some c→aC P G f args m c:=by
 intro args m c hc
 unfold bD at hc
 split at hc
 ·split at hc
  ·rename_i x hx
   cases hc
   exact (h x).args fun C us _ hu=>lJ hx hu
  ·cases hc
 ·cases hc
def kOr (f0:FuncId) (k:List AV→Mem→Option pF) (K:Kt):Kt:=fun f args m=>if f=f0 then k args m else K f args m
theorem aJ {P:Program} {G:List (Nat×AV)} {f0:FuncId} {k:List AV→Mem→Option pF} {K:Kt} (hk:∀ args m c,k args m=some c→aC P G f0 args m c) (hK:aQ P G K):aQ P G (kOr f0 k K):=by
 intro f args m c h
 unfold kOr at h
 split at h
 ·rename_i e
  subst e
  exact hk args m c h
 ·exact hK f args m c h
def aK1 (l:List AK) (pre:AKs l→Prop) (ret:AKs l→AV) (b:AKs l→Blk) (args:List AV) (m:Mem):Option pF:=match m with
 | []=>match ofK l args with
  | some x=>some ⟨pre x,ret x,[(0,b x)]⟩
  | none=>none
 | _=>none
theorem aKZ {P:Program} {G:List (Nat×AV)} {f:FuncId} {l:List AK} {pre:AKs l→Prop} {ret:AKs l→AV} {b:AKs l→Blk} (h:∀ x,aC P G f (avK l x) [] ⟨pre x,ret x,[(0,b x)]⟩) :
  ∀ args m c,aK1 l pre ret b args m=some c→aC P G f args m c:=by
 intro args m c hc
 unfold aK1 at hc
 split at hc
 ·split at hc
  ·rename_i x hx
   cases hc
   exact (h x).args fun C us _ hu=>lJ hx hu
  ·cases hc
 ·cases hc
def aIN (l:List AK) (q:AKs l→aC1) (args:List AV) (m:Mem):Option aC1:=match m with
 | []=>match ofK l args with
  | some x=>some (q x)
  | none=>none
 | _=>none
def pOr (f0:FuncId) (k:List AV→Mem→Option aC1) (KP:KPt):KPt:=fun f args m=>if f=f0 then k args m else KP f args m
theorem aAN {P:Program} {G:List (Nat×AV)} {f:FuncId} {l:List AK} {q:AKs l→aC1} (h:∀ x,jM P G f (avK l x) [] (q x)):∀ args m r,aIN l q args m=some r→jM P G f args m r:=by
 intro args m r hc
 unfold aIN at hc
 split at hc
 ·split at hc
  ·rename_i x hx
   cases hc
   exact fun hp hk w D E us hD hG hu hH=>h x hp hk w D E us hD hG (lJ hx hu) hH
  ·cases hc
 ·cases hc
theorem rW {P:Program} {G:List (Nat×AV)} {f0:FuncId} {k:List AV→Mem→Option aC1} {KP:KPt} (hk:∀ args m r,k args m=some r→jM P G f0 args m r) (hK:fB P G KP):fB P G (pOr f0 k KP):=by
 intro f args m r h
 unfold pOr at h
 split at h
 ·rename_i e
  subst e
  exact hk args m r h
 ·exact hK f args m r h
def noP:KPt:=fun _ _ _=>none
theorem aER {P:Program} {G:List (Nat×AV)}:fB P G noP:=fun f args m r h=>by cases h
def asVar (nm:Nat) (t:Ty):Mem→Option t.den
 | [(nm',.var [.dat t' x])]=>if nm'=nm then if h:t'=t then some (h ▸ x) else none else none
 | _=>none
theorem aHQ {nm:Nat} {t:Ty} {m:Mem} {x:t.den} (h:asVar nm t m=some x):m=[(nm,.var [.dat t x])]:=by
 unfold asVar at h
 split at h
 ·split at h
  ·rename_i e
   split at h
   ·rename_i e2;subst e e2;cases h;rfl
   ·cases h
  ·cases h
 ·cases h
def aO2 (nm:Nat) (t:Ty) (l:List AK) (pre:AKs l→t.den→Prop) (ret:AKs l→t.den→AV) (upd:AKs l→t.den→t.den) (args:List AV) (m:Mem):Option pF:=match asVar nm t m,ofK l args with
 | some xs,some x=>some ⟨pre x xs,ret x xs,[(nm,.var [.dat t (upd x xs)])]⟩
 | _,_=>none
theorem yS {P:Program} {G:List (Nat×AV)} {f:FuncId} {nm:Nat} {t:Ty} {l:List AK} {pre:AKs l→t.den→Prop} {ret:AKs l→t.den→AV} {upd:AKs l→t.den→t.den}
  (h:∀ x xs,aC P G f (avK l x) [(nm,.var [.dat t xs])] ⟨pre x xs,ret x xs,[(nm,.var [.dat t (upd x xs)])]⟩):∀ args m c,aO2 nm t l pre ret upd args m=some c→aC P G f args m c:=by
 intro args m c hc
 unfold aO2 at hc
 split at hc
 ·rename_i xs x h1 h2
  cases hc
  rw [aHQ h1]
  exact (h x xs).args fun C us _ hu=>lJ h2 hu
 ·cases hc
def aQR (nm:Nat) (t:Ty) (l:List AK) (q:AKs l→t.den→aC1) (args:List AV) (m:Mem):Option aC1:=match asVar nm t m,ofK l args with
 | some xs,some x=>some (q x xs)
 | _,_=>none
theorem aBv {P:Program} {G:List (Nat×AV)} {f:FuncId} {nm:Nat} {t:Ty} {l:List AK} {q:AKs l→t.den→aC1} (h:∀ x xs,jM P G f (avK l x) [(nm,.var [.dat t xs])] (q x xs)):∀ args m r,aQR nm t l q args m=some r→jM P G f args m r:=by
 intro args m r hc
 unfold aQR at hc
 split at hc
 ·rename_i xs x h1 h2
  cases hc
  rw [aHQ h1]
  exact fun hp hk w D E us hD hG hu hH=>h x xs hp hk w D E us hD hG (lJ h2 hu) hH
 ·cases hc
end Go.Eng
