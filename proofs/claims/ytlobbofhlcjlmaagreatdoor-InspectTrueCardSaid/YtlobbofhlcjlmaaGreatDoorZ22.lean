/- The engine, part 22: tables of contracts, by the forms of the arguments. -/
import Derived.Test.YtlobbofhlcjlmaaGreatDoorZ21b
set_option linter.unusedSimpArgs false
set_option linter.unusedVariables false
namespace Go.Eng
open Go.RowKit
inductive AK where
 | val (t:Ty)
 | row (t:Ty)
 | ptr (t:Ty)
 | arr (t:Ty)
 | fn (g:FuncId) (t:Ty)
 | fnp (g:FuncId) (t:Ty)
 | fn0 (g:FuncId)
 | fnp0 (g:FuncId)
 | bp (t:Ty)
 | mp (nm:Nat)
 | pv (nm:Nat) (a b:Ty)
 | pvf (a b:Ty)
 | pvb (a b:Ty)
@[reducible] def AK.den:AK→Type
 | .val t=>t.den
 | .row t=>t.den
 | .ptr t=>t.den
 | .arr t=>List t.den
 | .fn _ t=>t.den
 | .fnp _ t=>t.den
 | .fn0 _=>PUnit
 | .fnp0 _=>PUnit
 | .bp t=>t.den
 | .mp _=>PUnit
 | .pv _ a b=>a.den×b.den
 | .pvf a b=>a.den×b.den
 | .pvb a b=>a.den×b.den
def AK.av:(k:AK)→k.den→AV
 | .val t,x=>.dat t x
 | .row t,x=>.agg (cellsOf t x)
 | .ptr t,x=>.ip t x
 | .arr t,x=>.ia t x
 | .fn g t,x=>.fn g [.ip t x]
 | .fnp g t,x=>.ipv (.fn g [.ip t x])
 | .fn0 g,_=>.fn g []
 | .fnp0 g,_=>.ipv (.fn g [])
 | .bp t,x=>.ipv (.ip t x)
 | .mp nm,_=>.ptr nm 1 0 0
 | .pv nm a b,x=>.ips [.ip a x.1,.ip b x.2,.ptr nm 1 0 0]
 | .pvf a b,x=>.ips [.ip a x.1,.ip b x.2,.top]
 | .pvb a b,x=>.ipv (.ips [.ip a x.1,.ip b x.2,.top])
def asIp (t:Ty):AV→Option t.den
 | .ip t' x=>if h:t'=t then some (h ▸ x) else none
 | _=>none
def asFn (g:FuncId) (t:Ty):AV→Option t.den
 | .fn g' [a]=>if g'=g then asIp t a else none
 | _=>none
def asPv (a b:Ty):AV→Option (a.den×b.den)
 | .ips [x,y,.top]=>match asIp a x,asIp b y with
  | some x,some y=>some (x,y)
  | _,_=>none
 | _=>none
def asPvm (nm:Nat) (a b:Ty):AV→Option (a.den×b.den)
 | .ips [x,y,.ptr nm' 1 0 0]=>if nm'=nm then match asIp a x,asIp b y with
  | some x,some y=>some (x,y)
  | _,_=>none
  else none
 | _=>none
def asFn0 (g:FuncId):AV→Option PUnit
 | .fn g' []=>if g'=g then some ⟨⟩ else none
 | _=>none
def AK.of:(k:AK)→AV→Option k.den
 | .val t,a=>a.as t
 | .row t,a=>match a with
  | .agg cs=>match ofCells t cs with
   | some (x,[])=>some x
   | _=>none
  | _=>none
 | .ptr t,a=>asIp t a
 | .arr t,a=>match a with
  | .ia t' x=>if h:t'=t then some (h ▸ x) else none
  | _=>none
 | .fn g t,a=>asFn g t a
 | .fnp g t,a=>match a with
  | .ipv b=>asFn g t b
  | _=>none
 | .fn0 g,a=>asFn0 g a
 | .fnp0 g,a=>match a with
  | .ipv b=>asFn0 g b
  | _=>none
 | .bp t,a=>match a with
  | .ipv b=>asIp t b
  | _=>none
 | .mp nm,a=>match a with
  | .ptr nm' 1 0 0=>if nm'=nm then some ⟨⟩ else none
  | _=>none
 | .pv nm a b,x=>asPvm nm a b x
 | .pvf a b,x=>asPv a b x
 | .pvb a b,x=>match x with
  | .ipv y=>asPv a b y
  | _=>none
theorem asIp_eq {t:Ty} {a:AV} {x:t.den} (h:asIp t a=some x):a=.ip t x:=by
 unfold asIp at h
 split at h
 ·split at h
  ·rename_i e;subst e;cases h;rfl
  ·cases h
 ·cases h
theorem asFn_eq {g:FuncId} {t:Ty} {a:AV} {x:t.den} (h:asFn g t a=some x):a=.fn g [.ip t x]:=by
 unfold asFn at h
 split at h
 ·split at h
  ·rename_i e;subst e;rw [asIp_eq h]
  ·cases h
 ·cases h
theorem asPv_eq {t s:Ty} {a:AV} {x:t.den×s.den} (h:asPv t s a=some x):a=.ips [.ip t x.1,.ip s x.2,.top]:=by
 unfold asPv at h
 split at h
 ·split at h
  ·rename_i h1 h2
   cases h
   rw [asIp_eq h1,asIp_eq h2]
  ·cases h
 ·cases h
theorem asPvm_eq {nm:Nat} {t s:Ty} {a:AV} {x:t.den×s.den} (h:asPvm nm t s a=some x):a=.ips [.ip t x.1,.ip s x.2,.ptr nm 1 0 0]:=by
 unfold asPvm at h
 split at h
 ·split at h
  ·rename_i e
   subst e
   split at h
   ·rename_i h1 h2
    cases h
    rw [asIp_eq h1,asIp_eq h2]
   ·cases h
  ·cases h
 ·cases h
theorem asFn0_eq {g:FuncId} {a:AV} {x:PUnit} (h:asFn0 g a=some x):a=.fn g []:=by
 unfold asFn0 at h
 split at h
 ·split at h
  ·rename_i e;subst e;rfl
  ·cases h
 ·cases h
theorem AK.of_rel {P:Program} {C:Ctx} {k:AK} {a:AV} {x:k.den} {v:Value} (h:k.of a=some x) (hr:a.rel P C v):(k.av x).rel P C v:=by
 cases k with
 | val t=>exact AV.as_rel h hr
 | row t =>
  simp only [AK.of] at h
  split at h
  ·split at h
   ·rename_i y hy
    cases h
    obtain ⟨us,e,g⟩:=hr
    obtain ⟨u1,u2,e2,g1,g2⟩:=ofCells_rel hy g
    have g2':u2=[]:=g2
    subst g2' e2
    exact ⟨u1 ++ [],e,by rw [List.append_nil];exact relL_cellsOf g1⟩
   ·cases h
  ·cases h
 | ptr t=>rw [asIp_eq h] at hr;exact hr
 | arr t =>
  simp only [AK.of] at h
  split at h
  ·split at h
   ·rename_i e;subst e;cases h;exact hr
   ·cases h
  ·cases h
 | fn g t=>rw [asFn_eq h] at hr;exact hr
 | fnp g t =>
  simp only [AK.of] at h
  split at h
  ·rw [asFn_eq h] at hr;exact hr
  ·cases h
 | fn0 g=>rw [asFn0_eq h] at hr;exact hr
 | fnp0 g =>
  simp only [AK.of] at h
  split at h
  ·rw [asFn0_eq h] at hr;exact hr
  ·cases h
 | bp t =>
  simp only [AK.of] at h
  split at h
  ·rw [asIp_eq h] at hr;exact hr
  ·cases h
 | mp nm =>
  simp only [AK.of] at h
  split at h
  ·split at h
   ·rename_i e;subst e;exact hr
   ·cases h
  ·cases h
 | pv nm a b=>rw [asPvm_eq h] at hr;exact hr
 | pvf a b=>rw [asPv_eq h] at hr;exact hr
 | pvb a b =>
  simp only [AK.of] at h
  split at h
  ·rw [asPv_eq h] at hr;exact hr
  ·cases h
@[reducible] def AKs:List AK→Type
 | []=>PUnit
 | k :: r=>k.den×AKs r
def avK:(l:List AK)→AKs l→List AV
 | [],_=>[]
 | k :: r,x=>k.av x.1 :: avK r x.2
def ofK:(l:List AK)→List AV→Option (AKs l)
 | [],[]=>some ⟨⟩
 | k :: r,a :: as=>match k.of a,ofK r as with
  | some x,some y=>some (x,y)
  | _,_=>none
 | _,_=>none
theorem ofK_rel {P:Program} {C:Ctx}:∀ {l:List AK} {as:List AV} {x:AKs l} {us:List Value},ofK l as=some x→AV.relL P C as us→AV.relL P C (avK l x) us
 | [],[],_,_,_,hr=>hr
 | k :: r,a :: as,x,us,h,hr=>by
  simp only [ofK] at h
  split at h
  ·rename_i y z h1 h2
   cases h
   obtain ⟨u,us',e,g1,g2⟩:=hr
   exact ⟨u,us',e,AK.of_rel h1 g1,ofK_rel h2 g2⟩
  ·cases h
 | [],_ :: _,_,_,h,_=>by simp [ofK] at h
 | _ :: _,[],_,_,h,_=>by simp [ofK] at h
def dataK (l:List AK) (pre:AKs l→Prop) (ret:AKs l→AV) (args:List AV) (m:Mem):Option CRes:=match m with
 | []=>match ofK l args with
  | some x=>some ⟨pre x,ret x,[]⟩
  | none=>none
 | _=>none
theorem dataK_ok {P:Program} {G:List (Nat×AV)} {f:FuncId} {l:List AK} {pre:AKs l→Prop} {ret:AKs l→AV} (h:∀ x,SoundC P G f (avK l x) [] ⟨pre x,ret x,[]⟩) :
  ∀ args m c,dataK l pre ret args m=some c→SoundC P G f args m c:=by
 intro args m c hc
 unfold dataK at hc
 split at hc
 ·split at hc
  ·rename_i x hx
   cases hc
   exact (h x).args fun C us _ hu=>ofK_rel hx hu
  ·cases hc
 ·cases hc
def kOr (f0:FuncId) (k:List AV→Mem→Option CRes) (K:Kt):Kt:=fun f args m=>if f=f0 then k args m else K f args m
theorem kOr_ok {P:Program} {G:List (Nat×AV)} {f0:FuncId} {k:List AV→Mem→Option CRes} {K:Kt} (hk:∀ args m c,k args m=some c→SoundC P G f0 args m c) (hK:KSound P G K):KSound P G (kOr f0 k K):=by
 intro f args m c h
 unfold kOr at h
 split at h
 ·rename_i e
  subst e
  exact hk args m c h
 ·exact hK f args m c h
def freshK (l:List AK) (pre:AKs l→Prop) (ret:AKs l→AV) (b:AKs l→Blk) (args:List AV) (m:Mem):Option CRes:=match m with
 | []=>match ofK l args with
  | some x=>some ⟨pre x,ret x,[(0,b x)]⟩
  | none=>none
 | _=>none
theorem freshK_ok {P:Program} {G:List (Nat×AV)} {f:FuncId} {l:List AK} {pre:AKs l→Prop} {ret:AKs l→AV} {b:AKs l→Blk} (h:∀ x,SoundC P G f (avK l x) [] ⟨pre x,ret x,[(0,b x)]⟩) :
  ∀ args m c,freshK l pre ret b args m=some c→SoundC P G f args m c:=by
 intro args m c hc
 unfold freshK at hc
 split at hc
 ·split at hc
  ·rename_i x hx
   cases hc
   exact (h x).args fun C us _ hu=>ofK_rel hx hu
  ·cases hc
 ·cases hc
def dataP (l:List AK) (q:AKs l→PRes) (args:List AV) (m:Mem):Option PRes:=match m with
 | []=>match ofK l args with
  | some x=>some (q x)
  | none=>none
 | _=>none
def pOr (f0:FuncId) (k:List AV→Mem→Option PRes) (KP:KPt):KPt:=fun f args m=>if f=f0 then k args m else KP f args m
theorem dataP_ok {P:Program} {G:List (Nat×AV)} {f:FuncId} {l:List AK} {q:AKs l→PRes} (h:∀ x,SoundP P G f (avK l x) [] (q x)):∀ args m r,dataP l q args m=some r→SoundP P G f args m r:=by
 intro args m r hc
 unfold dataP at hc
 split at hc
 ·split at hc
  ·rename_i x hx
   cases hc
   exact fun hp hk w D E us hD hG hu hH=>h x hp hk w D E us hD hG (ofK_rel hx hu) hH
  ·cases hc
 ·cases hc
theorem pOr_ok {P:Program} {G:List (Nat×AV)} {f0:FuncId} {k:List AV→Mem→Option PRes} {KP:KPt} (hk:∀ args m r,k args m=some r→SoundP P G f0 args m r) (hK:KPSound P G KP):KPSound P G (pOr f0 k KP):=by
 intro f args m r h
 unfold pOr at h
 split at h
 ·rename_i e
  subst e
  exact hk args m r h
 ·exact hK f args m r h
def noP:KPt:=fun _ _ _=>none
theorem noP_ok {P:Program} {G:List (Nat×AV)}:KPSound P G noP:=fun f args m r h=>by cases h
def asVar (nm:Nat) (t:Ty):Mem→Option t.den
 | [(nm',.var [.dat t' x])]=>if nm'=nm then if h:t'=t then some (h ▸ x) else none else none
 | _=>none
theorem asVar_eq {nm:Nat} {t:Ty} {m:Mem} {x:t.den} (h:asVar nm t m=some x):m=[(nm,.var [.dat t x])]:=by
 unfold asVar at h
 split at h
 ·split at h
  ·rename_i e
   split at h
   ·rename_i e2;subst e e2;cases h;rfl
   ·cases h
  ·cases h
 ·cases h
def memK (nm:Nat) (t:Ty) (l:List AK) (pre:AKs l→t.den→Prop) (ret:AKs l→t.den→AV) (upd:AKs l→t.den→t.den) (args:List AV) (m:Mem):Option CRes:=match asVar nm t m,ofK l args with
 | some xs,some x=>some ⟨pre x xs,ret x xs,[(nm,.var [.dat t (upd x xs)])]⟩
 | _,_=>none
theorem memK_ok {P:Program} {G:List (Nat×AV)} {f:FuncId} {nm:Nat} {t:Ty} {l:List AK} {pre:AKs l→t.den→Prop} {ret:AKs l→t.den→AV} {upd:AKs l→t.den→t.den}
  (h:∀ x xs,SoundC P G f (avK l x) [(nm,.var [.dat t xs])] ⟨pre x xs,ret x xs,[(nm,.var [.dat t (upd x xs)])]⟩):∀ args m c,memK nm t l pre ret upd args m=some c→SoundC P G f args m c:=by
 intro args m c hc
 unfold memK at hc
 split at hc
 ·rename_i xs x h1 h2
  cases hc
  rw [asVar_eq h1]
  exact (h x xs).args fun C us _ hu=>ofK_rel h2 hu
 ·cases hc
def memP (nm:Nat) (t:Ty) (l:List AK) (q:AKs l→t.den→PRes) (args:List AV) (m:Mem):Option PRes:=match asVar nm t m,ofK l args with
 | some xs,some x=>some (q x xs)
 | _,_=>none
theorem memP_ok {P:Program} {G:List (Nat×AV)} {f:FuncId} {nm:Nat} {t:Ty} {l:List AK} {q:AKs l→t.den→PRes} (h:∀ x xs,SoundP P G f (avK l x) [(nm,.var [.dat t xs])] (q x xs)):∀ args m r,memP nm t l q args m=some r→SoundP P G f args m r:=by
 intro args m r hc
 unfold memP at hc
 split at hc
 ·rename_i xs x h1 h2
  cases hc
  rw [asVar_eq h1]
  exact fun hp hk w D E us hD hG hu hH=>h x xs hp hk w D E us hD hG (ofK_rel h2 hu) hH
 ·cases hc
end Go.Eng
