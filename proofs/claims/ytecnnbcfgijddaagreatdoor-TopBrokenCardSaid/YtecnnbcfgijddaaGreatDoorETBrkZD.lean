/- Cl1p -/
import Derived.Test.YtecnnbcfgijddaaGreatDoorETBrkE
import Derived.Test.YtecnnbcfgijddaaGreatDoorETBrkZC
set_option linter.unusedSimpArgs false
set_option linter.unusedVariables false
set_option maxRecDepth 100000
noncomputable section
namespace Go.Eng.Sv
open Go.Proofs
def zN:Net:=(zCs,zNs,zOs,zFs,zLs,zKs)
def zA:AV:=net zCs zNs zOs zFs zLs zKs
def zNx:Lj:=[[-1,0],[1,-1]]
def zDy:List (Lj):=[[[1,1],[1,1]]]
def zC:Li:=[0,5,2,1,0,1,2,0,2,2,2,2,3,4,5,6,9,3,4,5,6,9]
def zP:AV:=.agg [.dat I (0:Int),.dat I (5:Int),.dat M zNx,.dat (.sl M) zDy]
def cnZ:List AV:=[zA,.ip N zN]
def aFX(f:FuncId)(args:List AV):Bool:=f==169&&match args.getLast? with|some (.fn 228 _)=>true|_=>false
def aE7:Mem->Nat->Mem|[],_=>[]|(j,.var f)::r,k=>(j,.var (if f.length=11 then f.set 10 (.buf k 0)else f))::aE7 r k|x::r,k=>x::aE7 r k
def aGr(f:FuncId)(args:List AV)(h:Nat)(s:St):Option St:=if(aFX f args&&h==2)=true then match s.mem with
  |[(k,.buf _ (.sl (.int .i64)) xs [])]=>some {s with mem:=[(k,.mat 30 3 (.int .i64) xs [])]}
  |_=>none
 else if(f==125&&h==5)=true then some {s with tm:=s.tm.map aBB,mem:=aE7 s.mem s.nx++[(s.nx,.buf 3 I [] [])],nx:=s.nx+1} else none
def aGw(f:FuncId)(args:List AV):Option How:=some {rng:=f==61||f==192||f==246,mb:=λt=>(f==18&&t==19)||(f==125&&t==32),own:=aFX f args,rcv:=f==186||f==125,pre:=aGr f args}
def KB:Kt:=kOr 122 (aA [.row Pl,.val I] (λ(p,o,_)=>0<=o/\o<p.2.2.1.length/\((iH p o).length:Int)<=1000000/\(iH p o).all (λx=>decide (-1<=x/\x<=1000000))=true) λ(p,o,_)=>.dat R (Xf p o)) <|kOr 244 vD<|
 aFg KT7 KRD
def KIB:FuncId->List AV->Option iD:=λf h=>if f=278 then KIC f h else if f=172 then KIM f h else if f=194 then aD4 f h else KIW f h
noncomputable def cB(l:List (FuncId×List AV×AV)):Cfg:=⟨Tryz.prog,G0,knK l KB,λ_=>false,KIB,false,λ_ _ _=>none,λ_=>false⟩
theorem aFQ:ay Tryz.prog G0 KB:=ai (af λ(p,o,_)=>(Ol p o).weaken λ⟨z,y,u,h⟩=>⟨z,y,u,λj=>by
  rw[qA];cases f:(iH p o)[j]? with
  |none=>exact⟨by decide,by decide⟩|some x=>exact vO (qW.1 h x (qZ f))⟩) <|ai UX<|
 aAg aF8 Ya
theorem aDs:aR Tryz.prog G0 KIB:=λf u j h=>by
 unfold KIB at h;split at h;exact aDr f u j h;split at h;exact aDq f u j h;split at h;exact aA8 f u j h;exact aDo f u j h
theorem known{l:List (FuncId×List AV×AV)}(j:knP Tryz.prog G0 l){f:FuncId}{args:List AV}{ret:AV}(h:answers (cB l) cnZ aGw f args ret=true):aj Tryz.prog G0 f args [] ⟨True,ret,[]⟩:=
 Bi (c:=cB l) (YJ j aFQ) aDs hm rfl h
def l0:List (FuncId×List AV×AV):=[(23,[zA],.dat (.sl Fa) [])]
theorem RX:knP Tryz.prog G0 l0:=pY (by
 have h:=Qq zCs zNs zOs zFs zLs zKs;rwa [show fm (zCs,zNs,zOs,zFs,zLs,zKs)=[] by decide +kernel]at h) aAd
theorem aCC:aj Tryz.prog G0 120 [zA,.dat I (0:Int),.dat I (7200:Int)] [] ⟨True,.dat M zNx,[]⟩:=known RX (by kernel_rfl)
end Go.Eng.Sv
