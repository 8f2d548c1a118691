/- Cl1p -/
import Derived.Test.YtecnnbcfgijddaaGreatDoorETPrmE
import Derived.Test.YtecnnbcfgijddaaGreatDoorETPrmZC
set_option linter.unusedSimpArgs false
set_option linter.unusedVariables false
set_option maxRecDepth 100000
noncomputable section
namespace Go.Eng.Sv
open Go.Proofs
def zN:Net:=(zCs,zNs,zOs,zFs,zLs,zKs)
def zA:AV:=net zCs zNs zOs zFs zLs zKs
def zNx:Lj:=[[-1,0],[1,-1]]
def zDy:List (Lj):=[[[1,1],[1,1]]]
def zC:Li:=[0,5,2,1,0,1,2,0,2,2,2,2,3,4,5,6,9,3,4,5,6,9]
def zP:AV:=.agg [.dat I (0:Int),.dat I (5:Int),.dat M zNx,.dat (.sl M) zDy]
def cnZ:List AV:=[zA,.ip N zN]
def aGq(f:FuncId)(args:List AV):Bool:=f==169&&match args.getLast? with|some (.fn 228 _)=>true|_=>false
def aFC:Mem->Nat->Mem|[],_=>[]|(j,.var f)::r,k=>(j,.var (if f.length=11 then f.set 10 (.buf k 0)else f))::aFC r k|x::r,k=>x::aFC r k
def aGW(f:FuncId)(args:List AV)(h:Nat)(s:St):Option St:=if(aGq f args&&h==2)=true then match s.mem with
  |[(k,.buf _ (.sl (.int .i64)) xs [])]=>some {s with mem:=[(k,.mat 30 3 (.int .i64) xs [])]}
  |_=>none
 else if(f==125&&h==5)=true then some {s with tm:=s.tm.map aBV,mem:=aFC s.mem s.nx++[(s.nx,.buf 3 I [] [])],nx:=s.nx+1} else none
def aD9(f:FuncId)(args:List AV):Option How:=some {rng:=f==61||f==192||f==246,mb:=λt=>(f==18&&t==19)||(f==125&&t==32),own:=aGq f args,rcv:=f==186||f==125,pre:=aGW f args}
def KB:Kt:=kOr 122 (az [.row Pl,.val I] (λ(p,o,_)=>0<=o/\o<p.2.2.1.length/\((ix p o).length:Int)<=1000000/\(ix p o).all (λx=>decide (-1<=x/\x<=1000000))=true) λ(p,o,_)=>.dat R (Xu p o))<|kOr 244 (az [.row C,.val I,.val I] (λ(c,m,t,_)=>IJ c m t) λ(c,m,t,_)=>.tup [.dat I (fX c m t),.dat I (mT c m t)]) <|
 aFL KT7 KRD
def KIB:FuncId->List AV->Option iJ:=λf h=>if f=278 then KIC f h else if f=172 then KIM f h else if f=194 then aEr f h else KIW f h
noncomputable def cB(l:List (FuncId×List AV×AV)):Cfg:=⟨Tryz.prog,G0,knK l KB,λ_=>false,KIB,false,λ_ _ _=>none,λ_=>false⟩
theorem aBt:ay Tryz.prog G0 KB:=ah (ae λ(p,o,_)=>(Om p o).weaken λ⟨z,y,u,h⟩=>⟨z,y,u,λj=>by
  rw[qA];cases f:(ix p o)[j]? with
  |none=>exact⟨by decide,by decide⟩|some x=>exact vJ (qU.1 h x (qY f))⟩)<|ah (ae λ(c,m,t,_)=>KA m t c) <|
 aAB aGz Yo
theorem UK:aR Tryz.prog G0 KIB:=λf u j h=>by
 unfold KIB at h;split at h;exact aDN f u j h;split at h;exact aDM f u j h;split at h;exact aBs f u j h;exact aDK f u j h
theorem known{l:List (FuncId×List AV×AV)}(j:knP Tryz.prog G0 l){f:FuncId}{args:List AV}{ret:AV}(h:answers (cB l) cnZ aD9 f args ret=true):aj Tryz.prog G0 f args [] ⟨True,ret,[]⟩:=
 ru (c:=cB l) (LK j aBt) UK hm rfl h
def l0:List (FuncId×List AV×AV):=[(23,[zA],.dat (.sl Fa) [])]
theorem Oz:knP Tryz.prog G0 l0:=pK (by
 have h:=Qz zCs zNs zOs zFs zLs zKs;rwa [show fk (zCs,zNs,zOs,zFs,zLs,zKs)=[] by decide +kernel]at h) aAy
theorem aCW:aj Tryz.prog G0 120 [zA,.dat I (0:Int),.dat I (7200:Int)] [] ⟨True,.dat M zNx,[]⟩:=known Oz (by kernel_rfl)
end Go.Eng.Sv
