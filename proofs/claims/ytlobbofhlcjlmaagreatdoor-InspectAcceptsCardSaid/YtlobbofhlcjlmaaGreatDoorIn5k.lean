/- PeIn5k -/
import Derived.Test.YtlobbofhlcjlmaaGreatDoorH22
import Derived.Test.YtlobbofhlcjlmaaGreatDoorIn4k
set_option linter.unusedSimpArgs false
set_option linter.unusedVariables false
set_option maxRecDepth 100000
noncomputable section
namespace Go.Eng.In
open Go.Proofs
def mG (c:List Int×Int):Plan:=if jX c then aI c.1 else (0,0,[],[])
def yR (c:List Int×Int):Int:=if jX c then 0 else aAw c
def cellsD (p:Plan) (k o:Int):List Int:=(p.2.2.2.getD k.toNat []).getD o.toNat []
def iO (p:Plan) (k:Int):List (List Int):=p.2.2.2.getD k.toNat []
def runN (f:Nat→List Int→Option (List Int)):Nat→List Int→Option (List Int)
 | 0,x=>some x
 | m + 1,x=>(runN f m x).bind (f m)
def aBk (n:Net) (p:Plan) (k o d:Int) (j:Nat) (xs:List Int):Option (List Int):=if aAv n p k o d ((lN n p k o).getD j 0) xs=true then some (aFL n p o d ((lN n p k o).getD j 0) xs) else none
def zK (n:Net) (p:Plan) (k o d:Int) (xs:List Int):Option (List Int):=if kR p k o d=-1 then some xs else runN (aBk n p k o d) (lN n p k o).length xs
def aKj (n:Net) (p:Plan) (k o:Int) (xs:List Int):Option (List Int):=runN (fun d=>zK n p k o (d:Int)) (cellsD p k o).length xs
def aJI (n:Net) (p:Plan) (k:Int) (xs:List Int):Option (List Int):=runN (fun o=>aKj n p k (o:Int)) (iO p k).length xs
def st1 (n:Net) (p:Plan) (l:List Int) (k:Int):Option (List Int):=runN (fun k=>aJI n p (k:Int)) k.toNat l
def st2 (n:Net) (p:Plan) (l:List Int) (k o:Int):Option (List Int):=(st1 n p l k).bind (runN (fun o=>aKj n p k (o:Int)) o.toNat)
def st3 (n:Net) (p:Plan) (l:List Int) (k o d:Int):Option (List Int):=(st2 n p l k o).bind (runN (fun d=>zK n p k o (d:Int)) d.toNat)
def st4 (n:Net) (p:Plan) (l:List Int) (k o d:Int) (j:Nat):Option (List Int):=(st3 n p l k o d).bind (runN (aBk n p k o d) j)
def aAt (n:Net) (p:Plan) (l:List Int):Option (List Int):=st1 n p l p.2.2.2.length
def aMM (n:Net) (p:Plan) (l:List Int) (k:Int) (xs:List Int):Prop:=(0≤k∧k≤p.2.2.2.length)∧st1 n p l k=some xs∧iR xs
def to2 (n:Net) (p:Plan) (l:List Int) (k o:Int) (xs:List Int):Prop:=((0≤k∧k < p.2.2.2.length)∧0≤o∧o≤(iO p k).length)∧st2 n p l k o=some xs∧iR xs
def to3 (n:Net) (p:Plan) (l:List Int) (k o d:Int) (xs:List Int):Prop:=((0≤k∧k < p.2.2.2.length)∧(0≤o∧o < (iO p k).length)∧0≤d∧d≤(cellsD p k o).length)∧st3 n p l k o d=some xs∧iR xs
def to4 (n:Net) (p:Plan) (l:List Int) (k o d j:Int) (xs:List Int):Prop:=0≤j∧st4 n p l k o d j.toNat=some xs∧iR xs
def aEp (l:List Int):Bool:=decide (l.length≤40000)
def sJ (n:Net) (l:List Int):Bool:=aDG n (aI l) && aEp l
def aT1 (n:Net) (l:List Int):Int:=if aAt n (aI l) (dP l)=some [] then 0 else 190
def dD (n:Net) (l:List Int) (s:Int):Int:=if jX (l,s)=true then if usF n=true then if sJ n l=true then aT1 n l else 190 else 1 else aAw (l,s)
def aQM (args:List AV) (m:Mem):Option pF:=match args,m with
 | [.agg [.dat (.sl (.int .i64)) l,.dat (.int .i64) s]],[]=>some ⟨aCd (l,s)∧jX (l,s)=true,.tup [.agg [.dat I (aI l).1,.dat I (aI l).2.1,.dat M (aI l).2.2.1,.dat (.sl M) (aI l).2.2.2],.ptr 1 1 0 0],[(1,.var [.dat R (dP l)])]⟩
 | _,_=>none
def aI9:Kt:=kOr 24 aQM <|
 kOr 26 (bD [.ptr N] (fun (n,_)=>uH n) fun (n,_)=>.dat .bool (usF n)) <|
 kOr 27 (bD [.ptr N,.ptr Pl] (fun (n,p,_)=>uH n∧nxP p) fun (n,p,_)=>.dat .bool (aDG n p)) <|
 kOr 29 (aO2 1 R [.pv 1 N Pl,.val I,.val I,.val I,.val I] (fun ((n,p),k,o,d,cut,_) xs=>aOZ n p k o d cut xs∧aAv n p k o d cut xs=true) (fun _ _=>.tup []) fun ((n,p),k,o,d,cut,_) xs=>aFL n p o d cut xs) aRB
def aVN:KPt:=pOr 24 (aIN [.row Ce] fun (c,_)=>⟨aCd c,jX c,iK 39 (aAw c)⟩) <|
 pOr 29 (aQR 1 R [.pv 1 N Pl,.val I,.val I,.val I,.val I] fun ((n,p),k,o,d,cut,_) xs=>⟨aOZ n p k o d cut xs,aAv n p k o d cut xs,iK 39 190⟩) KPr
def KI2:FuncId→List AV→Option oW:=fun f caps=>if f=66 then match ofK [.pvb N Pl,.ptr I,.ptr I] caps with
 | some ((n,p),o,k,_)=>some ⟨aTB n p k o,I,lN n p k o⟩
 | none=>none
 else KI1 f caps
def c14:Cfg:=aIv aI9 (fun _=>false) aVN (fun f=>f == 25 || f == 24)
def c15:Cfg:=mkr aI9 KI2 aVN (fun f=>f == 25 || f == 24 || f == 29)
theorem aPU (s:Int) (l:List Int) (hvc :
 let c1:=(l,s);
 let c2:=jX c1;
 let c3:=mG c1;
 let c4:=c3.fst;
 let c5:=c3.snd;
 let c6:=c5.fst;
 let c7:=c5.snd;
 let c8:=c7.fst;
 let c9:=c7.snd;
 let c10:=yR c1;
 let c11:=(aI l).snd;
 let c12:=c11.snd;(false=false∧true=true)∧(xJ l→true=true∧(true=true→aCd c1∧(c2=false→true=true∧true=true∧(D.not false =
 true→True∧1=1∧0=0∧1=1∧0=0∧1=1∧0=0∧1=1∧0=0∧(0:Int)=c4∧(0:Int)=c6∧c8=D.nil (List Int)∧c9=D.nil (List (List
 Int))∧aAw c1=c10∧True)∧(D.not false=false→1=1∧0=0∧1=1∧0=0∧(0:Int)=c4∧(0:Int)=c6∧c8=D.nil (List Int)∧c9=D.nil
 (List (List Int))∧(0:Int)=c10∧True)))∧((true=true→c2=true)→(aCd c1∧c2=true)∧1=1∧0=0∧1=1∧0=0∧1=1∧0=0∧1=1∧0
 = 0∧true=true∧true=true∧(D.not true=true→False)∧(D.not true=false→1=1∧0=0∧1=1∧0=0∧(aI l).fst=c4∧c11.fst=c6 ∧
 c12.fst=c8∧c12.snd=c9∧(0:Int)=c10∧True)))) :
  evG c14 bF bF 10 [.agg [.dat R l,.dat I s]] ⟨xJ l,.tup [.agg [.dat I (mG (l,s)).1,.dat I (mG (l,s)).2.1,.dat M (mG (l,s)).2.2.1,.dat (.sl M) (mG (l,s)).2.2.2],.dat I (yR (l,s))],[]⟩:=@of_eq _ _ (by kernel_rfl) hvc
def keep (s:St) (x:List Int):St:={ jK s with mem:=aBu (s.mem.filter fun b=>b.1≤2) 1 (.var [.dat R x]) }
def aWm (n:Net) (l:List Int):Ann:=⟨fun id s=>match id with
 | 7=>some { α:=Int×List Int,inv:=fun x=>aMM n (aI l) (dP l) x.1 x.2,st:=fun x=>aAd (put (jK s) [(37,.dat I x.1)]) 1 (.var [.dat R x.2]),μ:=fun x=>D.nat (D.sub (D.ilen (aI l).2.2.2) x.1) }
 | 10=>match s.sig.T 39 with
  | .dat (.int .i64) k=>some { α:=Int×List Int,inv:=fun x=>to2 n (aI l) (dP l) k x.1 x.2,st:=fun x=>aAd (put (jK s) [(44,.dat I x.1)]) 1 (.var [.dat R x.2]),μ:=fun x=>D.nat (D.sub (D.ilen (iO (aI l) k)) x.1) }
  | _=>none
 | 13=>match s.sig.T 39,s.sig.T 46 with
  | .dat (.int .i64) k,.dat (.int .i64) o=>some { α:=Int×List Int,inv:=fun x=>to3 n (aI l) (dP l) k o x.1 x.2,st:=fun x=>aAd (put (jK s) [(51,.dat I x.1)]) 1 (.var [.dat R x.2]),μ:=fun x=>D.nat (D.sub (D.ilen (cellsD (aI l) k o)) x.1) }
  | _,_=>none
 | 17=>match s.sig.T 39,s.sig.T 46,s.sig.T 53 with
  | .dat (.int .i64) k,.dat (.int .i64) o,.dat (.int .i64) d=>some { α:=Int×List Int,inv:=fun x=>to4 n (aI l) (dP l) k o d x.1 x.2,st:=fun x=>aAd (jK s) 1 (.var [.dat R x.2]),μ:=fun x=>D.nat x.1 }
  | _,_,_=>none
 | _=>none,fun id s=>match id with
 | 3=>some (put { s with mem:=s.mem.filter fun b=>b.1 != 2 } [(5,.ip Pl (aI l))])
 | _=>none,fun _ _=>none⟩
set_option maxHeartbeats 4000000 in
theorem aMF (s:Int) (l:List Int) (cs:List Cal) (ns ps:List ByteArray) (os:List Off) (ls:List Line) (ks:List Cla) (hvc :
 let c1:=(cs,ns,ps,os,ls,ks);
 let c2:=(l,s);
 let c3:=jX c2;
 let c4:=dD c1 l s;
 let c5:=(aI l).fst;
 let c6:=(aI l).snd;
 let c7:=c6.fst;
 let c8:=c6.snd;
 let c9:=c8.fst;
 let c10:=c8.snd;
 let c11:=usF c1;
 let c12:=aDG c1 (aI l);
 let c13:=D.cnd c12 (D.le (D.ilen l) (40000:Int)) false;
 let c14:=D.ilen c10;(true=true∧true=true∧true=true)∧(xJ l∧uH c1→true=true∧(true=true→aCd c2∧(c3=false→true=true∧true
 = true∧(D.not false=true→True∧1=1∧0=0∧1=1∧0=0∧aAw c2=c4∧True)∧(D.not false=false→1=1∧0=0∧(0:Int)=c4∧True))) ∧
 ((true=true→c3=true)→(aCd c2∧c3=true)∧1=1∧0=0∧cs=cs∧ns=ns∧ps=ps∧os=os∧ls=ls∧ks=ks∧l=l∧s=s∧c1=c1∧c2
 = c2∧1=1∧0=0∧0=0∧1=1∧0=0∧(c5,c7,c9,c10)=aI l∧1=1∧0=0∧0=0∧undef=undef∧undef=undef∧undef=undef∧undef =
 undef∧undef=undef∧undef=undef∧undef=undef∧undef=undef∧1=1∧0=0∧0=0∧c5=c5∧c7=c7∧c9=c9∧c10=c10∧1=1∧0=0∧0=0
 ∧ l=l∧s=s∧c5=c5∧c7=c7∧c9=c9∧c10=c10∧1=1∧0=0∧0=0∧c5=c5∧c7=c7∧c9=c9∧c10=c10∧1=1∧0=0∧0=0∧undef =
 undef∧undef=undef∧undef=undef∧undef=undef∧undef=undef∧undef=undef∧undef=undef∧undef=undef∧undef=undef∧undef=undef∧undef =
 undef∧undef=undef∧undef=undef∧undef=undef∧undef=undef∧undef=undef∧undef=undef∧undef=undef∧undef=undef∧undef=undef∧undef =
 undef∧undef=undef∧undef=undef∧undef=undef∧undef=undef∧undef=undef∧undef=undef∧undef=undef∧undef=undef∧undef=undef∧undef =
 undef∧undef=undef∧undef=undef∧undef=undef∧undef=undef∧undef=undef∧undef=undef∧undef=undef∧undef=undef∧undef=undef∧undef =
 undef∧undef=undef∧undef=undef∧undef=undef∧undef=undef∧undef=undef∧undef=undef∧undef=undef∧undef=undef∧undef=undef∧undef =
 undef∧undef=undef∧undef=undef∧undef=undef∧undef=undef∧undef=undef∧undef=undef∧undef=undef∧(0:Int)=(0:Int)∧dP l =
 dP l∧1=1∧0=0∧0=0∧uH c1∧(true=true→True∧(c11=false→true=true∧true=true∧(D.not false=true→True∧1=1∧0=0∧1 =
 1∧0=0∧(1:Int)=c4∧True)∧(D.not false=false→1=1∧0=0∧(0:Int)=c4∧True)))∧((true=true→c11=true)→(True∧c11=true) ∧
 (uH c1∧nxP (aI l))∧(c12=true→c12=true→c12=true)∧(c12=true→c12=true→c12=true)∧(c12=true→c12=true→c12=true)∧(D.and
 true c12=true→c12=true)∧(true=true→True∧(c13=false→true=true∧true=true∧(D.not false=true→True∧1=1∧0=0∧1=1∧0=0 ∧
 (190:Int)=c4∧True)∧(D.not false=false→1=1∧0=0∧(0:Int)=c4∧True)))∧((true=true→c13=true)→(True∧c13=true)∧1=1∧1=1
 ∧ 1=1∧0=0∧(∃ (x:Int×List Int),
 let c15:=x.fst;
 let c16:=x.snd;aMM c1 (aI l) (dP l) c15 c16∧cs=cs∧ns=ns∧ps=ps∧os=os∧ls=ls∧ks=ks∧l=l∧s=s∧c1=c1∧c2=c2∧1=1 ∧
 0=0∧0=0∧aI l=aI l∧1=1∧0=0∧0=0∧1=1∧0=0∧0=0∧1=1∧0=0∧0=0∧c5=c5∧c7=c7∧c9=c9∧c10=c10∧1=1∧0
 = 0∧0=0∧l=l∧s=s∧c5=c5∧c7=c7∧c9=c9∧c10=c10∧1=1∧0=0∧0=0∧c5=c5∧c7=c7∧c9=c9∧c10=c10∧1=1∧0=0∧0=0
 ∧ c11=c11∧c12=c12∧c12=c12∧c13=c13∧1=1∧0=0∧0=0∧c1=c1∧aI l=aI l∧1=1∧0=0∧0=0∧c1=c1∧aI l=aI l∧1
 = 1∧0=0∧0=0∧c10=c10∧c10=c10∧c14=c14∧(0:Int)=c15∧(0:Int)=(0:Int)∧dP l=c16∧c1=c1∧aI l=aI l∧1=1∧0 =
 0∧0=0∧1=1∧0=0∧0=0∧True)∧∀ (x:Int×List Int),
 let c17:=x.fst;
 let c18:=x.snd;
 let c19:=D.lt c17 c14;
 let c20:=D.get c10 (D.nat c17) (D.nil (List Int));
 let c21:=D.ilen c20;
 let c22:=D.ilen (iO (aI l) c17);
 let c23:=D.add c17 (1:Int);
 let c24:=D.eq (D.ilen c18) (0:Int);aMM c1 (aI l) (dP l) c17 c18→(c19=true→D.ile (0:Int) c17∧D.ilt c17 c14∧1=1∧0=0∧(∃ (x:Int ×
 List Int),
 let c25:=x.fst;
 let c26:=x.snd;to2 c1 (aI l) (dP l) c17 c25 c26∧cs=cs∧ns=ns∧ps=ps∧os=os∧ls=ls∧ks=ks∧l=l∧s=s∧c1=c1∧c2=c2∧1 =
 1∧0=0∧0=0∧aI l=aI l∧1=1∧0=0∧0=0∧1=1∧0=0∧0=0∧1=1∧0=0∧0=0∧c20=c20∧1=1∧0=0∧0=0∧c5=c5 ∧
 c7=c7∧c9=c9∧c10=c10∧1=1∧0=0∧0=0∧l=l∧s=s∧c5=c5∧c7=c7∧c9=c9∧c10=c10∧1=1∧0=0∧0=0∧c5=c5∧c7=c7 ∧
 c9=c9∧c10=c10∧1=1∧0=0∧0=0∧c11=c11∧c12=c12∧c12=c12∧c13=c13∧1=1∧0=0∧0=0∧c1=c1∧aI l=aI l∧1=1∧0 =
 0∧0=0∧c1=c1∧aI l=aI l∧1=1∧0=0∧0=0∧c10=c10∧c10=c10∧c14=c14∧c17=c17∧c19=c19∧c17=c17∧c20=c20∧c20=c20
 ∧ c20=c20∧c21=c21∧(0:Int)=c25∧(0:Int)=(0:Int)∧c18=c26∧c1=c1∧aI l=aI l∧1=1∧0=0∧0=0∧c17=c17∧1=1∧0=0
 ∧ 0=0∧True)∧∀ (x:Int×List Int),
 let c27:=x.fst;
 let c28:=x.snd;
 let c29:=D.lt c27 c21;
 let c30:=D.get c20 (D.nat c27) (D.nil Int);
 let c31:=D.ilen c30;
 let c32:=D.ilen (cellsD (aI l) c17 c27);
 let c33:=lN c1 (aI l) c17 c27;
 let c34:=D.add c27 (1:Int);to2 c1 (aI l) (dP l) c17 c27 c28→(c29=true→D.ile (0:Int) c27∧D.ilt c27 c21∧1=1∧0=0∧(∃ (x:Int×List
 Int),
 let c35:=x.fst;
 let c36:=x.snd;to3 c1 (aI l) (dP l) c17 c27 c35 c36∧cs=cs∧ns=ns∧ps=ps∧os=os∧ls=ls∧ks=ks∧l=l∧s=s∧c1=c1∧c2=c2 ∧
 1=1∧0=0∧0=0∧aI l=aI l∧1=1∧0=0∧0=0∧1=1∧0=0∧0=0∧1=1∧0=0∧0=0∧c20=c20∧1=1∧0=0∧0=0∧c30 =
 c30∧1=1∧0=0∧0=0∧c5=c5∧c7=c7∧c9=c9∧c10=c10∧1=1∧0=0∧0=0∧l=l∧s=s∧c5=c5∧c7=c7∧c9=c9∧c10=c10∧1=1
 ∧ 0=0∧0=0∧c5=c5∧c7=c7∧c9=c9∧c10=c10∧1=1∧0=0∧0=0∧c11=c11∧c12=c12∧c12=c12∧c13=c13∧1=1∧0=0∧0=0∧c1
 = c1∧aI l=aI l∧1=1∧0=0∧0=0∧c1=c1∧aI l=aI l∧1=1∧0=0∧0=0∧c10=c10∧c10=c10∧c14=c14∧c17=c17∧c19 =
 c19∧c17=c17∧c20=c20∧c20=c20∧c20=c20∧c21=c21∧c27=c27∧c29=c29∧c27=c27∧c30=c30∧c30=c30∧c30=c30∧c31=c31∧(0:Int)
 = c35∧(0:Int)=(0:Int)∧c28=c36∧c1=c1∧aI l=aI l∧1=1∧0=0∧0=0∧c17=c17∧c27=c27∧1=1∧0=0∧0=0∧True)∧∀ (x
 : Int×List Int),
 let c37:=x.fst;
 let c38:=x.snd;
 let c39:=D.lt c37 c31;
 let c40:=D.get c30 (D.nat c37) (0:Int);
 let c41:=D.eq c40 (-1:Int);
 let c42:=D.add c37 (1:Int);to3 c1 (aI l) (dP l) c17 c27 c37 c38→(c39=true→D.ile (0:Int) c37∧D.ilt c37 c31∧1=1∧0=0∧(c41=true →
 inR IntKind.i64 c42∧∃ (y:Int×List Int),
 let c43:=y.fst;
 let c44:=y.snd;to3 c1 (aI l) (dP l) c17 c27 c43 c44∧(cs=cs∧ns=ns∧ps=ps∧os=os∧ls=ls∧ks=ks∧l=l∧s=s∧c1=c1∧c2=c2 ∧
 1=1∧0=0∧0=0∧aI l=aI l∧1=1∧0=0∧0=0∧1=1∧0=0∧0=0∧1=1∧0=0∧0=0∧c20=c20∧1=1∧0=0∧0=0∧c30 =
 c30∧1=1∧0=0∧0=0∧c5=c5∧c7=c7∧c9=c9∧c10=c10∧1=1∧0=0∧0=0∧l=l∧s=s∧c5=c5∧c7=c7∧c9=c9∧c10=c10∧1=1
 ∧ 0=0∧0=0∧c5=c5∧c7=c7∧c9=c9∧c10=c10∧1=1∧0=0∧0=0∧c11=c11∧c12=c12∧c12=c12∧c13=c13∧1=1∧0=0∧0=0∧c1
 = c1∧aI l=aI l∧1=1∧0=0∧0=0∧c1=c1∧aI l=aI l∧1=1∧0=0∧0=0∧c10=c10∧c10=c10∧c14=c14∧c17=c17∧c19 =
 c19∧c17=c17∧c20=c20∧c20=c20∧c20=c20∧c21=c21∧c27=c27∧c29=c29∧c27=c27∧c30=c30∧c30=c30∧c30=c30∧c31=c31∧c42=c43
 ∧ (0:Int)=(0:Int)∧c38=c44∧c1=c1∧aI l=aI l∧1=1∧0=0∧0=0∧c17=c17∧c27=c27∧1=1∧0=0∧0=0∧True)∧D.nlt
 (D.nat (D.sub c32 c43)) (D.nat (D.sub c32 c37)))∧(c41=false→1=1∧0=0∧1=1∧0=0∧1=1∧0=0∧True∧aTB c1 (aI l) c17 c27∧(∃ (x :
 Int×List Int),
 let c45:=x.fst;
 let c46:=x.snd;to4 c1 (aI l) (dP l) c17 c27 c37 c45 c46∧D.nat c45=0∧cs=cs∧ns=ns∧ps=ps∧os=os∧ls=ls∧ks=ks∧l=l∧s=s ∧
 c1=c1∧c2=c2∧1=1∧0=0∧0=0∧aI l=aI l∧1=1∧0=0∧0=0∧1=1∧0=0∧0=0∧1=1∧0=0∧0=0∧c20=c20∧1=1∧0 =
 0∧0=0∧c30=c30∧1=1∧0=0∧0=0∧c40=c40∧1=1∧0=0∧0=0∧c5=c5∧c7=c7∧c9=c9∧c10=c10∧1=1∧0=0∧0=0∧l=l∧s
 = s∧c5=c5∧c7=c7∧c9=c9∧c10=c10∧1=1∧0=0∧0=0∧c5=c5∧c7=c7∧c9=c9∧c10=c10∧1=1∧0=0∧0=0∧c11=c11∧c12=c12
 ∧ c12=c12∧c13=c13∧1=1∧0=0∧0=0∧c1=c1∧aI l=aI l∧1=1∧0=0∧0=0∧c1=c1∧aI l=aI l∧1=1∧0=0∧0=0 ∧
 c10=c10∧c10=c10∧c14=c14∧c17=c17∧c19=c19∧c17=c17∧c20=c20∧c20=c20∧c20=c20∧c21=c21∧c27=c27∧c29=c29∧c27=c27∧c30
 = c30∧c30=c30∧c30=c30∧c31=c31∧c37=c37∧c39=c39∧c37=c37∧c40=c40∧c40=c40∧c40=c40∧c41=c41∧c1=c1∧aI l=aI l∧1
 = 1∧0=0∧0=0∧c17=c17∧c27=c27∧c1=c1∧aI l=aI l∧c27=c27∧c17=c17∧(0:Int)=(0:Int)∧c38=c46∧c1=c1∧aI l =
 aI l∧1=1∧0=0∧0=0∧c17=c17∧c27=c27∧c37=c37∧1=1∧0=0∧0=0∧True)∧(∀ (x:Int×List Int),
 let c47:=x.fst;
 let c48:=x.snd;
 let c49:=D.nat c47;∀ (y:Int),
 let c50:=aAv c1 (aI l) c17 c27 c37 y c48;to4 c1 (aI l) (dP l) c17 c27 c37 c47 c48→yY c33 c49 y→1=1∧0=0∧1=1∧0=0∧1=1∧0 =
 0∧1=1∧0=0∧(true=true→aOZ c1 (aI l) c17 c27 c37 y c48∧(c50=false→true=true∧true=true∧(D.not false=true→True∧1=1∧0=0
 ∧ 1=1∧0=0∧(190:Int)=c4∧True)∧(D.not false=false→1=1∧0=0∧(0:Int)=c4∧True)))∧((true=true→c50=true)→(aOZ c1 (aI l)
 c17 c27 c37 y c48∧c50=true)∧1=1∧∃ (z:Int×List Int),
 let c51:=z.fst;
 let c52:=z.snd;to4 c1 (aI l) (dP l) c17 c27 c37 c51 c52∧D.nat c51=D.fE c49 (1)∧cs=cs∧ns=ns∧ps=ps∧os=os∧ls=ls∧ks=ks∧l =
 l∧s=s∧c1=c1∧c2=c2∧1=1∧0=0∧0=0∧aI l=aI l∧1=1∧0=0∧0=0∧1=1∧0=0∧0=0∧1=1∧0=0∧0=0∧c20=c20 ∧
 1=1∧0=0∧0=0∧c30=c30∧1=1∧0=0∧0=0∧c40=c40∧1=1∧0=0∧0=0∧c5=c5∧c7=c7∧c9=c9∧c10=c10∧1=1∧0=0∧0=0
 ∧ l=l∧s=s∧c5=c5∧c7=c7∧c9=c9∧c10=c10∧1=1∧0=0∧0=0∧c5=c5∧c7=c7∧c9=c9∧c10=c10∧1=1∧0=0∧0=0∧c11=c11
 ∧ c12=c12∧c12=c12∧c13=c13∧1=1∧0=0∧0=0∧c1=c1∧aI l=aI l∧1=1∧0=0∧0=0∧c1=c1∧aI l=aI l∧1=1∧0=0
 ∧ 0=0∧c10=c10∧c10=c10∧c14=c14∧c17=c17∧c19=c19∧c17=c17∧c20=c20∧c20=c20∧c20=c20∧c21=c21∧c27=c27∧c29=c29∧c27 =
 c27∧c30=c30∧c30=c30∧c30=c30∧c31=c31∧c37=c37∧c39=c39∧c37=c37∧c40=c40∧c40=c40∧c40=c40∧c41=c41∧c1=c1∧aI l =
 aI l∧1=1∧0=0∧0=0∧c17=c17∧c27=c27∧c1=c1∧aI l=aI l∧c27=c27∧c17=c17∧(0:Int)=(0:Int)∧aFL c1 (aI l) c27
 c37 y c48=c52∧c1=c1∧aI l=aI l∧1=1∧0=0∧0=0∧c17=c17∧c27=c27∧c37=c37∧1=1∧0=0∧0=0∧True))∧∀ (x:Int×List
 Int),
 let c53:=x.fst;
 let c54:=x.snd;to4 c1 (aI l) (dP l) c17 c27 c37 c53 c54→D.nat c53=D.len c33→inR IntKind.i64 c42∧∃ (y:Int×List Int),
 let c55:=y.fst;
 let c56:=y.snd;to3 c1 (aI l) (dP l) c17 c27 c55 c56∧(cs=cs∧ns=ns∧ps=ps∧os=os∧ls=ls∧ks=ks∧l=l∧s=s∧c1=c1∧c2=c2 ∧
 1=1∧0=0∧0=0∧aI l=aI l∧1=1∧0=0∧0=0∧1=1∧0=0∧0=0∧1=1∧0=0∧0=0∧c20=c20∧1=1∧0=0∧0=0∧c30 =
 c30∧1=1∧0=0∧0=0∧c5=c5∧c7=c7∧c9=c9∧c10=c10∧1=1∧0=0∧0=0∧l=l∧s=s∧c5=c5∧c7=c7∧c9=c9∧c10=c10∧1=1
 ∧ 0=0∧0=0∧c5=c5∧c7=c7∧c9=c9∧c10=c10∧1=1∧0=0∧0=0∧c11=c11∧c12=c12∧c12=c12∧c13=c13∧1=1∧0=0∧0=0∧c1
 = c1∧aI l=aI l∧1=1∧0=0∧0=0∧c1=c1∧aI l=aI l∧1=1∧0=0∧0=0∧c10=c10∧c10=c10∧c14=c14∧c17=c17∧c19 =
 c19∧c17=c17∧c20=c20∧c20=c20∧c20=c20∧c21=c21∧c27=c27∧c29=c29∧c27=c27∧c30=c30∧c30=c30∧c30=c30∧c31=c31∧c42=c55
 ∧ (0:Int)=(0:Int)∧c54=c56∧c1=c1∧aI l=aI l∧1=1∧0=0∧0=0∧c17=c17∧c27=c27∧1=1∧0=0∧0=0∧True)∧D.nlt
 (D.nat (D.sub c32 c55)) (D.nat (D.sub c32 c37))))∧(c39=false→inR IntKind.i64 c34∧∃ (y:Int×List Int),
 let c57:=y.fst;
 let c58:=y.snd;to2 c1 (aI l) (dP l) c17 c57 c58∧(cs=cs∧ns=ns∧ps=ps∧os=os∧ls=ls∧ks=ks∧l=l∧s=s∧c1=c1∧c2=c2∧1 =
 1∧0=0∧0=0∧aI l=aI l∧1=1∧0=0∧0=0∧1=1∧0=0∧0=0∧1=1∧0=0∧0=0∧c20=c20∧1=1∧0=0∧0=0∧c5=c5 ∧
 c7=c7∧c9=c9∧c10=c10∧1=1∧0=0∧0=0∧l=l∧s=s∧c5=c5∧c7=c7∧c9=c9∧c10=c10∧1=1∧0=0∧0=0∧c5=c5∧c7=c7 ∧
 c9=c9∧c10=c10∧1=1∧0=0∧0=0∧c11=c11∧c12=c12∧c12=c12∧c13=c13∧1=1∧0=0∧0=0∧c1=c1∧aI l=aI l∧1=1∧0 =
 0∧0=0∧c1=c1∧aI l=aI l∧1=1∧0=0∧0=0∧c10=c10∧c10=c10∧c14=c14∧c17=c17∧c19=c19∧c17=c17∧c20=c20∧c20=c20
 ∧ c20=c20∧c21=c21∧c34=c57∧(0:Int)=(0:Int)∧c38=c58∧c1=c1∧aI l=aI l∧1=1∧0=0∧0=0∧c17=c17∧1=1∧0=0∧0 =
 0∧True)∧D.nlt (D.nat (D.sub c22 c57)) (D.nat (D.sub c22 c27))))∧(c29=false→inR IntKind.i64 c23∧∃ (y:Int×List Int),
 let c59:=y.fst;
 let c60:=y.snd;aMM c1 (aI l) (dP l) c59 c60∧(cs=cs∧ns=ns∧ps=ps∧os=os∧ls=ls∧ks=ks∧l=l∧s=s∧c1=c1∧c2=c2∧1=1 ∧
 0=0∧0=0∧aI l=aI l∧1=1∧0=0∧0=0∧1=1∧0=0∧0=0∧1=1∧0=0∧0=0∧c5=c5∧c7=c7∧c9=c9∧c10=c10∧1=1∧0
 = 0∧0=0∧l=l∧s=s∧c5=c5∧c7=c7∧c9=c9∧c10=c10∧1=1∧0=0∧0=0∧c5=c5∧c7=c7∧c9=c9∧c10=c10∧1=1∧0=0∧0=0
 ∧ c11=c11∧c12=c12∧c12=c12∧c13=c13∧1=1∧0=0∧0=0∧c1=c1∧aI l=aI l∧1=1∧0=0∧0=0∧c1=c1∧aI l=aI l∧1
 = 1∧0=0∧0=0∧c10=c10∧c10=c10∧c14=c14∧c23=c59∧(0:Int)=(0:Int)∧c28=c60∧c1=c1∧aI l=aI l∧1=1∧0=0∧0=0 ∧
 1=1∧0=0∧0=0∧True)∧D.nlt (D.nat (D.sub c14 c59)) (D.nat (D.sub c14 c17))))∧(c19=false→1=1∧1=1∧1=1∧0=0∧(true=true→True ∧
 (c24=false→true=true∧true=true∧(D.not false=true→True∧1=1∧0=0∧1=1∧0=0∧(190:Int)=c4∧True)∧(D.not false=false→1=1
 ∧ 0=0∧(0:Int)=c4∧True)))∧((true=true→c24=true)→(True∧c24=true)∧1=1∧0=0∧true=true∧true=true∧(D.not true=true →
 False)∧(D.not true=false→1=1∧0=0∧(0:Int)=c4∧True)))))))) :
  evR c15 bF (aWm (cs,ns,ps,os,ls,ks) l) bF 9 [.agg [.dat (.sl C) cs,.dat (.sl S) ns,.dat (.sl S) ps,.dat (.sl Of) os,.dat (.sl Ln) ls,.dat (.sl Kl) ks],.agg [.dat R l,.dat I s]] ⟨xJ l∧uH (cs,ns,ps,os,ls,ks),.dat I (dD (cs,ns,ps,os,ls,ks) l s),[]⟩:=@of_eq _ _ (by kernel_rfl) hvc
theorem aNx:∀ args m c,aQM args m=some c→aC Tryz.prog fC 24 args m c:=by
 intro args m c h
 unfold aQM at h
 split at h
 ·cases h;exact (aOL _ _).1
 ·cases h
theorem aHT:aQ Tryz.prog fC aI9:=aJ aNx <| aJ (aG fun (n,_)=>aWa n) <| aJ (aG fun (n,p,_)=>aU2 n p) <| aJ (yS fun ((n,p),k,o,d,cut,_) xs=>(aJQ n p k o d cut xs).1) aPm
theorem aLN:fB Tryz.prog fC aVN:=rW (aAN fun (c,_)=>(aOL c.2 c.1).2) <| rW (aBv fun ((n,p),k,o,d,cut,_) xs=>(aJQ n p k o d cut xs).2) aHU
theorem aWt:dF Tryz.prog fC KI2:=by
 intro f caps it h
 unfold KI2 at h
 split at h
 ·rename_i e
  subst e
  split at h
  ·rename_i n p o k _ hx
   cases h
   exact zQ.args (aSZ n p k o) fun C us hu=>lJ hx hu
  ·cases h
 ·exact aUj f caps it h
theorem aS1 (s:Int) (l:List Int):aC Tryz.prog fC 10 [.agg [.dat R l,.dat I s]] [] ⟨xJ l,.tup [.agg [.dat I (mG (l,s)).1,.dat I (mG (l,s)).2.1,.dat M (mG (l,s)).2.2.1,.dat (.sl M) (mG (l,s)).2.2.2],.dat I (yR (l,s))],[]⟩:=by
 refine zV (c:=c14) aHT cO hm aLN (aPU s l ⟨⟨rfl,rfl⟩,fun hp=>?_⟩)
 simp only [D.not,eq_self,true_and,and_true,Bool.not_eq_true',Bool.not_eq_false',forall_const,D.nil]
 refine ⟨⟨hp,fun h=>?_⟩,fun h=>⟨⟨hp,h⟩,?_⟩⟩
 ·unfold mG yR
  rw [h]
  exact ⟨⟨rfl,rfl,rfl,rfl,rfl⟩,fun h=>by cases h⟩
 ·unfold mG yR
  rw [h]
  exact ⟨fun h=>(by cases h),⟨rfl,rfl,rfl,rfl,rfl⟩⟩
end Go.Eng.In
