/- PeIn5j -/
import Derived.Test.YtlobbofhlcjlmaaGreatDoorZ22
import Derived.Test.YtlobbofhlcjlmaaGreatDoorIn4j
set_option linter.unusedSimpArgs false
set_option linter.unusedVariables false
set_option maxRecDepth 100000
noncomputable section
namespace Go.Eng.In
open Go.Proofs
def openR (c:List Int×Int):Plan:=if openOk c then planF c.1 else (0,0,[],[])
def openC (c:List Int×Int):Int:=if openOk c then 0 else openE c
def cellsD (p:Plan) (k o:Int):List Int:=(p.2.2.2.getD k.toNat []).getD o.toNat []
def rowsD (p:Plan) (k:Int):List (List Int):=p.2.2.2.getD k.toNat []
def runN (f:Nat→List Int→Option (List Int)):Nat→List Int→Option (List Int)
 | 0,x=>some x
 | m + 1,x=>(runN f m x).bind (f m)
def oneRun (n:Net) (p:Plan) (k o d:Int) (j:Nat) (xs:List Int):Option (List Int):=if proOk n p k o d ((cutsF n p k o).getD j 0) xs=true then some (folR n p o d ((cutsF n p k o).getD j 0) xs) else none
def cellRun (n:Net) (p:Plan) (k o d:Int) (xs:List Int):Option (List Int):=if daysAt p k o d=-1 then some xs else runN (oneRun n p k o d) (cutsF n p k o).length xs
def rowRun (n:Net) (p:Plan) (k o:Int) (xs:List Int):Option (List Int):=runN (fun d=>cellRun n p k o (d:Int)) (cellsD p k o).length xs
def tabRun (n:Net) (p:Plan) (k:Int) (xs:List Int):Option (List Int):=runN (fun o=>rowRun n p k (o:Int)) (rowsD p k).length xs
def st1 (n:Net) (p:Plan) (l:List Int) (k:Int):Option (List Int):=runN (fun k=>tabRun n p (k:Int)) k.toNat l
def st2 (n:Net) (p:Plan) (l:List Int) (k o:Int):Option (List Int):=(st1 n p l k).bind (runN (fun o=>rowRun n p k (o:Int)) o.toNat)
def st3 (n:Net) (p:Plan) (l:List Int) (k o d:Int):Option (List Int):=(st2 n p l k o).bind (runN (fun d=>cellRun n p k o (d:Int)) d.toNat)
def st4 (n:Net) (p:Plan) (l:List Int) (k o d:Int) (j:Nat):Option (List Int):=(st3 n p l k o d).bind (runN (oneRun n p k o d) j)
def allRun (n:Net) (p:Plan) (l:List Int):Option (List Int):=st1 n p l p.2.2.2.length
def to1 (n:Net) (p:Plan) (l:List Int) (k:Int) (xs:List Int):Prop:=(0≤k∧k≤p.2.2.2.length)∧st1 n p l k=some xs∧numsOk xs
def to2 (n:Net) (p:Plan) (l:List Int) (k o:Int) (xs:List Int):Prop:=((0≤k∧k < p.2.2.2.length)∧0≤o∧o≤(rowsD p k).length)∧st2 n p l k o=some xs∧numsOk xs
def to3 (n:Net) (p:Plan) (l:List Int) (k o d:Int) (xs:List Int):Prop:=((0≤k∧k < p.2.2.2.length)∧(0≤o∧o < (rowsD p k).length)∧0≤d∧d≤(cellsD p k o).length)∧st3 n p l k o d=some xs∧numsOk xs
def to4 (n:Net) (p:Plan) (l:List Int) (k o d j:Int) (xs:List Int):Prop:=0≤j∧st4 n p l k o d j.toNat=some xs∧numsOk xs
def sizeOk (l:List Int):Bool:=decide (l.length≤40000)
def fitsAll (n:Net) (l:List Int):Bool:=fitF n (planF l) && sizeOk l
def runE (n:Net) (l:List Int):Int:=if allRun n (planF l) (plRest l)=some [] then 0 else 190
def checkF (n:Net) (l:List Int) (s:Int):Int:=if openOk (l,s)=true then if usF n=true then if fitsAll n l=true then runE n l else 190 else 1 else openE (l,s)
def openK (args:List AV) (m:Mem):Option CRes:=match args,m with
 | [.agg [.dat (.sl (.int .i64)) l,.dat (.int .i64) s]],[]=>some ⟨openP (l,s)∧openOk (l,s)=true,.tup [.agg [.dat I (planF l).1,.dat I (planF l).2.1,.dat M (planF l).2.2.1,.dat (.sl M) (planF l).2.2.2],.ptr 1 1 0 0],[(1,.var [.dat R (plRest l)])]⟩
 | _,_=>none
def K14:Kt:=kOr 24 openK <|
 kOr 26 (dataK [.ptr N] (fun (n,_)=>netP n) fun (n,_)=>.dat .bool (usF n)) <|
 kOr 27 (dataK [.ptr N,.ptr Pl] (fun (n,p,_)=>netP n∧nxP p) fun (n,p,_)=>.dat .bool (fitF n p)) <|
 kOr 29 (memK 1 R [.pv 1 N Pl,.val I,.val I,.val I,.val I] (fun ((n,p),k,o,d,cut,_) xs=>proP n p k o d cut xs∧proOk n p k o d cut xs=true) (fun _ _=>.tup []) fun ((n,p),k,o,d,cut,_) xs=>folR n p o d cut xs) K13
def KP14:KPt:=pOr 24 (dataP [.row Ce] fun (c,_)=>⟨openP c,openOk c,errV 39 (openE c)⟩) <|
 pOr 29 (memP 1 R [.pv 1 N Pl,.val I,.val I,.val I,.val I] fun ((n,p),k,o,d,cut,_) xs=>⟨proP n p k o d cut xs,proOk n p k o d cut xs,errV 39 190⟩) KPr
def KI2:FuncId→List AV→Option IRes:=fun f caps=>if f=66 then match ofK [.pvb N Pl,.ptr I,.ptr I] caps with
 | some ((n,p),o,k,_)=>some ⟨cutP n p k o,I,cutsF n p k o⟩
 | none=>none
 else KI1 f caps
def c14:Cfg:=mkp K14 (fun _=>false) KP14 (fun f=>f == 25 || f == 24)
def c15:Cfg:=mkr K14 KI2 KP14 (fun f=>f == 25 || f == 24 || f == 29)
theorem vc_Plan (s:Int) (l:List Int) (hvc :
 let c1:=(l,s);
 let c2:=openOk c1;
 let c3:=openR c1;
 let c4:=c3.fst;
 let c5:=c3.snd;
 let c6:=c5.fst;
 let c7:=c5.snd;
 let c8:=c7.fst;
 let c9:=c7.snd;
 let c10:=openC c1;
 let c11:=(planF l).snd;
 let c12:=c11.snd;(false=false∧true=true)∧(limI l→true=true∧(true=true→openP c1∧(c2=false→true=true∧true=true∧(D.not false =
 true→True∧1=1∧0=0∧1=1∧0=0∧1=1∧0=0∧1=1∧0=0∧(0:Int)=c4∧(0:Int)=c6∧c8=D.nil (List Int)∧c9=D.nil (List (List
 Int))∧openE c1=c10∧True)∧(D.not false=false→1=1∧0=0∧1=1∧0=0∧(0:Int)=c4∧(0:Int)=c6∧c8=D.nil (List Int)∧c9=D.nil
 (List (List Int))∧(0:Int)=c10∧True)))∧((true=true→c2=true)→(openP c1∧c2=true)∧1=1∧0=0∧1=1∧0=0∧1=1∧0=0∧1=1∧0
 = 0∧true=true∧true=true∧(D.not true=true→False)∧(D.not true=false→1=1∧0=0∧1=1∧0=0∧(planF l).fst=c4∧c11.fst=c6 ∧
 c12.fst=c8∧c12.snd=c9∧(0:Int)=c10∧True)))) :
  evG c14 noAnn noAnn 10 [.agg [.dat R l,.dat I s]] ⟨limI l,.tup [.agg [.dat I (openR (l,s)).1,.dat I (openR (l,s)).2.1,.dat M (openR (l,s)).2.2.1,.dat (.sl M) (openR (l,s)).2.2.2],.dat I (openC (l,s))],[]⟩:=@of_eq _ _ (by kernel_rfl) hvc
def keep (s:St) (x:List Int):St:={ flat s with mem:=memSet (s.mem.filter fun b=>b.1≤2) 1 (.var [.dat R x]) }
def chkA (n:Net) (l:List Int):Ann:=⟨fun id s=>match id with
 | 7=>some { α:=Int×List Int,inv:=fun x=>to1 n (planF l) (plRest l) x.1 x.2,st:=fun x=>putM (put (flat s) [(37,.dat I x.1)]) 1 (.var [.dat R x.2]),μ:=fun x=>D.nat (D.sub (D.ilen (planF l).2.2.2) x.1) }
 | 10=>match s.sig.T 39 with
  | .dat (.int .i64) k=>some { α:=Int×List Int,inv:=fun x=>to2 n (planF l) (plRest l) k x.1 x.2,st:=fun x=>putM (put (flat s) [(44,.dat I x.1)]) 1 (.var [.dat R x.2]),μ:=fun x=>D.nat (D.sub (D.ilen (rowsD (planF l) k)) x.1) }
  | _=>none
 | 13=>match s.sig.T 39,s.sig.T 46 with
  | .dat (.int .i64) k,.dat (.int .i64) o=>some { α:=Int×List Int,inv:=fun x=>to3 n (planF l) (plRest l) k o x.1 x.2,st:=fun x=>putM (put (flat s) [(51,.dat I x.1)]) 1 (.var [.dat R x.2]),μ:=fun x=>D.nat (D.sub (D.ilen (cellsD (planF l) k o)) x.1) }
  | _,_=>none
 | 17=>match s.sig.T 39,s.sig.T 46,s.sig.T 53 with
  | .dat (.int .i64) k,.dat (.int .i64) o,.dat (.int .i64) d=>some { α:=Int×List Int,inv:=fun x=>to4 n (planF l) (plRest l) k o d x.1 x.2,st:=fun x=>putM (flat s) 1 (.var [.dat R x.2]),μ:=fun x=>D.nat x.1 }
  | _,_,_=>none
 | _=>none,fun id s=>match id with
 | 3=>some (put { s with mem:=s.mem.filter fun b=>b.1 != 2 } [(5,.ip Pl (planF l))])
 | _=>none,fun _ _=>none⟩
set_option maxHeartbeats 4000000 in
theorem vc_Check (s:Int) (l:List Int) (cs:List Cal) (ns ps:List ByteArray) (os:List Off) (ls:List Line) (ks:List Cla) (hvc :
 let c1:=(cs,ns,ps,os,ls,ks);
 let c2:=(l,s);
 let c3:=openOk c2;
 let c4:=checkF c1 l s;
 let c5:=(planF l).fst;
 let c6:=(planF l).snd;
 let c7:=c6.fst;
 let c8:=c6.snd;
 let c9:=c8.fst;
 let c10:=c8.snd;
 let c11:=usF c1;
 let c12:=fitF c1 (planF l);
 let c13:=D.cnd c12 (D.le (D.ilen l) (40000:Int)) false;
 let c14:=D.ilen c10;(true=true∧true=true∧true=true)∧(limI l∧netP c1→true=true∧(true=true→openP c2∧(c3=false→true=true∧true
 = true∧(D.not false=true→True∧1=1∧0=0∧1=1∧0=0∧openE c2=c4∧True)∧(D.not false=false→1=1∧0=0∧(0:Int)=c4∧True))) ∧
 ((true=true→c3=true)→(openP c2∧c3=true)∧1=1∧0=0∧cs=cs∧ns=ns∧ps=ps∧os=os∧ls=ls∧ks=ks∧l=l∧s=s∧c1=c1∧c2
 = c2∧1=1∧0=0∧0=0∧1=1∧0=0∧(c5,c7,c9,c10)=planF l∧1=1∧0=0∧0=0∧undef=undef∧undef=undef∧undef=undef∧undef =
 undef∧undef=undef∧undef=undef∧undef=undef∧undef=undef∧1=1∧0=0∧0=0∧c5=c5∧c7=c7∧c9=c9∧c10=c10∧1=1∧0=0∧0=0
 ∧ l=l∧s=s∧c5=c5∧c7=c7∧c9=c9∧c10=c10∧1=1∧0=0∧0=0∧c5=c5∧c7=c7∧c9=c9∧c10=c10∧1=1∧0=0∧0=0∧undef =
 undef∧undef=undef∧undef=undef∧undef=undef∧undef=undef∧undef=undef∧undef=undef∧undef=undef∧undef=undef∧undef=undef∧undef =
 undef∧undef=undef∧undef=undef∧undef=undef∧undef=undef∧undef=undef∧undef=undef∧undef=undef∧undef=undef∧undef=undef∧undef =
 undef∧undef=undef∧undef=undef∧undef=undef∧undef=undef∧undef=undef∧undef=undef∧undef=undef∧undef=undef∧undef=undef∧undef =
 undef∧undef=undef∧undef=undef∧undef=undef∧undef=undef∧undef=undef∧undef=undef∧undef=undef∧undef=undef∧undef=undef∧undef =
 undef∧undef=undef∧undef=undef∧undef=undef∧undef=undef∧undef=undef∧undef=undef∧undef=undef∧undef=undef∧undef=undef∧undef =
 undef∧undef=undef∧undef=undef∧undef=undef∧undef=undef∧undef=undef∧undef=undef∧undef=undef∧(0:Int)=(0:Int)∧plRest l =
 plRest l∧1=1∧0=0∧0=0∧netP c1∧(true=true→True∧(c11=false→true=true∧true=true∧(D.not false=true→True∧1=1∧0=0∧1 =
 1∧0=0∧(1:Int)=c4∧True)∧(D.not false=false→1=1∧0=0∧(0:Int)=c4∧True)))∧((true=true→c11=true)→(True∧c11=true) ∧
 (netP c1∧nxP (planF l))∧(c12=true→c12=true→c12=true)∧(c12=true→c12=true→c12=true)∧(c12=true→c12=true→c12=true)∧(D.and
 true c12=true→c12=true)∧(true=true→True∧(c13=false→true=true∧true=true∧(D.not false=true→True∧1=1∧0=0∧1=1∧0=0 ∧
 (190:Int)=c4∧True)∧(D.not false=false→1=1∧0=0∧(0:Int)=c4∧True)))∧((true=true→c13=true)→(True∧c13=true)∧1=1∧1=1
 ∧ 1=1∧0=0∧(∃ (x:Int×List Int),
 let c15:=x.fst;
 let c16:=x.snd;to1 c1 (planF l) (plRest l) c15 c16∧cs=cs∧ns=ns∧ps=ps∧os=os∧ls=ls∧ks=ks∧l=l∧s=s∧c1=c1∧c2=c2∧1=1 ∧
 0=0∧0=0∧planF l=planF l∧1=1∧0=0∧0=0∧1=1∧0=0∧0=0∧1=1∧0=0∧0=0∧c5=c5∧c7=c7∧c9=c9∧c10=c10∧1=1∧0
 = 0∧0=0∧l=l∧s=s∧c5=c5∧c7=c7∧c9=c9∧c10=c10∧1=1∧0=0∧0=0∧c5=c5∧c7=c7∧c9=c9∧c10=c10∧1=1∧0=0∧0=0
 ∧ c11=c11∧c12=c12∧c12=c12∧c13=c13∧1=1∧0=0∧0=0∧c1=c1∧planF l=planF l∧1=1∧0=0∧0=0∧c1=c1∧planF l=planF l∧1
 = 1∧0=0∧0=0∧c10=c10∧c10=c10∧c14=c14∧(0:Int)=c15∧(0:Int)=(0:Int)∧plRest l=c16∧c1=c1∧planF l=planF l∧1=1∧0 =
 0∧0=0∧1=1∧0=0∧0=0∧True)∧∀ (x:Int×List Int),
 let c17:=x.fst;
 let c18:=x.snd;
 let c19:=D.lt c17 c14;
 let c20:=D.get c10 (D.nat c17) (D.nil (List Int));
 let c21:=D.ilen c20;
 let c22:=D.ilen (rowsD (planF l) c17);
 let c23:=D.add c17 (1:Int);
 let c24:=D.eq (D.ilen c18) (0:Int);to1 c1 (planF l) (plRest l) c17 c18→(c19=true→D.ile (0:Int) c17∧D.ilt c17 c14∧1=1∧0=0∧(∃ (x:Int ×
 List Int),
 let c25:=x.fst;
 let c26:=x.snd;to2 c1 (planF l) (plRest l) c17 c25 c26∧cs=cs∧ns=ns∧ps=ps∧os=os∧ls=ls∧ks=ks∧l=l∧s=s∧c1=c1∧c2=c2∧1 =
 1∧0=0∧0=0∧planF l=planF l∧1=1∧0=0∧0=0∧1=1∧0=0∧0=0∧1=1∧0=0∧0=0∧c20=c20∧1=1∧0=0∧0=0∧c5=c5 ∧
 c7=c7∧c9=c9∧c10=c10∧1=1∧0=0∧0=0∧l=l∧s=s∧c5=c5∧c7=c7∧c9=c9∧c10=c10∧1=1∧0=0∧0=0∧c5=c5∧c7=c7 ∧
 c9=c9∧c10=c10∧1=1∧0=0∧0=0∧c11=c11∧c12=c12∧c12=c12∧c13=c13∧1=1∧0=0∧0=0∧c1=c1∧planF l=planF l∧1=1∧0 =
 0∧0=0∧c1=c1∧planF l=planF l∧1=1∧0=0∧0=0∧c10=c10∧c10=c10∧c14=c14∧c17=c17∧c19=c19∧c17=c17∧c20=c20∧c20=c20
 ∧ c20=c20∧c21=c21∧(0:Int)=c25∧(0:Int)=(0:Int)∧c18=c26∧c1=c1∧planF l=planF l∧1=1∧0=0∧0=0∧c17=c17∧1=1∧0=0
 ∧ 0=0∧True)∧∀ (x:Int×List Int),
 let c27:=x.fst;
 let c28:=x.snd;
 let c29:=D.lt c27 c21;
 let c30:=D.get c20 (D.nat c27) (D.nil Int);
 let c31:=D.ilen c30;
 let c32:=D.ilen (cellsD (planF l) c17 c27);
 let c33:=cutsF c1 (planF l) c17 c27;
 let c34:=D.add c27 (1:Int);to2 c1 (planF l) (plRest l) c17 c27 c28→(c29=true→D.ile (0:Int) c27∧D.ilt c27 c21∧1=1∧0=0∧(∃ (x:Int×List
 Int),
 let c35:=x.fst;
 let c36:=x.snd;to3 c1 (planF l) (plRest l) c17 c27 c35 c36∧cs=cs∧ns=ns∧ps=ps∧os=os∧ls=ls∧ks=ks∧l=l∧s=s∧c1=c1∧c2=c2 ∧
 1=1∧0=0∧0=0∧planF l=planF l∧1=1∧0=0∧0=0∧1=1∧0=0∧0=0∧1=1∧0=0∧0=0∧c20=c20∧1=1∧0=0∧0=0∧c30 =
 c30∧1=1∧0=0∧0=0∧c5=c5∧c7=c7∧c9=c9∧c10=c10∧1=1∧0=0∧0=0∧l=l∧s=s∧c5=c5∧c7=c7∧c9=c9∧c10=c10∧1=1
 ∧ 0=0∧0=0∧c5=c5∧c7=c7∧c9=c9∧c10=c10∧1=1∧0=0∧0=0∧c11=c11∧c12=c12∧c12=c12∧c13=c13∧1=1∧0=0∧0=0∧c1
 = c1∧planF l=planF l∧1=1∧0=0∧0=0∧c1=c1∧planF l=planF l∧1=1∧0=0∧0=0∧c10=c10∧c10=c10∧c14=c14∧c17=c17∧c19 =
 c19∧c17=c17∧c20=c20∧c20=c20∧c20=c20∧c21=c21∧c27=c27∧c29=c29∧c27=c27∧c30=c30∧c30=c30∧c30=c30∧c31=c31∧(0:Int)
 = c35∧(0:Int)=(0:Int)∧c28=c36∧c1=c1∧planF l=planF l∧1=1∧0=0∧0=0∧c17=c17∧c27=c27∧1=1∧0=0∧0=0∧True)∧∀ (x
 : Int×List Int),
 let c37:=x.fst;
 let c38:=x.snd;
 let c39:=D.lt c37 c31;
 let c40:=D.get c30 (D.nat c37) (0:Int);
 let c41:=D.eq c40 (-1:Int);
 let c42:=D.add c37 (1:Int);to3 c1 (planF l) (plRest l) c17 c27 c37 c38→(c39=true→D.ile (0:Int) c37∧D.ilt c37 c31∧1=1∧0=0∧(c41=true →
 inR IntKind.i64 c42∧∃ (y:Int×List Int),
 let c43:=y.fst;
 let c44:=y.snd;to3 c1 (planF l) (plRest l) c17 c27 c43 c44∧(cs=cs∧ns=ns∧ps=ps∧os=os∧ls=ls∧ks=ks∧l=l∧s=s∧c1=c1∧c2=c2 ∧
 1=1∧0=0∧0=0∧planF l=planF l∧1=1∧0=0∧0=0∧1=1∧0=0∧0=0∧1=1∧0=0∧0=0∧c20=c20∧1=1∧0=0∧0=0∧c30 =
 c30∧1=1∧0=0∧0=0∧c5=c5∧c7=c7∧c9=c9∧c10=c10∧1=1∧0=0∧0=0∧l=l∧s=s∧c5=c5∧c7=c7∧c9=c9∧c10=c10∧1=1
 ∧ 0=0∧0=0∧c5=c5∧c7=c7∧c9=c9∧c10=c10∧1=1∧0=0∧0=0∧c11=c11∧c12=c12∧c12=c12∧c13=c13∧1=1∧0=0∧0=0∧c1
 = c1∧planF l=planF l∧1=1∧0=0∧0=0∧c1=c1∧planF l=planF l∧1=1∧0=0∧0=0∧c10=c10∧c10=c10∧c14=c14∧c17=c17∧c19 =
 c19∧c17=c17∧c20=c20∧c20=c20∧c20=c20∧c21=c21∧c27=c27∧c29=c29∧c27=c27∧c30=c30∧c30=c30∧c30=c30∧c31=c31∧c42=c43
 ∧ (0:Int)=(0:Int)∧c38=c44∧c1=c1∧planF l=planF l∧1=1∧0=0∧0=0∧c17=c17∧c27=c27∧1=1∧0=0∧0=0∧True)∧D.nlt
 (D.nat (D.sub c32 c43)) (D.nat (D.sub c32 c37)))∧(c41=false→1=1∧0=0∧1=1∧0=0∧1=1∧0=0∧True∧cutP c1 (planF l) c17 c27∧(∃ (x :
 Int×List Int),
 let c45:=x.fst;
 let c46:=x.snd;to4 c1 (planF l) (plRest l) c17 c27 c37 c45 c46∧D.nat c45=0∧cs=cs∧ns=ns∧ps=ps∧os=os∧ls=ls∧ks=ks∧l=l∧s=s ∧
 c1=c1∧c2=c2∧1=1∧0=0∧0=0∧planF l=planF l∧1=1∧0=0∧0=0∧1=1∧0=0∧0=0∧1=1∧0=0∧0=0∧c20=c20∧1=1∧0 =
 0∧0=0∧c30=c30∧1=1∧0=0∧0=0∧c40=c40∧1=1∧0=0∧0=0∧c5=c5∧c7=c7∧c9=c9∧c10=c10∧1=1∧0=0∧0=0∧l=l∧s
 = s∧c5=c5∧c7=c7∧c9=c9∧c10=c10∧1=1∧0=0∧0=0∧c5=c5∧c7=c7∧c9=c9∧c10=c10∧1=1∧0=0∧0=0∧c11=c11∧c12=c12
 ∧ c12=c12∧c13=c13∧1=1∧0=0∧0=0∧c1=c1∧planF l=planF l∧1=1∧0=0∧0=0∧c1=c1∧planF l=planF l∧1=1∧0=0∧0=0 ∧
 c10=c10∧c10=c10∧c14=c14∧c17=c17∧c19=c19∧c17=c17∧c20=c20∧c20=c20∧c20=c20∧c21=c21∧c27=c27∧c29=c29∧c27=c27∧c30
 = c30∧c30=c30∧c30=c30∧c31=c31∧c37=c37∧c39=c39∧c37=c37∧c40=c40∧c40=c40∧c40=c40∧c41=c41∧c1=c1∧planF l=planF l∧1
 = 1∧0=0∧0=0∧c17=c17∧c27=c27∧c1=c1∧planF l=planF l∧c27=c27∧c17=c17∧(0:Int)=(0:Int)∧c38=c46∧c1=c1∧planF l =
 planF l∧1=1∧0=0∧0=0∧c17=c17∧c27=c27∧c37=c37∧1=1∧0=0∧0=0∧True)∧(∀ (x:Int×List Int),
 let c47:=x.fst;
 let c48:=x.snd;
 let c49:=D.nat c47;∀ (y:Int),
 let c50:=proOk c1 (planF l) c17 c27 c37 y c48;to4 c1 (planF l) (plRest l) c17 c27 c37 c47 c48→isAt c33 c49 y→1=1∧0=0∧1=1∧0=0∧1=1∧0 =
 0∧1=1∧0=0∧(true=true→proP c1 (planF l) c17 c27 c37 y c48∧(c50=false→true=true∧true=true∧(D.not false=true→True∧1=1∧0=0
 ∧ 1=1∧0=0∧(190:Int)=c4∧True)∧(D.not false=false→1=1∧0=0∧(0:Int)=c4∧True)))∧((true=true→c50=true)→(proP c1 (planF l)
 c17 c27 c37 y c48∧c50=true)∧1=1∧∃ (z:Int×List Int),
 let c51:=z.fst;
 let c52:=z.snd;to4 c1 (planF l) (plRest l) c17 c27 c37 c51 c52∧D.nat c51=D.nadd c49 (1)∧cs=cs∧ns=ns∧ps=ps∧os=os∧ls=ls∧ks=ks∧l =
 l∧s=s∧c1=c1∧c2=c2∧1=1∧0=0∧0=0∧planF l=planF l∧1=1∧0=0∧0=0∧1=1∧0=0∧0=0∧1=1∧0=0∧0=0∧c20=c20 ∧
 1=1∧0=0∧0=0∧c30=c30∧1=1∧0=0∧0=0∧c40=c40∧1=1∧0=0∧0=0∧c5=c5∧c7=c7∧c9=c9∧c10=c10∧1=1∧0=0∧0=0
 ∧ l=l∧s=s∧c5=c5∧c7=c7∧c9=c9∧c10=c10∧1=1∧0=0∧0=0∧c5=c5∧c7=c7∧c9=c9∧c10=c10∧1=1∧0=0∧0=0∧c11=c11
 ∧ c12=c12∧c12=c12∧c13=c13∧1=1∧0=0∧0=0∧c1=c1∧planF l=planF l∧1=1∧0=0∧0=0∧c1=c1∧planF l=planF l∧1=1∧0=0
 ∧ 0=0∧c10=c10∧c10=c10∧c14=c14∧c17=c17∧c19=c19∧c17=c17∧c20=c20∧c20=c20∧c20=c20∧c21=c21∧c27=c27∧c29=c29∧c27 =
 c27∧c30=c30∧c30=c30∧c30=c30∧c31=c31∧c37=c37∧c39=c39∧c37=c37∧c40=c40∧c40=c40∧c40=c40∧c41=c41∧c1=c1∧planF l =
 planF l∧1=1∧0=0∧0=0∧c17=c17∧c27=c27∧c1=c1∧planF l=planF l∧c27=c27∧c17=c17∧(0:Int)=(0:Int)∧folR c1 (planF l) c27
 c37 y c48=c52∧c1=c1∧planF l=planF l∧1=1∧0=0∧0=0∧c17=c17∧c27=c27∧c37=c37∧1=1∧0=0∧0=0∧True))∧∀ (x:Int×List
 Int),
 let c53:=x.fst;
 let c54:=x.snd;to4 c1 (planF l) (plRest l) c17 c27 c37 c53 c54→D.nat c53=D.len c33→inR IntKind.i64 c42∧∃ (y:Int×List Int),
 let c55:=y.fst;
 let c56:=y.snd;to3 c1 (planF l) (plRest l) c17 c27 c55 c56∧(cs=cs∧ns=ns∧ps=ps∧os=os∧ls=ls∧ks=ks∧l=l∧s=s∧c1=c1∧c2=c2 ∧
 1=1∧0=0∧0=0∧planF l=planF l∧1=1∧0=0∧0=0∧1=1∧0=0∧0=0∧1=1∧0=0∧0=0∧c20=c20∧1=1∧0=0∧0=0∧c30 =
 c30∧1=1∧0=0∧0=0∧c5=c5∧c7=c7∧c9=c9∧c10=c10∧1=1∧0=0∧0=0∧l=l∧s=s∧c5=c5∧c7=c7∧c9=c9∧c10=c10∧1=1
 ∧ 0=0∧0=0∧c5=c5∧c7=c7∧c9=c9∧c10=c10∧1=1∧0=0∧0=0∧c11=c11∧c12=c12∧c12=c12∧c13=c13∧1=1∧0=0∧0=0∧c1
 = c1∧planF l=planF l∧1=1∧0=0∧0=0∧c1=c1∧planF l=planF l∧1=1∧0=0∧0=0∧c10=c10∧c10=c10∧c14=c14∧c17=c17∧c19 =
 c19∧c17=c17∧c20=c20∧c20=c20∧c20=c20∧c21=c21∧c27=c27∧c29=c29∧c27=c27∧c30=c30∧c30=c30∧c30=c30∧c31=c31∧c42=c55
 ∧ (0:Int)=(0:Int)∧c54=c56∧c1=c1∧planF l=planF l∧1=1∧0=0∧0=0∧c17=c17∧c27=c27∧1=1∧0=0∧0=0∧True)∧D.nlt
 (D.nat (D.sub c32 c55)) (D.nat (D.sub c32 c37))))∧(c39=false→inR IntKind.i64 c34∧∃ (y:Int×List Int),
 let c57:=y.fst;
 let c58:=y.snd;to2 c1 (planF l) (plRest l) c17 c57 c58∧(cs=cs∧ns=ns∧ps=ps∧os=os∧ls=ls∧ks=ks∧l=l∧s=s∧c1=c1∧c2=c2∧1 =
 1∧0=0∧0=0∧planF l=planF l∧1=1∧0=0∧0=0∧1=1∧0=0∧0=0∧1=1∧0=0∧0=0∧c20=c20∧1=1∧0=0∧0=0∧c5=c5 ∧
 c7=c7∧c9=c9∧c10=c10∧1=1∧0=0∧0=0∧l=l∧s=s∧c5=c5∧c7=c7∧c9=c9∧c10=c10∧1=1∧0=0∧0=0∧c5=c5∧c7=c7 ∧
 c9=c9∧c10=c10∧1=1∧0=0∧0=0∧c11=c11∧c12=c12∧c12=c12∧c13=c13∧1=1∧0=0∧0=0∧c1=c1∧planF l=planF l∧1=1∧0 =
 0∧0=0∧c1=c1∧planF l=planF l∧1=1∧0=0∧0=0∧c10=c10∧c10=c10∧c14=c14∧c17=c17∧c19=c19∧c17=c17∧c20=c20∧c20=c20
 ∧ c20=c20∧c21=c21∧c34=c57∧(0:Int)=(0:Int)∧c38=c58∧c1=c1∧planF l=planF l∧1=1∧0=0∧0=0∧c17=c17∧1=1∧0=0∧0 =
 0∧True)∧D.nlt (D.nat (D.sub c22 c57)) (D.nat (D.sub c22 c27))))∧(c29=false→inR IntKind.i64 c23∧∃ (y:Int×List Int),
 let c59:=y.fst;
 let c60:=y.snd;to1 c1 (planF l) (plRest l) c59 c60∧(cs=cs∧ns=ns∧ps=ps∧os=os∧ls=ls∧ks=ks∧l=l∧s=s∧c1=c1∧c2=c2∧1=1 ∧
 0=0∧0=0∧planF l=planF l∧1=1∧0=0∧0=0∧1=1∧0=0∧0=0∧1=1∧0=0∧0=0∧c5=c5∧c7=c7∧c9=c9∧c10=c10∧1=1∧0
 = 0∧0=0∧l=l∧s=s∧c5=c5∧c7=c7∧c9=c9∧c10=c10∧1=1∧0=0∧0=0∧c5=c5∧c7=c7∧c9=c9∧c10=c10∧1=1∧0=0∧0=0
 ∧ c11=c11∧c12=c12∧c12=c12∧c13=c13∧1=1∧0=0∧0=0∧c1=c1∧planF l=planF l∧1=1∧0=0∧0=0∧c1=c1∧planF l=planF l∧1
 = 1∧0=0∧0=0∧c10=c10∧c10=c10∧c14=c14∧c23=c59∧(0:Int)=(0:Int)∧c28=c60∧c1=c1∧planF l=planF l∧1=1∧0=0∧0=0 ∧
 1=1∧0=0∧0=0∧True)∧D.nlt (D.nat (D.sub c14 c59)) (D.nat (D.sub c14 c17))))∧(c19=false→1=1∧1=1∧1=1∧0=0∧(true=true→True ∧
 (c24=false→true=true∧true=true∧(D.not false=true→True∧1=1∧0=0∧1=1∧0=0∧(190:Int)=c4∧True)∧(D.not false=false→1=1
 ∧ 0=0∧(0:Int)=c4∧True)))∧((true=true→c24=true)→(True∧c24=true)∧1=1∧0=0∧true=true∧true=true∧(D.not true=true →
 False)∧(D.not true=false→1=1∧0=0∧(0:Int)=c4∧True)))))))) :
  evR c15 noAnn (chkA (cs,ns,ps,os,ls,ks) l) noAnn 9 [.agg [.dat (.sl C) cs,.dat (.sl S) ns,.dat (.sl S) ps,.dat (.sl Of) os,.dat (.sl Ln) ls,.dat (.sl Kl) ks],.agg [.dat R l,.dat I s]] ⟨limI l∧netP (cs,ns,ps,os,ls,ks),.dat I (checkF (cs,ns,ps,os,ls,ks) l s),[]⟩:=@of_eq _ _ (by kernel_rfl) hvc
theorem openK_ok:∀ args m c,openK args m=some c→SoundC Tryz.prog G0 24 args m c:=by
 intro args m c h
 unfold openK at h
 split at h
 ·cases h;exact (t_open _ _).1
 ·cases h
theorem KS14:KSound Tryz.prog G0 K14:=kOr_ok openK_ok <| kOr_ok (dataK_ok fun (n,_)=>t_us n) <| kOr_ok (dataK_ok fun (n,p,_)=>t_fit n p) <| kOr_ok (memK_ok fun ((n,p),k,o,d,cut,_) xs=>(t_prove n p k o d cut xs).1) KS13
theorem KP14_ok:KPSound Tryz.prog G0 KP14:=pOr_ok (dataP_ok fun (c,_)=>(t_open c.2 c.1).2) <| pOr_ok (memP_ok fun ((n,p),k,o,d,cut,_) xs=>(t_prove n p k o d cut xs).2) KPr_ok
theorem KI2s:KISound Tryz.prog G0 KI2:=by
 intro f caps it h
 unfold KI2 at h
 split at h
 ·rename_i e
  subst e
  split at h
  ·rename_i n p o k _ hx
   cases h
   exact IterC.args (t_cuti n p k o) fun C us hu=>ofK_rel hx hu
  ·cases h
 ·exact KI1s f caps it h
theorem t_Plan (s:Int) (l:List Int):SoundC Tryz.prog G0 10 [.agg [.dat R l,.dat I s]] [] ⟨limI l,.tup [.agg [.dat I (openR (l,s)).1,.dat I (openR (l,s)).2.1,.dat M (openR (l,s)).2.2.1,.dat (.sl M) (openR (l,s)).2.2.2],.dat I (openC (l,s))],[]⟩:=by
 refine sound_of_evG (c:=c14) KS14 KI0s hm KP14_ok (vc_Plan s l ⟨⟨rfl,rfl⟩,fun hp=>?_⟩)
 simp only [D.not,eq_self,true_and,and_true,Bool.not_eq_true',Bool.not_eq_false',forall_const,D.nil]
 refine ⟨⟨hp,fun h=>?_⟩,fun h=>⟨⟨hp,h⟩,?_⟩⟩
 ·unfold openR openC
  rw [h]
  exact ⟨⟨rfl,rfl,rfl,rfl,rfl⟩,fun h=>by cases h⟩
 ·unfold openR openC
  rw [h]
  exact ⟨fun h=>(by cases h),⟨rfl,rfl,rfl,rfl,rfl⟩⟩
end Go.Eng.In
