/- PeSv2j -/
import Derived.Test.YtlobbofhlcjlmaaGreatDoorZ22
import Derived.Test.YtlobbofhlcjlmaaGreatDoorSvT
import Derived.Test.YtlobbofhlcjlmaaGreatDoorSv1j
set_option linter.unusedSimpArgs false
set_option linter.unusedVariables false
set_option maxRecDepth 100000
noncomputable section
namespace Go.Eng.Sv
open Go.Proofs
abbrev Of:Ty:=.pair S (.pair I (.pair I (.pair I (.pair I (.pair I (.sl S))))))
abbrev Ln:Ty:=.pair S (.pair I (.pair I (.pair I (.pair I I))))
abbrev Kl:Ty:=.pair S (.pair I I)
abbrev Fa:Ty:=.pair I (.pair I I)
abbrev N:Ty:=.pair (.sl C) (.pair (.sl S) (.pair (.sl S) (.pair (.sl Of) (.pair (.sl Ln) (.sl Kl)))))
abbrev Off:=ByteArray×Int×Int×Int×Int×Int×List ByteArray
abbrev Cla:=ByteArray×Int×Int
abbrev Net:=List (Int×List Bool×List Int)×List ByteArray×List ByteArray×List Off×List Line×List Cla
abbrev net (cs:LC) (ns os:LB) (fs:List Off) (ls:List Line) (ks:List Cla):AV:=.agg [.dat (.sl C) cs,.dat (.sl S) ns,.dat (.sl S) os,.dat (.sl Of) fs,.dat (.sl Ln) ls,.dat (.sl Kl) ks]
def idxF (i n:Int):Bool:=decide (0≤i∧i < n)
def idx (i n:Int):Prop:=0≤i∧i < n
def idxS (i n:Int):Prop:=0≤i∧i < n∧i≤1000
def codesTo (l:List ByteArray) (k:Int):Prop:=0≤k∧k≤l.length∧(l.take k.toNat).all isCodeF=true
def goodOff (n:Net) (o:Off):Bool:=idxF o.2.1 n.2.2.1.length && idxF o.2.2.1 n.1.length && decide (o.2.2.2.2.2.2.length≤20) && o.2.2.2.2.2.2.all isCodeF && fromF o.2.2.2.1 2 64 && fromF o.2.2.2.2.1 1 4 && fromF o.2.2.2.2.2.1 1 240
def goodLin (n:Net) (l:Line):Bool:=idxF l.2.1 n.2.2.2.1.length && idxF l.2.2.1 n.2.2.2.1.length && decide (l.2.1≠l.2.2.1) && fromF l.2.2.2.1 0 1439 && fromF l.2.2.2.2.1 1 5000 && fromF l.2.2.2.2.2 1 40
def goodCla (k:Cla):Bool:=fromF k.2.1 0 1439 && fromF k.2.2 0 1439
def calNames (cs:List (Int×List Bool×List Int)) (ns:List ByteArray):List ByteArray:=(List.range cs.length).map fun i=>ns.getD i ⟨#[]⟩
def offNames (fs:List Off):List ByteArray:=fs.map (·.1)
def linNames (ls:List Line):List ByteArray:=ls.map (·.1)
def claNames (ks:List Cla):List ByteArray:=ks.map (·.1)
def calGoods (cs:List (Int×List Bool×List Int)):List Bool:=cs.map fun c=>validF c.1 c.2.1 c.2.2
def opGoods (os:List ByteArray):List Bool:=os.map fun _=>true
def offGoods (n:Net):List Bool:=n.2.2.2.1.map (goodOff n)
def linGoods (n:Net):List Bool:=n.2.2.2.2.1.map (goodLin n)
def claGoods (ks:List Cla):List Bool:=ks.map goodCla
def nmAt (l:List ByteArray) (i:Int):ByteArray:=l.getD i.toNat ⟨#[]⟩
def rule1 (l:List ByteArray) (i:Int):Int:=if isNameF (nmAt l i) then 0 else 1
def rule2 (l:List ByteArray) (i:Int):Int:=if (l.take i.toNat).any (fun w=>w.toList == (nmAt l i).toList) then 4 else 0
def rule3 (g:List Bool) (i:Int):Int:=if g.getD i.toNat false then 0 else 1
def twTo (l:List ByteArray) (i k:Int):Prop:=0≤k∧k≤i∧(l.take k.toNat).any (fun w=>w.toList == (nmAt l i).toList)=false
def rulesTo (l:List ByteArray) (g:List Bool) (i k:Int):Prop:=0≤k∧k≤3∧(0 < k→rule1 l i=0)∧(1 < k→rule2 l i=0)∧(2 < k→rule3 g i=0)
def errF (l:List ByteArray) (g:List Bool) (i:Int):Int:=if rule1 l i≠0 then rule1 l i else if rule2 l i≠0 then rule2 l i else rule3 g i
def kindTo (kind:Int) (l:List ByteArray) (g:List Bool) (k:Int):List (Int×Int×Int):=(List.range k.toNat).filterMap fun i:Nat=>if errF l g i=0 then none else some (kind,(i:Int),errF l g i)
def overF (kind lim:Int) (l:List ByteArray):List (Int×Int×Int):=if lim < l.length then [(kind,lim,2)] else []
def kindF (kind lim:Int) (l:List ByteArray) (g:List Bool):List (Int×Int×Int):=kindTo kind l g (min l.length lim) ++ overF kind lim l
def kindUp (k n lim:Int):Prop:=0≤k∧k≤n∧k≤lim
def headF (n:Net):List (Int×Int×Int):=if n.2.1.length=n.1.length then [] else [(1,-1,1)]
def namesF (n:Net) (k:Int):List ByteArray:=if k=1 then calNames n.1 n.2.1 else if k=2 then n.2.2.1 else if k=3 then offNames n.2.2.2.1 else if k=4 then linNames n.2.2.2.2.1 else if k=5 then claNames n.2.2.2.2.2 else []
def goodsF (n:Net) (k:Int):List Bool:=if k=1 then calGoods n.1 else if k=2 then opGoods n.2.2.1 else if k=3 then offGoods n else if k=4 then linGoods n else if k=5 then claGoods n.2.2.2.2.2 else []
def faultsTo (n:Net) (k:Int):List (Int×Int×Int):=headF n ++ (List.range (k.toNat - 1)).flatMap fun j:Nat=>kindF (j + 1) (limitF (j + 1)) (namesF n (j + 1)) (goodsF n (j + 1))
def faultsF (n:Net):List (Int×Int×Int):=faultsTo n 6
def fewLen (n:Net):Bool:=decide (n.1.length≤10∧n.2.1.length≤10∧n.2.2.1.length≤10∧n.2.2.2.1.length≤16∧n.2.2.2.2.1.length≤50∧n.2.2.2.2.2.length≤8)
def officeP (n:Net) (o:Off):Prop:=fewLen n=true∧o.2.2.2.2.2.2.length≤30
theorem vc_idxOf (i:Int) (xs:List Of.den) (hvc :
 let c1:=D.ge i (0:Int);
 let c2:=D.ilen xs;true=true∧(True→(c1=true→c1=true→c1=true)∧(c1=true→c1=true→c1=true)∧(c1=true→c1=true→c1=true) ∧
 (D.and true c1=true→c1=true)∧D.cnd c1 (D.lt i c2) false=idxF i c2∧True)) :
  evF (mkc K2) noAnn 148 [.dat I i,.dat (.sl Of) xs] [] ⟨True,.dat .bool (idxF i (D.ilen xs)),[]⟩:=@of_eq _ _ (by kernel_rfl) hvc
theorem vc_idxS (i:Int) (xs:List S.den) (hvc :
 let c1:=D.ge i (0:Int);true=true∧(True→(c1=true→c1=true→c1=true)∧(c1=true→c1=true→c1=true)∧(c1=true→c1=true→c1 =
 true)∧(D.and true c1=true→c1=true)∧D.cnd c1 (D.lt i (D.ilen xs)) false=idxF i (D.ilen xs)∧True)) :
  evF (mkc K2) noAnn 141 [.dat I i,.dat (.sl S) xs] [] ⟨True,.dat .bool (idxF i (D.ilen xs)),[]⟩:=@of_eq _ _ (by kernel_rfl) hvc
theorem vc_idxC (i:Int) (xs:List C.den) (hvc :
 let c1:=D.ge i (0:Int);
 let c2:=D.ilen xs;true=true∧(True→(c1=true→c1=true→c1=true)∧(c1=true→c1=true→c1=true)∧(c1=true→c1=true→c1=true) ∧
 (D.and true c1=true→c1=true)∧D.cnd c1 (D.lt i c2) false=idxF i c2∧True)) :
  evF (mkc K2) noAnn 142 [.dat I i,.dat (.sl C) xs] [] ⟨True,.dat .bool (idxF i (D.ilen xs)),[]⟩:=@of_eq _ _ (by kernel_rfl) hvc
def K3:Kt:=kOr 148 (dataK [.val I,.val (.sl Of)] (fun _=>True) fun (i,xs,_)=>.dat .bool (idxF i (D.ilen xs)))
 (kOr 141 (dataK [.val I,.val (.sl S)] (fun _=>True) fun (i,xs,_)=>.dat .bool (idxF i (D.ilen xs)))
 (kOr 142 (dataK [.val I,.val (.sl C)] (fun _=>True) fun (i,xs,_)=>.dat .bool (idxF i (D.ilen xs)))
 (kOr 125 (dataK [.val S] (fun _=>True) fun (s,_)=>.dat .bool (isNameF s))
 (kOr 163 (dataK [.val S] (fun _=>True) fun (s,_)=>.dat .bool (isCodeF s)) K2))))
def codesA (l:List ByteArray):Ann:=⟨fun id st=>match id with
 | 4=>some { α:=Int,inv:=fun k=>codesTo l k,st:=fun k=>put st [(30,.dat I k)],μ:=fun k=>D.nat (D.sub (D.ilen l) k) }
 | _=>none,fun _ _=>none,fun _ _=>none⟩
def rOffA (l:List ByteArray):Ann:=⟨fun id st=>match id with
 | 2=>some { α:=Int,inv:=fun k=>codesTo l k,st:=fun k=>put st [(5,.dat I k)],μ:=fun k=>D.nat (D.sub (D.ilen l) k) }
 | _=>none,fun _ _=>none,fun _ _=>none⟩
theorem vc_goodOffice (cs:LC) (ns os:LB) (fs:List Off) (ls:List Line) (ks:List Cla) (e1:ByteArray) (e2 e3 e4 e5 e6:Int) (e7:List ByteArray) (hvc :
 let c1:=idxF e2 (D.ilen os);
 let c2:=D.not c1;
 let c3:=D.not c2;
 let c4:=D.cnd c2 true (D.not (idxF e3 (D.ilen cs)));
 let c5:=D.not c4;
 let c6:=D.cnd c4 true (D.gt (D.ilen e7) (20:Int));
 let c7:=(os,fs,ls,ks);
 let c8:=(cs,ns,c7);
 let c9:=(e2,e3,e4,e5,e6,e7);
 let c10:=(e1,c9);
 let c11:=goodOff c8 c10;
 let c12:=fromF e4 (2:Int) (64:Int);
 let c13:=D.cnd c12 (fromF e5 (1:Int) (4:Int)) false;true=true∧(True→True∧(c3=true→c3=true→c3=true)∧(c3=true→c3=true→c3 =
 true)∧(c3=true→c3=true→c3=true)∧(c3=true→c3=true→c3=true)∧(c3=true→True)∧(c3=true→c3=true→c3=true)∧(D.and true c3 =
 true→c3=true)∧(c5=true→c5=true→c5=true)∧(c5=true→c5=true→c5=true)∧(c5=true→c5=true→c5=true)∧(D.and true c5=true →
 c5=true)∧(c6=true→false=c11∧True)∧(c6=false→(∃ x,codesTo e7 x∧cs=cs∧ns=ns∧os=os∧fs=fs∧ls=ls∧ks=ks∧e1=e1∧e2 =
 e2∧e3=e3∧e4=e4∧e5=e5∧e6=e6∧e7=e7∧c8=c8∧c10=c10∧c9=c9∧e2=e2∧c7=c7∧os=os∧c1=c1∧c2=c2∧c2=c2∧c4=c4∧c4
 = c4∧c6=c6∧e7=e7∧e7=e7∧D.ilen e7=D.ilen e7∧(0:Int)=x∧True)∧∀ (x:Int),
 let c14:=D.lt x (D.ilen e7);
 let c15:=D.not (isCodeF (D.get e7 (D.nat x) (ByteArray.mk (D.nil UInt8).toArray)));
 let c16:=D.add x (1:Int);codesTo e7 x→(c14=true→D.ile (0:Int) x∧D.ilt x (D.ilen e7)∧True∧(c15=true→false=c11∧True)∧(c15=false →
 inR IntKind.i64 c16∧∃ y,codesTo e7 y∧(cs=cs∧ns=ns∧os=os∧fs=fs∧ls=ls∧ks=ks∧e1=e1∧e2=e2∧e3=e3∧e4=e4∧e5=e5∧e6 =
 e6∧e7=e7∧c8=c8∧c10=c10∧c9=c9∧e2=e2∧c7=c7∧os=os∧c1=c1∧c2=c2∧c2=c2∧c4=c4∧c4=c4∧c6=c6∧e7=e7∧e7=e7 ∧
 D.ilen e7=D.ilen e7∧c16=y∧True)∧D.nlt (D.nat (D.sub (D.ilen e7) y)) (D.nat (D.sub (D.ilen e7) x))))∧(c14=false→True∧(c12=true→c12=true
 → c12=true)∧(c12=true→c12=true→c12=true)∧(c12=true→True)∧(D.and true c12=true→c12=true)∧(c13=true→c13=true→c13=true) ∧
 (c13=true→c13=true→c13=true)∧(c13=true→True)∧(D.and true c13=true→c13=true)∧D.cnd c13 (fromF e6 (1:Int) (240:Int)) false=c11 ∧
 True)))) :
  evF (mkc K3) (codesA e7) 112 [net cs ns os fs ls ks,.agg [.dat .str e1,.dat (.int .i64) e2,.dat (.int .i64) e3,.dat (.int .i64) e4,.dat (.int .i64) e5,.dat (.int .i64) e6,.dat (.sl .str) e7]] [] ⟨True,.dat .bool (goodOff (cs,ns,os,fs,ls,ks) (e1,e2,e3,e4,e5,e6,e7)),[]⟩:=@of_eq _ _ (by kernel_rfl) hvc
theorem vc_goodLine (cs:LC) (ns os:LB) (fs:List Off) (ls:List Line) (ks:List Cla) (e1:ByteArray) (e2 e3 e4 e5 e6:Int) (hvc :
 let c1:=D.ilen fs;
 let c2:=D.not (idxF e2 c1);
 let c3:=D.not c2;
 let c4:=D.cnd c2 true (D.not (idxF e3 c1));
 let c5:=D.not c4;
 let c6:=D.cnd c4 true (D.eq e2 e3);
 let c7:=goodLin (cs,ns,os,fs,ls,ks) (e1,e2,e3,e4,e5,e6);
 let c8:=fromF e4 (0:Int) (1439:Int);
 let c9:=D.cnd c8 (fromF e5 (1:Int) (5000:Int)) false;true=true∧(True→True∧(c3=true→c3=true→c3=true)∧(c3=true→c3=true→c3 =
 true)∧(c3=true→c3=true→c3=true)∧(c3=true→c3=true→c3=true)∧(c3=true→True)∧(c3=true→c3=true→c3=true)∧(D.and true c3 =
 true→c3=true)∧(c5=true→c5=true→c5=true)∧(c5=true→c5=true→c5=true)∧(c5=true→c5=true→c5=true)∧(c5=true→c5=true →
 c5=true)∧(D.and true c5=true→c5=true)∧(c6=true→false=c7∧True)∧(c6=false→True∧(c8=true→c8=true→c8=true)∧(c8=true→c8
 = true→c8=true)∧(c8=true→True)∧(D.and true c8=true→c8=true)∧(c9=true→c9=true→c9=true)∧(c9=true→c9=true→c9=true)∧(c9
 = true→True)∧(D.and true c9=true→c9=true)∧D.cnd c9 (fromF e6 (1:Int) (40:Int)) false=c7∧True))) :
  evF (mkc K3) noAnn 116 [net cs ns os fs ls ks,.agg [.dat .str e1,.dat (.int .i64) e2,.dat (.int .i64) e3,.dat (.int .i64) e4,.dat (.int .i64) e5,.dat (.int .i64) e6]] [] ⟨True,.dat .bool (goodLin (cs,ns,os,fs,ls,ks) (e1,e2,e3,e4,e5,e6)),[]⟩:=@of_eq _ _ (by kernel_rfl) hvc
theorem vc_office (cs:LC) (ns os:LB) (fs:List Off) (ls:List Line) (ks:List Cla) (e1:ByteArray) (e2 e3 e4 e5 e6:Int) (e7:List ByteArray) (hvc :
 let c1:=(cs,ns,os,fs,ls,ks);
 let c2:=(e1,e2,e3,e4,e5,e6,e7);
 let c3:=goodOff c1 c2;
 let c4:=D.le (D.ilen e7) (20:Int);
 let c5:=D.sub (D.ilen os) (1:Int);
 let c6:=D.cnd c4 (fromF e2 (0:Int) c5) false;
 let c7:=D.sub (D.ilen cs) (1:Int);
 let c8:=D.cnd c6 (fromF e3 (0:Int) c7) false;
 let c9:=D.cnd c8 (fromF e4 (2:Int) (64:Int)) false;
 let c10:=D.cnd c9 (fromF e5 (1:Int) (4:Int)) false;true=true∧(officeP c1 c2→(∃ x,codesTo e7 x∧cs=cs∧ns=ns∧os=os∧fs=fs∧ls=ls ∧
 ks=ks∧e1=e1∧e2=e2∧e3=e3∧e4=e4∧e5=e5∧e6=e6∧e7=e7∧c1=c1∧c2=c2∧(0:Int)=x∧True)∧∀ (x:Int),
 let c11:=D.lt x (D.ilen e7);
 let c12:=D.not (isCodeF (D.get e7 (D.nat x) (ByteArray.mk (D.nil UInt8).toArray)));
 let c13:=D.add x (1:Int);codesTo e7 x→(c11=true→D.ile (0:Int) x∧D.ilt x (D.ilen e7)∧True∧(c12=true→false=c3∧True)∧(c12=false →
 inR IntKind.i64 c13∧∃ y,codesTo e7 y∧(cs=cs∧ns=ns∧os=os∧fs=fs∧ls=ls∧ks=ks∧e1=e1∧e2=e2∧e3=e3∧e4=e4∧e5=e5∧e6 =
 e6∧e7=e7∧c1=c1∧c2=c2∧c13=y∧True)∧D.nlt (D.nat (D.sub (D.ilen e7) y)) (D.nat (D.sub (D.ilen e7) x))))∧(c11=false→(c4=true→c4 =
 true→c4=true)∧(c4=true→c4=true→c4=true)∧(c4=true→c4=true→c4=true)∧(c4=true→c4=true→c4=true)∧(c4=true→inR
 IntKind.i64 c5)∧(c4=true→c4=true→c4=true)∧(c4=true→c4=true→c4=true)∧(c4=true→True)∧(D.and true c4=true→c4=true)∧(c6 =
 true→c6=true→c6=true)∧(c6=true→c6=true→c6=true)∧(c6=true→c6=true→c6=true)∧(c6=true→c6=true→c6=true)∧(c6=true →
 inR IntKind.i64 c7)∧(c6=true→c6=true→c6=true)∧(c6=true→c6=true→c6=true)∧(c6=true→True)∧(D.and true c6=true→c6=true)∧(c8
 = true→c8=true→c8=true)∧(c8=true→c8=true→c8=true)∧(c8=true→True)∧(D.and true c8=true→c8=true)∧(c9=true→c9=true→c9 =
 true)∧(c9=true→c9=true→c9=true)∧(c9=true→True)∧(D.and true c9=true→c9=true)∧(c10=true→c10=true→c10=true)∧(c10=true →
 c10=true→c10=true)∧(c10=true→True)∧(D.and true c10=true→c10=true)∧D.cnd c10 (fromF e6 (1:Int) (240:Int)) false=c3∧True))) :
  evF (mkc K3) (rOffA e7) 155 [net cs ns os fs ls ks,.agg [.dat .str e1,.dat (.int .i64) e2,.dat (.int .i64) e3,.dat (.int .i64) e4,.dat (.int .i64) e5,.dat (.int .i64) e6,.dat (.sl .str) e7]] [] ⟨officeP (cs,ns,os,fs,ls,ks) (e1,e2,e3,e4,e5,e6,e7),.dat .bool (goodOff (cs,ns,os,fs,ls,ks) (e1,e2,e3,e4,e5,e6,e7)),[]⟩:=@of_eq _ _ (by kernel_rfl) hvc
theorem vc_line (cs:LC) (ns os:LB) (fs:List Off) (ls:List Line) (ks:List Cla) (e1:ByteArray) (e2 e3 e4 e5 e6:Int) (hvc :
 let c1:=(cs,ns,os,fs,ls,ks);
 let c2:=D.sub (D.ilen fs) (1:Int);
 let c3:=fromF e2 (0:Int) c2;
 let c4:=D.cnd c3 (fromF e3 (0:Int) c2) false;
 let c5:=D.cnd c4 (D.ne e2 e3) false;
 let c6:=D.cnd c5 (fromF e4 (0:Int) (1439:Int)) false;
 let c7:=D.cnd c6 (fromF e5 (1:Int) (5000:Int)) false;true=true∧(fewLen c1=true→inR IntKind.i64 c2∧True∧(c3=true→c3=true→c3=true) ∧
 (c3=true→c3=true→c3=true)∧(c3=true→c3=true→c3=true)∧(c3=true→True)∧(D.and true c3=true→c3=true)∧(c4=true→c4=true →
 c4=true)∧(c4=true→c4=true→c4=true)∧(c4=true→c4=true→c4=true)∧(c4=true→c4=true→c4=true)∧(D.and true c4=true→c4 =
 true)∧(c5=true→c5=true→c5=true)∧(c5=true→c5=true→c5=true)∧(c5=true→True)∧(D.and true c5=true→c5=true)∧(c6=true→c6 =
 true→c6=true)∧(c6=true→c6=true→c6=true)∧(c6=true→True)∧(D.and true c6=true→c6=true)∧(c7=true→c7=true→c7=true)∧(c7 =
 true→c7=true→c7=true)∧(c7=true→True)∧(D.and true c7=true→c7=true)∧D.cnd c7 (fromF e6 (1:Int) (40:Int)) false=goodLin c1 (e1,e2,
 e3,e4,e5,e6)∧True)) :
  evF (mkc K3) noAnn 156 [net cs ns os fs ls ks,.agg [.dat .str e1,.dat (.int .i64) e2,.dat (.int .i64) e3,.dat (.int .i64) e4,.dat (.int .i64) e5,.dat (.int .i64) e6]] [] ⟨fewLen (cs,ns,os,fs,ls,ks)=true,.dat .bool (goodLin (cs,ns,os,fs,ls,ks) (e1,e2,e3,e4,e5,e6)),[]⟩:=@of_eq _ _ (by kernel_rfl) hvc
def K4:Kt:=kOr 112 (dataK [.row N,.row Of] (fun _=>True) fun (n,o,_)=>.dat .bool (goodOff n o))
 (kOr 116 (dataK [.row N,.row Ln] (fun _=>True) fun (n,l,_)=>.dat .bool (goodLin n l))
 (kOr 155 (dataK [.row N,.row Of] (fun (n,o,_)=>officeP n o) fun (n,o,_)=>.dat .bool (goodOff n o))
 (kOr 156 (dataK [.row N,.row Ln] (fun (n,_,_)=>fewLen n=true) fun (n,l,_)=>.dat .bool (goodLin n l)) K3)))
theorem vc_nm1 (i:Int) (cs:LC) (ns os:LB) (fs:List Off) (ls:List Line) (ks:List Cla) (hvc :
 let c1:=D.lt i (D.ilen ns);
 let c2:=nmAt (calNames cs ns) i;true=true∧(idx i (D.ilen cs)→(c1=true→D.ile (0:Int) i∧D.ilt i (D.ilen ns)∧D.get ns (D.nat i) (ByteArray.mk
 (D.nil UInt8).toArray)=c2∧True)∧(c1=false→ByteArray.mk (D.nil UInt8).toArray=c2∧True))) :
  evF (mkc K4) noAnn 104 [.dat I i,.ip N (cs,ns,os,fs,ls,ks)] [] ⟨idx i (D.ilen cs),.dat S (nmAt (calNames cs ns) i),[]⟩:=@of_eq _ _ (by kernel_rfl) hvc
theorem vc_nm2 (i:Int) (cs:LC) (ns os:LB) (fs:List Off) (ls:List Line) (ks:List Cla) (hvc :
 true=true∧(idx i (D.ilen os)→D.ile (0:Int) i∧D.ilt i (D.ilen os)∧D.get os (D.nat i) (ByteArray.mk (D.nil UInt8).toArray) =
 nmAt os i∧True)) :
  evF (mkc K4) noAnn 106 [.dat I i,.ip N (cs,ns,os,fs,ls,ks)] [] ⟨idx i (D.ilen os),.dat S (nmAt os i),[]⟩:=@of_eq _ _ (by kernel_rfl) hvc
theorem vc_gd2 (e1:ByteArray) (hvc :
 true=true∧(True→true=true∧True)) :
  evF (mkc K4) noAnn 108 [.agg [.dat .str e1]] [] ⟨True,.dat .bool true,[]⟩:=@of_eq _ _ (by kernel_rfl) hvc
theorem vc_nm3 (i:Int) (cs:LC) (ns os:LB) (fs:List Off) (ls:List Line) (ks:List Cla) (hvc :
 let c1:=D.ilen fs;true=true∧(idx i c1→D.ile (0:Int) i∧D.ilt i c1∧(D.get fs (D.nat i) (ByteArray.mk (D.nil UInt8).toArray,(0:Int),(0:Int),
 (0:Int),(0:Int),(0:Int),D.nil ByteArray)).fst=nmAt (offNames fs) i∧True)) :
  evF (mkc K4) noAnn 109 [.dat I i,.ip N (cs,ns,os,fs,ls,ks)] [] ⟨idx i (D.ilen fs),.dat S (nmAt (offNames fs) i),[]⟩:=@of_eq _ _ (by kernel_rfl) hvc
theorem vc_gd3 (cs:LC) (ns os:LB) (fs:List Off) (ls:List Line) (ks:List Cla) (e1:ByteArray) (e2 e3 e4 e5 e6:Int) (e7:List ByteArray) (hvc :
 let c1:=goodOff (cs,ns,os,fs,ls,ks) (e1,e2,e3,e4,e5,e6,e7);true=true∧(True→True∧c1=c1∧True)) :
  evF (mkc K4) noAnn 111 [.agg [.dat .str e1,.dat (.int .i64) e2,.dat (.int .i64) e3,.dat (.int .i64) e4,.dat (.int .i64) e5,.dat (.int .i64) e6,.dat (.sl .str) e7],.ip N (cs,ns,os,fs,ls,ks)] [] ⟨True,.dat .bool (goodOff (cs,ns,os,fs,ls,ks) (e1,e2,e3,e4,e5,e6,e7)),[]⟩:=@of_eq _ _ (by kernel_rfl) hvc
theorem vc_nm4 (i:Int) (cs:LC) (ns os:LB) (fs:List Off) (ls:List Line) (ks:List Cla) (hvc :
 let c1:=D.ilen ls;true=true∧(idx i c1→D.ile (0:Int) i∧D.ilt i c1∧(D.get ls (D.nat i) (ByteArray.mk (D.nil UInt8).toArray,(0:Int),(0:Int),
 (0:Int),(0:Int),(0:Int))).fst=nmAt (linNames ls) i∧True)) :
  evF (mkc K4) noAnn 113 [.dat I i,.ip N (cs,ns,os,fs,ls,ks)] [] ⟨idx i (D.ilen ls),.dat S (nmAt (linNames ls) i),[]⟩:=@of_eq _ _ (by kernel_rfl) hvc
theorem vc_gd4 (cs:LC) (ns os:LB) (fs:List Off) (ls:List Line) (ks:List Cla) (e1:ByteArray) (e2 e3 e4 e5 e6:Int) (hvc :
 let c1:=goodLin (cs,ns,os,fs,ls,ks) (e1,e2,e3,e4,e5,e6);true=true∧(True→True∧c1=c1∧True)) :
  evF (mkc K4) noAnn 115 [.agg [.dat .str e1,.dat (.int .i64) e2,.dat (.int .i64) e3,.dat (.int .i64) e4,.dat (.int .i64) e5,.dat (.int .i64) e6],.ip N (cs,ns,os,fs,ls,ks)] [] ⟨True,.dat .bool (goodLin (cs,ns,os,fs,ls,ks) (e1,e2,e3,e4,e5,e6)),[]⟩:=@of_eq _ _ (by kernel_rfl) hvc
theorem vc_nm5 (i:Int) (cs:LC) (ns os:LB) (fs:List Off) (ls:List Line) (ks:List Cla) (hvc :
 let c1:=D.ilen ks;true=true∧(idx i c1→D.ile (0:Int) i∧D.ilt i c1∧(D.get ks (D.nat i) (ByteArray.mk (D.nil UInt8).toArray,(0:Int),(0 :
 Int))).fst=nmAt (claNames ks) i∧True)) :
  evF (mkc K4) noAnn 117 [.dat I i,.ip N (cs,ns,os,fs,ls,ks)] [] ⟨idx i (D.ilen ks),.dat S (nmAt (claNames ks) i),[]⟩:=@of_eq _ _ (by kernel_rfl) hvc
theorem vc_gd5 (e1:ByteArray) (e2 e3:Int) (hvc :
 let c1:=fromF e2 (0:Int) (1439:Int);true=true∧(True→True∧(c1=true→c1=true→c1=true)∧(c1=true→c1=true→c1=true)∧(c1=true →
 True)∧(D.and true c1=true→c1=true)∧D.cnd c1 (fromF e3 (0:Int) (1439:Int)) false=goodCla (e1,e2,e3)∧True)) :
  evF (mkc K4) noAnn 119 [.agg [.dat .str e1,.dat (.int .i64) e2,.dat (.int .i64) e3]] [] ⟨True,.dat .bool (goodCla (e1,e2,e3)),[]⟩:=@of_eq _ _ (by kernel_rfl) hvc
def K5:Kt:=kOr 104 (dataK [.val I,.ptr N] (fun (i,(cs,ns,os,fs,ls,ks),_)=>idx i (D.ilen cs)) fun (i,(cs,ns,os,fs,ls,ks),_)=>.dat S (nmAt (calNames cs ns) i))
 (kOr 106 (dataK [.val I,.ptr N] (fun (i,(cs,ns,os,fs,ls,ks),_)=>idx i (D.ilen os)) fun (i,(cs,ns,os,fs,ls,ks),_)=>.dat S (nmAt (os) i))
 (kOr 108 (dataK [.row S] (fun _=>True) fun _=>.dat .bool true)
 (kOr 109 (dataK [.val I,.ptr N] (fun (i,(cs,ns,os,fs,ls,ks),_)=>idx i (D.ilen fs)) fun (i,(cs,ns,os,fs,ls,ks),_)=>.dat S (nmAt (offNames fs) i))
 (kOr 111 (dataK [.row Of,.ptr N] (fun _=>True) fun (o,n,_)=>.dat .bool (goodOff n o))
 (kOr 113 (dataK [.val I,.ptr N] (fun (i,(cs,ns,os,fs,ls,ks),_)=>idx i (D.ilen ls)) fun (i,(cs,ns,os,fs,ls,ks),_)=>.dat S (nmAt (linNames ls) i))
 (kOr 115 (dataK [.row Ln,.ptr N] (fun _=>True) fun (l,n,_)=>.dat .bool (goodLin n l))
 (kOr 117 (dataK [.val I,.ptr N] (fun (i,(cs,ns,os,fs,ls,ks),_)=>idx i (D.ilen ks)) fun (i,(cs,ns,os,fs,ls,ks),_)=>.dat S (nmAt (claNames ks) i))
 (kOr 119 (dataK [.row Kl] (fun _=>True) fun (k,_)=>.dat .bool (goodCla k)) K4))))))))
def twA (l:List ByteArray) (i:Int):Ann:=⟨fun id st=>match id with
 | 2=>some { α:=Int,inv:=fun k=>twTo l i k,st:=fun k=>put st [(6,.dat I k)],μ:=fun k=>D.nat (D.sub i k) }
 | _=>none,fun _ _=>none,fun _ _=>none⟩
theorem vc_r11 (i:Int) (cs:LC) (ns os:LB) (fs:List Off) (ls:List Line) (ks:List Cla) (hvc :
 let c1:=D.not (isNameF (nmAt (calNames cs ns) i));
 let c2:=rule1 (calNames cs ns) i;true=true∧(idx i (D.ilen cs)→idx i (D.ilen cs)∧True∧(c1=true→(1:Int)=c2∧True)∧(c1=false→(0:Int)
 = c2∧True))) :
  evF (mkc K5) noAnn 131 [.dat I i,.ipv (.fn 104 [.ip N (cs,ns,os,fs,ls,ks)])] [] ⟨idx i (D.ilen cs),.dat I (rule1 (calNames cs ns) i),[]⟩:=@of_eq _ _ (by kernel_rfl) hvc
theorem vc_r21 (i:Int) (cs:LC) (ns os:LB) (fs:List Off) (ls:List Line) (ks:List Cla) (hvc :
 let c1:=D.ilen cs;
 let c2:=(cs,ns,os,fs,ls,ks);
 let c3:=rule2 (calNames cs ns) i;true=true∧(idxS i c1→(∃ x,twTo (calNames cs ns) i x∧i=i∧c2=c2∧i=i∧(0:Int)=x∧True)∧∀ (x:Int),
 let c4:=D.sEq (nmAt (calNames cs ns) x) (nmAt (calNames cs ns) i);
 let c5:=D.add x (1:Int);twTo (calNames cs ns) i x→(D.lt x i=true→idx x c1∧idx i c1∧(c4=true→(4:Int)=c3∧True)∧(c4=false→inR
 IntKind.i64 c5∧∃ y,twTo (calNames cs ns) i y∧(i=i∧c2=c2∧i=i∧c5=y∧True)∧D.nlt (D.nat (D.sub i y)) (D.nat (D.sub i x))))∧(D.lt x i =
 false→(0:Int)=c3∧True))) :
  evF (mkc K5) (twA (calNames cs ns) i) 133 [.dat I i,.ipv (.fn 104 [.ip N (cs,ns,os,fs,ls,ks)])] [] ⟨idxS i (D.ilen cs),.dat I (rule2 (calNames cs ns) i),[]⟩:=@of_eq _ _ (by kernel_rfl) hvc
theorem vc_r31 (i:Int) (cs:LC) (ns os:LB) (fs:List Off) (ls:List Line) (ks:List Cla) (hvc :
 let c1:=D.ilen cs;
 let c2:=D.get cs (D.nat i) ((0:Int),D.nil Bool,D.nil Int);
 let c3:=c2.snd;
 let c4:=D.not (validF c2.fst c3.fst c3.snd);true=true∧(idx i c1→D.ile (0:Int) i∧D.ilt i c1∧True∧(c4=true→(1:Int)=rule3 (calGoods cs) i
 ∧ True)∧(c4=false→(0:Int)=rule3 (calGoods cs) i∧True))) :
  evF (mkc K5) noAnn 134 [.dat I i,.ipv (.fn 75 []),.ip (.sl C) cs] [] ⟨idx i (D.ilen cs),.dat I (rule3 (calGoods cs) i),[]⟩:=@of_eq _ _ (by kernel_rfl) hvc
theorem vc_r12 (i:Int) (cs:LC) (ns os:LB) (fs:List Off) (ls:List Line) (ks:List Cla) (hvc :
 let c1:=D.not (isNameF (nmAt os i));true=true∧(idx i (D.ilen os)→idx i (D.ilen os)∧True∧(c1=true→(1:Int)=rule1 os i∧True)∧(c1=false →
 (0:Int)=rule1 os i∧True))) :
  evF (mkc K5) noAnn 135 [.dat I i,.ipv (.fn 106 [.ip N (cs,ns,os,fs,ls,ks)])] [] ⟨idx i (D.ilen os),.dat I (rule1 (os) i),[]⟩:=@of_eq _ _ (by kernel_rfl) hvc
theorem vc_r22 (i:Int) (cs:LC) (ns os:LB) (fs:List Off) (ls:List Line) (ks:List Cla) (hvc :
 let c1:=(cs,ns,os,fs,ls,ks);true=true∧(idxS i (D.ilen os)→(∃ x,twTo os i x∧i=i∧c1=c1∧i=i∧(0:Int)=x∧True)∧∀ (x:Int),
 let c2:=D.sEq (nmAt os x) (nmAt os i);
 let c3:=D.add x (1:Int);twTo os i x→(D.lt x i=true→idx x (D.ilen os)∧idx i (D.ilen os)∧(c2=true→(4:Int)=rule2 os i∧True)∧(c2=false
 → inR IntKind.i64 c3∧∃ y,twTo os i y∧(i=i∧c1=c1∧i=i∧c3=y∧True)∧D.nlt (D.nat (D.sub i y)) (D.nat (D.sub i x))))∧(D.lt x i=false→(0
 : Int)=rule2 os i∧True))) :
  evF (mkc K5) (twA (os) i) 136 [.dat I i,.ipv (.fn 106 [.ip N (cs,ns,os,fs,ls,ks)])] [] ⟨idxS i (D.ilen os),.dat I (rule2 (os) i),[]⟩:=@of_eq _ _ (by kernel_rfl) hvc
theorem vc_r32 (i:Int) (cs:LC) (ns os:LB) (fs:List Off) (ls:List Line) (ks:List Cla) (hvc :
 true=true∧(idx i (D.ilen os)→D.ile (0:Int) i∧D.ilt i (D.ilen os)∧True∧(D.not true=true→(1:Int)=rule3 (opGoods
 os) i∧True)∧(D.not true=false→(0:Int)=rule3 (opGoods os) i∧True))) :
  evF (mkc K5) noAnn 137 [.dat I i,.ipv (.fn 108 []),.ip (.sl S) os] [] ⟨idx i (D.ilen os),.dat I (rule3 (opGoods os) i),[]⟩:=@of_eq _ _ (by kernel_rfl) hvc
theorem vc_r13 (i:Int) (cs:LC) (ns os:LB) (fs:List Off) (ls:List Line) (ks:List Cla) (hvc :
 let c1:=D.not (isNameF (nmAt (offNames fs) i));true=true∧(idx i (D.ilen fs)→idx i (D.ilen fs)∧True∧(c1=true→(1:Int)=rule1 (offNames fs) i ∧
 True)∧(c1=false→(0:Int)=rule1 (offNames fs) i∧True))) :
  evF (mkc K5) noAnn 138 [.dat I i,.ipv (.fn 109 [.ip N (cs,ns,os,fs,ls,ks)])] [] ⟨idx i (D.ilen fs),.dat I (rule1 (offNames fs) i),[]⟩:=@of_eq _ _ (by kernel_rfl) hvc
theorem vc_r23 (i:Int) (cs:LC) (ns os:LB) (fs:List Off) (ls:List Line) (ks:List Cla) (hvc :
 let c1:=D.ilen fs;
 let c2:=(cs,ns,os,fs,ls,ks);true=true∧(idxS i c1→(∃ x,twTo (offNames fs) i x∧i=i∧c2=c2∧i=i∧(0:Int)=x∧True)∧∀ (x:Int),
 let c3:=D.sEq (nmAt (offNames fs) x) (nmAt (offNames fs) i);
 let c4:=D.add x (1:Int);twTo (offNames fs) i x→(D.lt x i=true→idx x c1∧idx i c1∧(c3=true→(4:Int)=rule2 (offNames fs) i∧True)∧(c3 =
 false→inR IntKind.i64 c4∧∃ y,twTo (offNames fs) i y∧(i=i∧c2=c2∧i=i∧c4=y∧True)∧D.nlt (D.nat (D.sub i y)) (D.nat (D.sub i x))))∧(D.lt
 x i=false→(0:Int)=rule2 (offNames fs) i∧True))) :
  evF (mkc K5) (twA (offNames fs) i) 139 [.dat I i,.ipv (.fn 109 [.ip N (cs,ns,os,fs,ls,ks)])] [] ⟨idxS i (D.ilen fs),.dat I (rule2 (offNames fs) i),[]⟩:=@of_eq _ _ (by kernel_rfl) hvc
theorem vc_r33 (i:Int) (cs:LC) (ns os:LB) (fs:List Off) (ls:List Line) (ks:List Cla) (hvc :
 let c1:=D.ilen fs;
 let c2:=(cs,ns,os,fs,ls,ks);
 let c3:=D.get fs (D.nat i) (ByteArray.mk (D.nil UInt8).toArray,(0:Int),(0:Int),(0:Int),(0:Int),(0:Int),D.nil ByteArray);
 let c4:=c3.snd;
 let c5:=c4.snd;
 let c6:=c5.snd;
 let c7:=c6.snd;
 let c8:=c7.snd;
 let c9:=D.not (goodOff c2 (c3.fst,c4.fst,c5.fst,c6.fst,c7.fst,c8.fst,c8.snd));
 let c10:=rule3 (offGoods c2) i;true=true∧(idx i c1→D.ile (0:Int) i∧D.ilt i c1∧True∧(c9=true→(1:Int)=c10∧True)∧(c9=false→(0 :
 Int)=c10∧True))) :
  evF (mkc K5) noAnn 140 [.dat I i,.ipv (.fn 111 [.ip N (cs,ns,os,fs,ls,ks)]),.ip (.sl Of) fs] [] ⟨idx i (D.ilen fs),.dat I (rule3 (offGoods (cs,ns,os,fs,ls,ks)) i),[]⟩:=@of_eq _ _ (by kernel_rfl) hvc
theorem vc_r14 (i:Int) (cs:LC) (ns os:LB) (fs:List Off) (ls:List Line) (ks:List Cla) (hvc :
 let c1:=D.not (isNameF (nmAt (linNames ls) i));true=true∧(idx i (D.ilen ls)→idx i (D.ilen ls)∧True∧(c1=true→(1:Int)=rule1 (linNames ls) i ∧
 True)∧(c1=false→(0:Int)=rule1 (linNames ls) i∧True))) :
  evF (mkc K5) noAnn 145 [.dat I i,.ipv (.fn 113 [.ip N (cs,ns,os,fs,ls,ks)])] [] ⟨idx i (D.ilen ls),.dat I (rule1 (linNames ls) i),[]⟩:=@of_eq _ _ (by kernel_rfl) hvc
theorem vc_r24 (i:Int) (cs:LC) (ns os:LB) (fs:List Off) (ls:List Line) (ks:List Cla) (hvc :
 let c1:=D.ilen ls;
 let c2:=(cs,ns,os,fs,ls,ks);true=true∧(idxS i c1→(∃ x,twTo (linNames ls) i x∧i=i∧c2=c2∧i=i∧(0:Int)=x∧True)∧∀ (x:Int),
 let c3:=D.sEq (nmAt (linNames ls) x) (nmAt (linNames ls) i);
 let c4:=D.add x (1:Int);twTo (linNames ls) i x→(D.lt x i=true→idx x c1∧idx i c1∧(c3=true→(4:Int)=rule2 (linNames ls) i∧True)∧(c3 =
 false→inR IntKind.i64 c4∧∃ y,twTo (linNames ls) i y∧(i=i∧c2=c2∧i=i∧c4=y∧True)∧D.nlt (D.nat (D.sub i y)) (D.nat (D.sub i x))))∧(D.lt
 x i=false→(0:Int)=rule2 (linNames ls) i∧True))) :
  evF (mkc K5) (twA (linNames ls) i) 146 [.dat I i,.ipv (.fn 113 [.ip N (cs,ns,os,fs,ls,ks)])] [] ⟨idxS i (D.ilen ls),.dat I (rule2 (linNames ls) i),[]⟩:=@of_eq _ _ (by kernel_rfl) hvc
theorem vc_r34 (i:Int) (cs:LC) (ns os:LB) (fs:List Off) (ls:List Line) (ks:List Cla) (hvc :
 let c1:=D.ilen ls;
 let c2:=(cs,ns,os,fs,ls,ks);
 let c3:=D.get ls (D.nat i) (ByteArray.mk (D.nil UInt8).toArray,(0:Int),(0:Int),(0:Int),(0:Int),(0:Int));
 let c4:=c3.snd;
 let c5:=c4.snd;
 let c6:=c5.snd;
 let c7:=c6.snd;
 let c8:=D.not (goodLin c2 (c3.fst,c4.fst,c5.fst,c6.fst,c7.fst,c7.snd));
 let c9:=rule3 (linGoods c2) i;true=true∧(idx i c1→D.ile (0:Int) i∧D.ilt i c1∧True∧(c8=true→(1:Int)=c9∧True)∧(c8=false→(0:Int)
 = c9∧True))) :
  evF (mkc K5) noAnn 147 [.dat I i,.ipv (.fn 115 [.ip N (cs,ns,os,fs,ls,ks)]),.ip (.sl Ln) ls] [] ⟨idx i (D.ilen ls),.dat I (rule3 (linGoods (cs,ns,os,fs,ls,ks)) i),[]⟩:=@of_eq _ _ (by kernel_rfl) hvc
theorem vc_r15 (i:Int) (cs:LC) (ns os:LB) (fs:List Off) (ls:List Line) (ks:List Cla) (hvc :
 let c1:=D.not (isNameF (nmAt (claNames ks) i));true=true∧(idx i (D.ilen ks)→idx i (D.ilen ks)∧True∧(c1=true→(1:Int)=rule1 (claNames ks) i ∧
 True)∧(c1=false→(0:Int)=rule1 (claNames ks) i∧True))) :
  evF (mkc K5) noAnn 149 [.dat I i,.ipv (.fn 117 [.ip N (cs,ns,os,fs,ls,ks)])] [] ⟨idx i (D.ilen ks),.dat I (rule1 (claNames ks) i),[]⟩:=@of_eq _ _ (by kernel_rfl) hvc
theorem vc_r25 (i:Int) (cs:LC) (ns os:LB) (fs:List Off) (ls:List Line) (ks:List Cla) (hvc :
 let c1:=D.ilen ks;
 let c2:=(cs,ns,os,fs,ls,ks);true=true∧(idxS i c1→(∃ x,twTo (claNames ks) i x∧i=i∧c2=c2∧i=i∧(0:Int)=x∧True)∧∀ (x:Int),
 let c3:=D.sEq (nmAt (claNames ks) x) (nmAt (claNames ks) i);
 let c4:=D.add x (1:Int);twTo (claNames ks) i x→(D.lt x i=true→idx x c1∧idx i c1∧(c3=true→(4:Int)=rule2 (claNames ks) i∧True)∧(c3 =
 false→inR IntKind.i64 c4∧∃ y,twTo (claNames ks) i y∧(i=i∧c2=c2∧i=i∧c4=y∧True)∧D.nlt (D.nat (D.sub i y)) (D.nat (D.sub i x))))∧(D.lt
 x i=false→(0:Int)=rule2 (claNames ks) i∧True))) :
  evF (mkc K5) (twA (claNames ks) i) 150 [.dat I i,.ipv (.fn 117 [.ip N (cs,ns,os,fs,ls,ks)])] [] ⟨idxS i (D.ilen ks),.dat I (rule2 (claNames ks) i),[]⟩:=@of_eq _ _ (by kernel_rfl) hvc
theorem vc_r35 (i:Int) (cs:LC) (ns os:LB) (fs:List Off) (ls:List Line) (ks:List Cla) (hvc :
 let c1:=D.ilen ks;
 let c2:=D.get ks (D.nat i) (ByteArray.mk (D.nil UInt8).toArray,(0:Int),(0:Int));
 let c3:=c2.snd;
 let c4:=D.not (goodCla (c2.fst,c3.fst,c3.snd));true=true∧(idx i c1→D.ile (0:Int) i∧D.ilt i c1∧True∧(c4=true→(1:Int)=rule3 (claGoods
 ks) i∧True)∧(c4=false→(0:Int)=rule3 (claGoods ks) i∧True))) :
  evF (mkc K5) noAnn 151 [.dat I i,.ipv (.fn 119 []),.ip (.sl Kl) ks] [] ⟨idx i (D.ilen ks),.dat I (rule3 (claGoods ks) i),[]⟩:=@of_eq _ _ (by kernel_rfl) hvc
def K6:Kt :=
 kOr 131 (dataK [.val I,.fnp 104 N] (fun (i,(cs,ns,os,fs,ls,ks),_)=>idx i (D.ilen cs)) fun (i,(cs,ns,os,fs,ls,ks),_)=>.dat I (rule1 (calNames cs ns) i)) <|
 kOr 133 (dataK [.val I,.fnp 104 N] (fun (i,(cs,ns,os,fs,ls,ks),_)=>idxS i (D.ilen cs)) fun (i,(cs,ns,os,fs,ls,ks),_)=>.dat I (rule2 (calNames cs ns) i)) <|
 kOr 134 (dataK [.val I,.fnp0 75,.ptr (.sl C)] (fun (i,_,cs,_)=>idx i (D.ilen cs)) fun (i,_,cs,_)=>.dat I (rule3 (calGoods cs) i)) <|
 kOr 135 (dataK [.val I,.fnp 106 N] (fun (i,(cs,ns,os,fs,ls,ks),_)=>idx i (D.ilen os)) fun (i,(cs,ns,os,fs,ls,ks),_)=>.dat I (rule1 (os) i)) <|
 kOr 136 (dataK [.val I,.fnp 106 N] (fun (i,(cs,ns,os,fs,ls,ks),_)=>idxS i (D.ilen os)) fun (i,(cs,ns,os,fs,ls,ks),_)=>.dat I (rule2 (os) i)) <|
 kOr 137 (dataK [.val I,.fnp0 108,.ptr (.sl S)] (fun (i,_,os,_)=>idx i (D.ilen os)) fun (i,_,os,_)=>.dat I (rule3 (opGoods os) i)) <|
 kOr 138 (dataK [.val I,.fnp 109 N] (fun (i,(cs,ns,os,fs,ls,ks),_)=>idx i (D.ilen fs)) fun (i,(cs,ns,os,fs,ls,ks),_)=>.dat I (rule1 (offNames fs) i)) <|
 kOr 139 (dataK [.val I,.fnp 109 N] (fun (i,(cs,ns,os,fs,ls,ks),_)=>idxS i (D.ilen fs)) fun (i,(cs,ns,os,fs,ls,ks),_)=>.dat I (rule2 (offNames fs) i)) <|
 kOr 140 (dataK [.val I,.fnp 111 N,.ptr (.sl Of)] (fun (i,(cs,ns,os,fs,ls,ks),xs,_)=>idx i (D.ilen fs)∧xs=fs) fun (i,(cs,ns,os,fs,ls,ks),_,_)=>.dat I (rule3 (offGoods (cs,ns,os,fs,ls,ks)) i)) <|
 kOr 145 (dataK [.val I,.fnp 113 N] (fun (i,(cs,ns,os,fs,ls,ks),_)=>idx i (D.ilen ls)) fun (i,(cs,ns,os,fs,ls,ks),_)=>.dat I (rule1 (linNames ls) i)) <|
 kOr 146 (dataK [.val I,.fnp 113 N] (fun (i,(cs,ns,os,fs,ls,ks),_)=>idxS i (D.ilen ls)) fun (i,(cs,ns,os,fs,ls,ks),_)=>.dat I (rule2 (linNames ls) i)) <|
 kOr 147 (dataK [.val I,.fnp 115 N,.ptr (.sl Ln)] (fun (i,(cs,ns,os,fs,ls,ks),xs,_)=>idx i (D.ilen ls)∧xs=ls) fun (i,(cs,ns,os,fs,ls,ks),_,_)=>.dat I (rule3 (linGoods (cs,ns,os,fs,ls,ks)) i)) <|
 kOr 149 (dataK [.val I,.fnp 117 N] (fun (i,(cs,ns,os,fs,ls,ks),_)=>idx i (D.ilen ks)) fun (i,(cs,ns,os,fs,ls,ks),_)=>.dat I (rule1 (claNames ks) i)) <|
 kOr 150 (dataK [.val I,.fnp 117 N] (fun (i,(cs,ns,os,fs,ls,ks),_)=>idxS i (D.ilen ks)) fun (i,(cs,ns,os,fs,ls,ks),_)=>.dat I (rule2 (claNames ks) i)) <|
 kOr 151 (dataK [.val I,.fnp0 119,.ptr (.sl Kl)] (fun (i,_,ks,_)=>idx i (D.ilen ks)) fun (i,_,ks,_)=>.dat I (rule3 (claGoods ks) i)) <|
 K5
def checkA (kind lim:Int) (l:List ByteArray) (g:List Bool):Ann:=⟨fun id st=>match id with
 | 4=>some { α:=Int,inv:=fun k=>kindUp k (D.ilen l) lim,st:=fun k=>putM (put st [(25,.dat I k),(12,.buf 100 (D.len (kindTo kind l g k)))]) 100 (.buf 118 Fa (kindTo kind l g k) []),μ:=fun k=>D.nat (D.sub lim k) }
 | 7=>match st.sig.T 13 with
  | .dat (.int .i64) i=>some { α:=Int,inv:=fun k=>rulesTo l g i k,st:=fun k=>put st [(29,.dat I k),(12,.buf 100 (D.len (kindTo kind l g i)))],μ:=fun k=>D.nat (D.sub 3 k) }
  | _=>none
 | _=>none,fun _ _=>none,fun _ _=>none⟩
theorem vc_ck1 (cs:LC) (ns os:LB) (fs:List Off) (ls:List Line) (ks:List Cla) (hvc :
 let c1:=(cs,ns,os,fs,ls,ks);
 let c2:=D.ilen cs;
 let c3:=D.mn c2 (6:Int);
 let c4:=D.gt c2 (6:Int);
 let c5:=[((1:Int),(6:Int),(2:Int))];
 let c6:=kindF (1:Int) (6:Int) (calNames cs ns) (calGoods cs);true=true∧(True→1=1∧0=0∧(∃ x,
 let c7:=kindTo (1:Int) (calNames cs ns) (calGoods cs) x;kindUp x (D.ilen (calNames cs ns)) (6:Int)∧(1:Int)=(1:Int)∧(6:Int)=(6:Int)∧cs =
 cs∧c1=c1∧cs=cs∧c1=c1∧Value.slice none (0) (0)=Value.slice none (0) (0)∧1=1∧0=0∧0=0∧D.len c7=0∧c7=D.nil (Int×Int×Int) ∧
 c1=c1∧c1=c1∧cs=cs∧c1=c1∧c1=c1∧cs=cs∧cs=cs∧c2=c2∧(6:Int)=(6:Int)∧c3=c3∧(0:Int)=x∧c1=c1∧c1=c1∧cs=cs ∧
 c7=D.nil (Int×Int×Int)∧True)∧∀ (x:Int),
 let c8:=D.ilen (calNames cs ns);
 let c9:=kindTo (1:Int) (calNames cs ns) (calGoods cs) x;
 let c10:=D.len c9;
 let c11:=[rule1 (calNames cs ns) x,rule2 (calNames cs ns) x,rule3 (calGoods cs) x];
 let c12:=D.add x (1:Int);
 let c13:=D.nadd c10 (D.len c5);
 let c14:=D.app c9 c5;kindUp x c8 (6:Int)→(D.lt x c3=true→1=1∧0=0∧(∃ x_3,rulesTo (calNames cs ns) (calGoods cs) x x_3∧(1:Int)=(1:Int)
 ∧ (6:Int)=(6:Int)∧cs=cs∧c1=c1∧cs=cs∧c1=c1∧Value.slice none (0) (0)=Value.slice none (0) (0)∧1=1∧0=0∧0=0∧c10=c10∧x =
 x∧c1=c1∧c1=c1∧cs=cs∧c1=c1∧c1=c1∧cs=cs∧cs=cs∧c2=c2∧(6:Int)=(6:Int)∧c3=c3∧x=x∧D.lt x c3=D.lt x c3∧x=x ∧
 c1=c1∧c1=c1∧cs=cs∧(0:Int)=x_3∧c1=c1∧c1=c1∧cs=cs∧c9=c9∧True)∧∀ (x_3:Int),
 let c15:=D.lt x_3 (3:Int);
 let c16:=D.get c11 (D.nat x_3) (0:Int);
 let c17:=D.ne c16 (0:Int);
 let c18:=[((1:Int),x,c16)];
 let c19:=D.nadd c10 (D.len c18);
 let c20:=D.add x_3 (1:Int);rulesTo (calNames cs ns) (calGoods cs) x x_3→(c15=true→D.ile (0:Int) x_3∧D.ilt x_3 (D.ofN (3))∧(D.nat x_3=0→idx
 x c2)∧(D.nat x_3=1→idxS x c2)∧(D.nat x_3=2→idx x c2)∧(c17=true→c10=c10∧D.nle (D.nmul c19 (24)) (140737488355328)∧D.nle c19
 (9223372036854775807)∧inR IntKind.i64 c12∧∃ y,
 let c21:=kindTo (1:Int) (calNames cs ns) (calGoods cs) y;kindUp y c8 (6:Int)∧((1:Int)=(1:Int)∧(6:Int)=(6:Int)∧cs=cs∧c1=c1∧cs =
 cs∧c1=c1∧Value.slice none (0) (0)=Value.slice none (0) (0)∧1=1∧0=0∧0=0∧c19=D.len c21∧c1=c1∧c1=c1∧cs=cs∧c1=c1∧c1=c1
 ∧ cs=cs∧cs=cs∧c2=c2∧(6:Int)=(6:Int)∧c3=c3∧c12=y∧c1=c1∧c1=c1∧cs=cs∧D.app c9 c18=c21∧True)∧D.nlt (D.nat (D.sub (6 :
 Int) y)) (D.nat (D.sub (6:Int) x)))∧(c17=false→inR IntKind.i64 c20∧∃ y,rulesTo (calNames cs ns) (calGoods cs) x y∧((1:Int)=(1:Int)∧(6 :
 Int)=(6:Int)∧cs=cs∧c1=c1∧cs=cs∧c1=c1∧Value.slice none (0) (0)=Value.slice none (0) (0)∧1=1∧0=0∧0=0∧c10=c10∧x=x∧c1
 = c1∧c1=c1∧cs=cs∧c1=c1∧c1=c1∧cs=cs∧cs=cs∧c2=c2∧(6:Int)=(6:Int)∧c3=c3∧x=x∧D.lt x c3=D.lt x c3∧x=x∧c1=c1
 ∧ c1=c1∧cs=cs∧c20=y∧c1=c1∧c1=c1∧cs=cs∧c9=c9∧True)∧D.nlt (D.nat (D.sub (3:Int) y)) (D.nat (D.sub (3:Int) x_3))))∧(c15 =
 false→inR IntKind.i64 c12∧∃ y,
 let c22:=kindTo (1:Int) (calNames cs ns) (calGoods cs) y;kindUp y c8 (6:Int)∧((1:Int)=(1:Int)∧(6:Int)=(6:Int)∧cs=cs∧c1=c1∧cs =
 cs∧c1=c1∧Value.slice none (0) (0)=Value.slice none (0) (0)∧1=1∧0=0∧0=0∧c10=D.len c22∧c1=c1∧c1=c1∧cs=cs∧c1=c1∧c1=c1
 ∧ cs=cs∧cs=cs∧c2=c2∧(6:Int)=(6:Int)∧c3=c3∧c12=y∧c1=c1∧c1=c1∧cs=cs∧c9=c22∧True)∧D.nlt (D.nat (D.sub (6:Int) y))
 (D.nat (D.sub (6:Int) x))))∧(D.lt x c3=false→(c4=true→c10=c10∧D.nle (D.nmul c13 (24)) (140737488355328)∧D.nle c13 (9223372036854775807) ∧
 D.len c14=c13∧c14=c6∧True)∧(c4=false→c10=c10∧c9=c6∧True)))) :
  evF (mkc K6) (checkA 1 6 (calNames cs ns) (calGoods cs)) 105 [.dat I 1,.dat I 6,.dat (.sl C) cs,.fn 104 [.ip N (cs,ns,os,fs,ls,ks)],.fn 75 []] [] ⟨True,.dat (.sl Fa) (kindF 1 6 (calNames cs ns) (calGoods cs)),[]⟩:=@of_eq _ _ (by kernel_rfl) hvc
theorem vc_ck2 (cs:LC) (ns os:LB) (fs:List Off) (ls:List Line) (ks:List Cla) (hvc :
 let c1:=(cs,ns,os,fs,ls,ks);
 let c2:=D.mn (D.ilen os) (6:Int);
 let c3:=D.gt (D.ilen os) (6:Int);
 let c4:=[((2:Int),(6:Int),(2:Int))];
 let c5:=kindF (2:Int) (6:Int) os (opGoods os);true=true∧(True→1=1∧0=0∧(∃ x,
 let c6:=kindTo (2:Int) os (opGoods os) x;kindUp x (D.ilen os) (6:Int)∧(2:Int)=(2:Int)∧(6:Int)=(6:Int)∧os=os∧c1=c1∧os=os∧c1
 = c1∧Value.slice none (0) (0)=Value.slice none (0) (0)∧1=1∧0=0∧0=0∧D.len c6=0∧c6=D.nil (Int×Int×Int)∧c1=c1∧c1=c1∧os=os
 ∧ c1=c1∧c1=c1∧os=os∧os=os∧D.ilen os=D.ilen os∧(6:Int)=(6:Int)∧c2=c2∧(0:Int)=x∧c1=c1∧c1=c1∧os=os∧c6=D.nil
 (Int×Int×Int)∧True)∧∀ (x:Int),
 let c7:=kindTo (2:Int) os (opGoods os) x;
 let c8:=D.len c7;
 let c9:=[rule1 os x,rule2 os x,rule3 (opGoods os) x];
 let c10:=D.add x (1:Int);
 let c11:=D.nadd c8 (D.len c4);
 let c12:=D.app c7 c4;kindUp x (D.ilen os) (6:Int)→(D.lt x c2=true→1=1∧0=0∧(∃ x_3,rulesTo os (opGoods os) x x_3∧(2:Int)=(2:Int)∧(6
 : Int)=(6:Int)∧os=os∧c1=c1∧os=os∧c1=c1∧Value.slice none (0) (0)=Value.slice none (0) (0)∧1=1∧0=0∧0=0∧c8=c8∧x=x∧c1
 = c1∧c1=c1∧os=os∧c1=c1∧c1=c1∧os=os∧os=os∧D.ilen os=D.ilen os∧(6:Int)=(6:Int)∧c2=c2∧x=x∧D.lt x c2=D.lt x c2∧x
 = x∧c1=c1∧c1=c1∧os=os∧(0:Int)=x_3∧c1=c1∧c1=c1∧os=os∧c7=c7∧True)∧∀ (x_3:Int),
 let c13:=D.lt x_3 (3:Int);
 let c14:=D.get c9 (D.nat x_3) (0:Int);
 let c15:=D.ne c14 (0:Int);
 let c16:=[((2:Int),x,c14)];
 let c17:=D.nadd c8 (D.len c16);
 let c18:=D.add x_3 (1:Int);rulesTo os (opGoods os) x x_3→(c13=true→D.ile (0:Int) x_3∧D.ilt x_3 (D.ofN (3))∧(D.nat x_3=0→idx x (D.ilen os))
 ∧ (D.nat x_3=1→idxS x (D.ilen os))∧(D.nat x_3=2→idx x (D.ilen os))∧(c15=true→c8=c8∧D.nle (D.nmul c17 (24)) (140737488355328)∧D.nle c17
 (9223372036854775807)∧inR IntKind.i64 c10∧∃ y,
 let c19:=kindTo (2:Int) os (opGoods os) y;kindUp y (D.ilen os) (6:Int)∧((2:Int)=(2:Int)∧(6:Int)=(6:Int)∧os=os∧c1=c1∧os=os ∧
 c1=c1∧Value.slice none (0) (0)=Value.slice none (0) (0)∧1=1∧0=0∧0=0∧c17=D.len c19∧c1=c1∧c1=c1∧os=os∧c1=c1∧c1=c1∧os
 = os∧os=os∧D.ilen os=D.ilen os∧(6:Int)=(6:Int)∧c2=c2∧c10=y∧c1=c1∧c1=c1∧os=os∧D.app c7 c16=c19∧True)∧D.nlt (D.nat
 (D.sub (6:Int) y)) (D.nat (D.sub (6:Int) x)))∧(c15=false→inR IntKind.i64 c18∧∃ y,rulesTo os (opGoods os) x y∧((2:Int)=(2:Int)∧(6:Int)
 = (6:Int)∧os=os∧c1=c1∧os=os∧c1=c1∧Value.slice none (0) (0)=Value.slice none (0) (0)∧1=1∧0=0∧0=0∧c8=c8∧x=x∧c1=c1 ∧
 c1=c1∧os=os∧c1=c1∧c1=c1∧os=os∧os=os∧D.ilen os=D.ilen os∧(6:Int)=(6:Int)∧c2=c2∧x=x∧D.lt x c2=D.lt x c2∧x=x ∧
 c1=c1∧c1=c1∧os=os∧c18=y∧c1=c1∧c1=c1∧os=os∧c7=c7∧True)∧D.nlt (D.nat (D.sub (3:Int) y)) (D.nat (D.sub (3:Int) x_3)))) ∧
 (c13=false→inR IntKind.i64 c10∧∃ y,
 let c20:=kindTo (2:Int) os (opGoods os) y;kindUp y (D.ilen os) (6:Int)∧((2:Int)=(2:Int)∧(6:Int)=(6:Int)∧os=os∧c1=c1∧os=os ∧
 c1=c1∧Value.slice none (0) (0)=Value.slice none (0) (0)∧1=1∧0=0∧0=0∧c8=D.len c20∧c1=c1∧c1=c1∧os=os∧c1=c1∧c1=c1∧os =
 os∧os=os∧D.ilen os=D.ilen os∧(6:Int)=(6:Int)∧c2=c2∧c10=y∧c1=c1∧c1=c1∧os=os∧c7=c20∧True)∧D.nlt (D.nat (D.sub (6 :
 Int) y)) (D.nat (D.sub (6:Int) x))))∧(D.lt x c2=false→(c3=true→c8=c8∧D.nle (D.nmul c11 (24)) (140737488355328)∧D.nle c11
 (9223372036854775807)∧D.len c12=c11∧c12=c5∧True)∧(c3=false→c8=c8∧c7=c5∧True)))) :
  evF (mkc K6) (checkA 2 6 (os) (opGoods os)) 107 [.dat I 2,.dat I 6,.dat (.sl S) os,.fn 106 [.ip N (cs,ns,os,fs,ls,ks)],.fn 108 []] [] ⟨True,.dat (.sl Fa) (kindF 2 6 (os) (opGoods os)),[]⟩:=@of_eq _ _ (by kernel_rfl) hvc
theorem vc_ck3 (cs:LC) (ns os:LB) (fs:List Off) (ls:List Line) (ks:List Cla) (hvc :
 let c1:=(cs,ns,os,fs,ls,ks);
 let c2:=offGoods c1;
 let c3:=D.ilen fs;
 let c4:=D.mn c3 (12:Int);
 let c5:=D.gt c3 (12:Int);
 let c6:=[((3:Int),(12:Int),(2:Int))];
 let c7:=kindF (3:Int) (12:Int) (offNames fs) c2;true=true∧(True→1=1∧0=0∧(∃ x,
 let c8:=kindTo (3:Int) (offNames fs) c2 x;kindUp x (D.ilen (offNames fs)) (12:Int)∧(3:Int)=(3:Int)∧(12:Int)=(12:Int)∧fs=fs∧c1=c1
 ∧ c1=c1∧fs=fs∧c1=c1∧c1=c1∧Value.slice none (0) (0)=Value.slice none (0) (0)∧1=1∧0=0∧0=0∧D.len c8=0∧c8=D.nil (Int×Int ×
 Int)∧c1=c1∧c1=c1∧c1=c1∧fs=fs∧c1=c1∧c1=c1∧c1=c1∧fs=fs∧fs=fs∧c3=c3∧(12:Int)=(12:Int)∧c4=c4∧(0:Int)=x ∧
 c1=c1∧c1=c1∧c1=c1∧fs=fs∧c8=D.nil (Int×Int×Int)∧True)∧∀ (x:Int),
 let c9:=kindTo (3:Int) (offNames fs) c2 x;
 let c10:=D.len c9;
 let c11:=[rule1 (offNames fs) x,rule2 (offNames fs) x,rule3 c2 x];
 let c12:=D.add x (1:Int);
 let c13:=D.nadd c10 (D.len c6);
 let c14:=D.app c9 c6;kindUp x (D.ilen (offNames fs)) (12:Int)→(D.lt x c4=true→1=1∧0=0∧(∃ x_3,rulesTo (offNames fs) c2 x x_3∧(3:Int)=(3
 : Int)∧(12:Int)=(12:Int)∧fs=fs∧c1=c1∧c1=c1∧fs=fs∧c1=c1∧c1=c1∧Value.slice none (0) (0)=Value.slice none (0) (0)∧1=1∧0
 = 0∧0=0∧c10=c10∧x=x∧c1=c1∧c1=c1∧c1=c1∧fs=fs∧c1=c1∧c1=c1∧c1=c1∧fs=fs∧fs=fs∧c3=c3∧(12:Int)=(12:Int) ∧
 c4=c4∧x=x∧D.lt x c4=D.lt x c4∧x=x∧c1=c1∧c1=c1∧c1=c1∧fs=fs∧(0:Int)=x_3∧c1=c1∧c1=c1∧c1=c1∧fs=fs∧c9=c9 ∧
 True)∧∀ (x_3:Int),
 let c15:=D.lt x_3 (3:Int);
 let c16:=D.get c11 (D.nat x_3) (0:Int);
 let c17:=D.ne c16 (0:Int);
 let c18:=[((3:Int),x,c16)];
 let c19:=D.nadd c10 (D.len c18);
 let c20:=D.add x_3 (1:Int);rulesTo (offNames fs) c2 x x_3→(c15=true→D.ile (0:Int) x_3∧D.ilt x_3 (D.ofN (3))∧(D.nat x_3=0→idx x c3)∧(D.nat
 x_3=1→idxS x c3)∧(D.nat x_3=2→idx x c3∧fs=fs)∧(c17=true→c10=c10∧D.nle (D.nmul c19 (24)) (140737488355328)∧D.nle c19
 (9223372036854775807)∧inR IntKind.i64 c12∧∃ y,
 let c21:=kindTo (3:Int) (offNames fs) c2 y;kindUp y (D.ilen (offNames fs)) (12:Int)∧((3:Int)=(3:Int)∧(12:Int)=(12:Int)∧fs=fs∧c1 =
 c1∧c1=c1∧fs=fs∧c1=c1∧c1=c1∧Value.slice none (0) (0)=Value.slice none (0) (0)∧1=1∧0=0∧0=0∧c19=D.len c21∧c1=c1∧c1=c1
 ∧ c1=c1∧fs=fs∧c1=c1∧c1=c1∧c1=c1∧fs=fs∧fs=fs∧c3=c3∧(12:Int)=(12:Int)∧c4=c4∧c12=y∧c1=c1∧c1=c1∧c1=c1 ∧
 fs=fs∧D.app c9 c18=c21∧True)∧D.nlt (D.nat (D.sub (12:Int) y)) (D.nat (D.sub (12:Int) x)))∧(c17=false→inR IntKind.i64 c20∧∃ y,rulesTo
 (offNames fs) c2 x y∧((3:Int)=(3:Int)∧(12:Int)=(12:Int)∧fs=fs∧c1=c1∧c1=c1∧fs=fs∧c1=c1∧c1=c1∧Value.slice none (0) (0)
 = Value.slice none (0) (0)∧1=1∧0=0∧0=0∧c10=c10∧x=x∧c1=c1∧c1=c1∧c1=c1∧fs=fs∧c1=c1∧c1=c1∧c1=c1∧fs=fs∧fs =
 fs∧c3=c3∧(12:Int)=(12:Int)∧c4=c4∧x=x∧D.lt x c4=D.lt x c4∧x=x∧c1=c1∧c1=c1∧c1=c1∧fs=fs∧c20=y∧c1=c1∧c1=c1
 ∧ c1=c1∧fs=fs∧c9=c9∧True)∧D.nlt (D.nat (D.sub (3:Int) y)) (D.nat (D.sub (3:Int) x_3))))∧(c15=false→inR IntKind.i64 c12∧∃ y,
 let c22:=kindTo (3:Int) (offNames fs) c2 y;kindUp y (D.ilen (offNames fs)) (12:Int)∧((3:Int)=(3:Int)∧(12:Int)=(12:Int)∧fs=fs∧c1 =
 c1∧c1=c1∧fs=fs∧c1=c1∧c1=c1∧Value.slice none (0) (0)=Value.slice none (0) (0)∧1=1∧0=0∧0=0∧c10=D.len c22∧c1=c1∧c1=c1
 ∧ c1=c1∧fs=fs∧c1=c1∧c1=c1∧c1=c1∧fs=fs∧fs=fs∧c3=c3∧(12:Int)=(12:Int)∧c4=c4∧c12=y∧c1=c1∧c1=c1∧c1=c1 ∧
 fs=fs∧c9=c22∧True)∧D.nlt (D.nat (D.sub (12:Int) y)) (D.nat (D.sub (12:Int) x))))∧(D.lt x c4=false→(c5=true→c10=c10∧D.nle (D.nmul
 c13 (24)) (140737488355328)∧D.nle c13 (9223372036854775807)∧D.len c14=c13∧c14=c7∧True)∧(c5=false→c10=c10∧c9=c7∧True)))) :
  evF (mkc K6) (checkA 3 12 (offNames fs) (offGoods (cs,ns,os,fs,ls,ks))) 110 [.dat I 3,.dat I 12,.dat (.sl Of) fs,.fn 109 [.ip N (cs,ns,os,fs,ls,ks)],.fn 111 [.ip N (cs,ns,os,fs,ls,ks)]] [] ⟨True,.dat (.sl Fa) (kindF 3 12 (offNames fs) (offGoods (cs,ns,os,fs,ls,ks))),[]⟩:=@of_eq _ _ (by kernel_rfl) hvc
theorem vc_ck4 (cs:LC) (ns os:LB) (fs:List Off) (ls:List Line) (ks:List Cla) (hvc :
 let c1:=(cs,ns,os,fs,ls,ks);
 let c2:=linGoods c1;
 let c3:=D.ilen ls;
 let c4:=D.mn c3 (40:Int);
 let c5:=D.gt c3 (40:Int);
 let c6:=[((4:Int),(40:Int),(2:Int))];
 let c7:=kindF (4:Int) (40:Int) (linNames ls) c2;true=true∧(True→1=1∧0=0∧(∃ x,
 let c8:=kindTo (4:Int) (linNames ls) c2 x;kindUp x (D.ilen (linNames ls)) (40:Int)∧(4:Int)=(4:Int)∧(40:Int)=(40:Int)∧ls=ls∧c1=c1
 ∧ c1=c1∧ls=ls∧c1=c1∧c1=c1∧Value.slice none (0) (0)=Value.slice none (0) (0)∧1=1∧0=0∧0=0∧D.len c8=0∧c8=D.nil (Int×Int ×
 Int)∧c1=c1∧c1=c1∧c1=c1∧ls=ls∧c1=c1∧c1=c1∧c1=c1∧ls=ls∧ls=ls∧c3=c3∧(40:Int)=(40:Int)∧c4=c4∧(0:Int)=x ∧
 c1=c1∧c1=c1∧c1=c1∧ls=ls∧c8=D.nil (Int×Int×Int)∧True)∧∀ (x:Int),
 let c9:=kindTo (4:Int) (linNames ls) c2 x;
 let c10:=D.len c9;
 let c11:=[rule1 (linNames ls) x,rule2 (linNames ls) x,rule3 c2 x];
 let c12:=D.add x (1:Int);
 let c13:=D.nadd c10 (D.len c6);
 let c14:=D.app c9 c6;kindUp x (D.ilen (linNames ls)) (40:Int)→(D.lt x c4=true→1=1∧0=0∧(∃ x_3,rulesTo (linNames ls) c2 x x_3∧(4:Int)=(4
 : Int)∧(40:Int)=(40:Int)∧ls=ls∧c1=c1∧c1=c1∧ls=ls∧c1=c1∧c1=c1∧Value.slice none (0) (0)=Value.slice none (0) (0)∧1=1∧0
 = 0∧0=0∧c10=c10∧x=x∧c1=c1∧c1=c1∧c1=c1∧ls=ls∧c1=c1∧c1=c1∧c1=c1∧ls=ls∧ls=ls∧c3=c3∧(40:Int)=(40:Int) ∧
 c4=c4∧x=x∧D.lt x c4=D.lt x c4∧x=x∧c1=c1∧c1=c1∧c1=c1∧ls=ls∧(0:Int)=x_3∧c1=c1∧c1=c1∧c1=c1∧ls=ls∧c9=c9 ∧
 True)∧∀ (x_3:Int),
 let c15:=D.lt x_3 (3:Int);
 let c16:=D.get c11 (D.nat x_3) (0:Int);
 let c17:=D.ne c16 (0:Int);
 let c18:=[((4:Int),x,c16)];
 let c19:=D.nadd c10 (D.len c18);
 let c20:=D.add x_3 (1:Int);rulesTo (linNames ls) c2 x x_3→(c15=true→D.ile (0:Int) x_3∧D.ilt x_3 (D.ofN (3))∧(D.nat x_3=0→idx x c3)∧(D.nat
 x_3=1→idxS x c3)∧(D.nat x_3=2→idx x c3∧ls=ls)∧(c17=true→c10=c10∧D.nle (D.nmul c19 (24)) (140737488355328)∧D.nle c19
 (9223372036854775807)∧inR IntKind.i64 c12∧∃ y,
 let c21:=kindTo (4:Int) (linNames ls) c2 y;kindUp y (D.ilen (linNames ls)) (40:Int)∧((4:Int)=(4:Int)∧(40:Int)=(40:Int)∧ls=ls∧c1 =
 c1∧c1=c1∧ls=ls∧c1=c1∧c1=c1∧Value.slice none (0) (0)=Value.slice none (0) (0)∧1=1∧0=0∧0=0∧c19=D.len c21∧c1=c1∧c1=c1
 ∧ c1=c1∧ls=ls∧c1=c1∧c1=c1∧c1=c1∧ls=ls∧ls=ls∧c3=c3∧(40:Int)=(40:Int)∧c4=c4∧c12=y∧c1=c1∧c1=c1∧c1=c1 ∧
 ls=ls∧D.app c9 c18=c21∧True)∧D.nlt (D.nat (D.sub (40:Int) y)) (D.nat (D.sub (40:Int) x)))∧(c17=false→inR IntKind.i64 c20∧∃ y,rulesTo
 (linNames ls) c2 x y∧((4:Int)=(4:Int)∧(40:Int)=(40:Int)∧ls=ls∧c1=c1∧c1=c1∧ls=ls∧c1=c1∧c1=c1∧Value.slice none (0) (0)
 = Value.slice none (0) (0)∧1=1∧0=0∧0=0∧c10=c10∧x=x∧c1=c1∧c1=c1∧c1=c1∧ls=ls∧c1=c1∧c1=c1∧c1=c1∧ls=ls∧ls =
 ls∧c3=c3∧(40:Int)=(40:Int)∧c4=c4∧x=x∧D.lt x c4=D.lt x c4∧x=x∧c1=c1∧c1=c1∧c1=c1∧ls=ls∧c20=y∧c1=c1∧c1=c1
 ∧ c1=c1∧ls=ls∧c9=c9∧True)∧D.nlt (D.nat (D.sub (3:Int) y)) (D.nat (D.sub (3:Int) x_3))))∧(c15=false→inR IntKind.i64 c12∧∃ y,
 let c22:=kindTo (4:Int) (linNames ls) c2 y;kindUp y (D.ilen (linNames ls)) (40:Int)∧((4:Int)=(4:Int)∧(40:Int)=(40:Int)∧ls=ls∧c1 =
 c1∧c1=c1∧ls=ls∧c1=c1∧c1=c1∧Value.slice none (0) (0)=Value.slice none (0) (0)∧1=1∧0=0∧0=0∧c10=D.len c22∧c1=c1∧c1=c1
 ∧ c1=c1∧ls=ls∧c1=c1∧c1=c1∧c1=c1∧ls=ls∧ls=ls∧c3=c3∧(40:Int)=(40:Int)∧c4=c4∧c12=y∧c1=c1∧c1=c1∧c1=c1 ∧
 ls=ls∧c9=c22∧True)∧D.nlt (D.nat (D.sub (40:Int) y)) (D.nat (D.sub (40:Int) x))))∧(D.lt x c4=false→(c5=true→c10=c10∧D.nle (D.nmul
 c13 (24)) (140737488355328)∧D.nle c13 (9223372036854775807)∧D.len c14=c13∧c14=c7∧True)∧(c5=false→c10=c10∧c9=c7∧True)))) :
  evF (mkc K6) (checkA 4 40 (linNames ls) (linGoods (cs,ns,os,fs,ls,ks))) 114 [.dat I 4,.dat I 40,.dat (.sl Ln) ls,.fn 113 [.ip N (cs,ns,os,fs,ls,ks)],.fn 115 [.ip N (cs,ns,os,fs,ls,ks)]] [] ⟨True,.dat (.sl Fa) (kindF 4 40 (linNames ls) (linGoods (cs,ns,os,fs,ls,ks))),[]⟩:=@of_eq _ _ (by kernel_rfl) hvc
theorem vc_ck5 (cs:LC) (ns os:LB) (fs:List Off) (ls:List Line) (ks:List Cla) (hvc :
 let c1:=(cs,ns,os,fs,ls,ks);
 let c2:=D.ilen ks;
 let c3:=D.mn c2 (4:Int);
 let c4:=D.gt c2 (4:Int);
 let c5:=[((5:Int),(4:Int),(2:Int))];
 let c6:=kindF (5:Int) (4:Int) (claNames ks) (claGoods ks);true=true∧(True→1=1∧0=0∧(∃ x,
 let c7:=kindTo (5:Int) (claNames ks) (claGoods ks) x;kindUp x (D.ilen (claNames ks)) (4:Int)∧(5:Int)=(5:Int)∧(4:Int)=(4:Int)∧ks=ks ∧
 c1=c1∧ks=ks∧c1=c1∧Value.slice none (0) (0)=Value.slice none (0) (0)∧1=1∧0=0∧0=0∧D.len c7=0∧c7=D.nil (Int×Int×Int)∧c1 =
 c1∧c1=c1∧ks=ks∧c1=c1∧c1=c1∧ks=ks∧ks=ks∧c2=c2∧(4:Int)=(4:Int)∧c3=c3∧(0:Int)=x∧c1=c1∧c1=c1∧ks=ks∧c7 =
 D.nil (Int×Int×Int)∧True)∧∀ (x:Int),
 let c8:=kindTo (5:Int) (claNames ks) (claGoods ks) x;
 let c9:=D.len c8;
 let c10:=[rule1 (claNames ks) x,rule2 (claNames ks) x,rule3 (claGoods ks) x];
 let c11:=D.add x (1:Int);
 let c12:=D.nadd c9 (D.len c5);
 let c13:=D.app c8 c5;kindUp x (D.ilen (claNames ks)) (4:Int)→(D.lt x c3=true→1=1∧0=0∧(∃ x_3,rulesTo (claNames ks) (claGoods ks) x x_3∧(5 :
 Int)=(5:Int)∧(4:Int)=(4:Int)∧ks=ks∧c1=c1∧ks=ks∧c1=c1∧Value.slice none (0) (0)=Value.slice none (0) (0)∧1=1∧0=0∧0=0
 ∧ c9=c9∧x=x∧c1=c1∧c1=c1∧ks=ks∧c1=c1∧c1=c1∧ks=ks∧ks=ks∧c2=c2∧(4:Int)=(4:Int)∧c3=c3∧x=x∧D.lt x c3=D.lt
 x c3∧x=x∧c1=c1∧c1=c1∧ks=ks∧(0:Int)=x_3∧c1=c1∧c1=c1∧ks=ks∧c8=c8∧True)∧∀ (x_3:Int),
 let c14:=D.lt x_3 (3:Int);
 let c15:=D.get c10 (D.nat x_3) (0:Int);
 let c16:=D.ne c15 (0:Int);
 let c17:=[((5:Int),x,c15)];
 let c18:=D.nadd c9 (D.len c17);
 let c19:=D.add x_3 (1:Int);rulesTo (claNames ks) (claGoods ks) x x_3→(c14=true→D.ile (0:Int) x_3∧D.ilt x_3 (D.ofN (3))∧(D.nat x_3=0→idx x
 c2)∧(D.nat x_3=1→idxS x c2)∧(D.nat x_3=2→idx x c2)∧(c16=true→c9=c9∧D.nle (D.nmul c18 (24)) (140737488355328)∧D.nle c18
 (9223372036854775807)∧inR IntKind.i64 c11∧∃ y,
 let c20:=kindTo (5:Int) (claNames ks) (claGoods ks) y;kindUp y (D.ilen (claNames ks)) (4:Int)∧((5:Int)=(5:Int)∧(4:Int)=(4:Int)∧ks=ks
 ∧ c1=c1∧ks=ks∧c1=c1∧Value.slice none (0) (0)=Value.slice none (0) (0)∧1=1∧0=0∧0=0∧c18=D.len c20∧c1=c1∧c1=c1∧ks=ks ∧
 c1=c1∧c1=c1∧ks=ks∧ks=ks∧c2=c2∧(4:Int)=(4:Int)∧c3=c3∧c11=y∧c1=c1∧c1=c1∧ks=ks∧D.app c8 c17=c20∧True)∧D.nlt
 (D.nat (D.sub (4:Int) y)) (D.nat (D.sub (4:Int) x)))∧(c16=false→inR IntKind.i64 c19∧∃ y,rulesTo (claNames ks) (claGoods ks) x y∧((5:Int)=(5
 : Int)∧(4:Int)=(4:Int)∧ks=ks∧c1=c1∧ks=ks∧c1=c1∧Value.slice none (0) (0)=Value.slice none (0) (0)∧1=1∧0=0∧0=0∧c9=c9
 ∧ x=x∧c1=c1∧c1=c1∧ks=ks∧c1=c1∧c1=c1∧ks=ks∧ks=ks∧c2=c2∧(4:Int)=(4:Int)∧c3=c3∧x=x∧D.lt x c3=D.lt x c3∧x =
 x∧c1=c1∧c1=c1∧ks=ks∧c19=y∧c1=c1∧c1=c1∧ks=ks∧c8=c8∧True)∧D.nlt (D.nat (D.sub (3:Int) y)) (D.nat (D.sub (3:Int) x_3)))) ∧
 (c14=false→inR IntKind.i64 c11∧∃ y,
 let c21:=kindTo (5:Int) (claNames ks) (claGoods ks) y;kindUp y (D.ilen (claNames ks)) (4:Int)∧((5:Int)=(5:Int)∧(4:Int)=(4:Int)∧ks=ks
 ∧ c1=c1∧ks=ks∧c1=c1∧Value.slice none (0) (0)=Value.slice none (0) (0)∧1=1∧0=0∧0=0∧c9=D.len c21∧c1=c1∧c1=c1∧ks=ks∧c1
 = c1∧c1=c1∧ks=ks∧ks=ks∧c2=c2∧(4:Int)=(4:Int)∧c3=c3∧c11=y∧c1=c1∧c1=c1∧ks=ks∧c8=c21∧True)∧D.nlt (D.nat (D.sub
 (4:Int) y)) (D.nat (D.sub (4:Int) x))))∧(D.lt x c3=false→(c4=true→c9=c9∧D.nle (D.nmul c12 (24)) (140737488355328)∧D.nle c12
 (9223372036854775807)∧D.len c13=c12∧c13=c6∧True)∧(c4=false→c9=c9∧c8=c6∧True)))) :
  evF (mkc K6) (checkA 5 4 (claNames ks) (claGoods ks)) 118 [.dat I 5,.dat I 4,.dat (.sl Kl) ks,.fn 117 [.ip N (cs,ns,os,fs,ls,ks)],.fn 119 []] [] ⟨True,.dat (.sl Fa) (kindF 5 4 (claNames ks) (claGoods ks)),[]⟩:=@of_eq _ _ (by kernel_rfl) hvc
def K7:Kt :=
 kOr 105 (dataK [.val I,.val I,.val (.sl C),.fn 104 N,.fn0 75] (fun (k,m,xs,(cs,ns,os,fs,ls,ks),_,_)=>k=1∧m=6∧xs=cs) fun (_,_,_,(cs,ns,os,fs,ls,ks),_,_)=>.dat (.sl Fa) (kindF 1 6 (calNames cs ns) (calGoods cs))) <|
 kOr 107 (dataK [.val I,.val I,.val (.sl S),.fn 106 N,.fn0 108] (fun (k,m,xs,(cs,ns,os,fs,ls,ks),_,_)=>k=2∧m=6∧xs=os) fun (_,_,_,(cs,ns,os,fs,ls,ks),_,_)=>.dat (.sl Fa) (kindF 2 6 (os) (opGoods os))) <|
 kOr 110 (dataK [.val I,.val I,.val (.sl Of),.fn 109 N,.fn 111 N] (fun (k,m,xs,(cs,ns,os,fs,ls,ks),n2,_)=>k=3∧m=12∧xs=fs∧n2=(cs,ns,os,fs,ls,ks)) fun (_,_,_,(cs,ns,os,fs,ls,ks),_,_)=>.dat (.sl Fa) (kindF 3 12 (offNames fs) (offGoods (cs,ns,os,fs,ls,ks)))) <|
 kOr 114 (dataK [.val I,.val I,.val (.sl Ln),.fn 113 N,.fn 115 N] (fun (k,m,xs,(cs,ns,os,fs,ls,ks),n2,_)=>k=4∧m=40∧xs=ls∧n2=(cs,ns,os,fs,ls,ks)) fun (_,_,_,(cs,ns,os,fs,ls,ks),_,_)=>.dat (.sl Fa) (kindF 4 40 (linNames ls) (linGoods (cs,ns,os,fs,ls,ks)))) <|
 kOr 118 (dataK [.val I,.val I,.val (.sl Kl),.fn 117 N,.fn0 119] (fun (k,m,xs,(cs,ns,os,fs,ls,ks),_,_)=>k=5∧m=4∧xs=ks) fun (_,_,_,(cs,ns,os,fs,ls,ks),_,_)=>.dat (.sl Fa) (kindF 5 4 (claNames ks) (claGoods ks))) <|
 K6
theorem vc_incons (cs:LC) (ns os:LB) (fs:List Off) (ls:List Line) (ks:List Cla) (hvc :
 let c1:=D.ne (D.ilen ns) (D.ilen cs);
 let c2:=[((1:Int),(-1:Int),(1:Int))];
 let c3:=D.len c2;
 let c4:=kindF (1:Int) (6:Int) (calNames cs ns) (calGoods cs);
 let c5:=D.len c4;
 let c6:=D.nadd c3 c5;
 let c7:=D.app c2 c4;
 let c8:=kindF (2:Int) (6:Int) os (opGoods os);
 let c9:=D.len c8;
 let c10:=D.nadd c6 c9;
 let c11:=(cs,ns,os,fs,ls,ks);
 let c12:=D.app c7 c8;
 let c13:=kindF (3:Int) (12:Int) (offNames fs) (offGoods c11);
 let c14:=D.len c13;
 let c15:=D.nadd c10 c14;
 let c16:=D.app c12 c13;
 let c17:=kindF (4:Int) (40:Int) (linNames ls) (linGoods c11);
 let c18:=D.len c17;
 let c19:=D.nadd c15 c18;
 let c20:=D.app c16 c17;
 let c21:=kindF (5:Int) (4:Int) (claNames ks) (claGoods ks);
 let c22:=D.len c21;
 let c23:=D.nadd c19 c22;
 let c24:=faultsF c11;
 let c25:=D.len c24;
 let c26:=D.nadd c5 c9;
 let c27:=D.app c4 c8;
 let c28:=D.nadd c26 c14;
 let c29:=D.app c27 c13;
 let c30:=D.nadd c28 c18;
 let c31:=D.app c29 c17;
 let c32:=D.nadd c30 c22;true=true∧(True→(c1=true→D.nle (D.nmul c3 (24)) (140737488355328)∧D.nle c3 (9223372036854775807)∧((1:Int)=(1:Int)
 ∧ (6:Int)=(6:Int)∧cs=cs)∧c3=c3∧D.nle (D.nmul c6 (24)) (140737488355328)∧D.nle c6 (9223372036854775807)∧((2:Int)=(2:Int)∧(6:Int) =
 (6:Int)∧os=os)∧D.len c7=c6∧D.nle (D.nmul c10 (24)) (140737488355328)∧D.nle c10 (9223372036854775807)∧((3:Int)=(3:Int)∧(12:Int)=(12
 : Int)∧fs=fs∧c11=c11)∧D.len c12=c10∧D.nle (D.nmul c15 (24)) (140737488355328)∧D.nle c15 (9223372036854775807)∧((4:Int)=(4:Int)∧(40 :
 Int)=(40:Int)∧ls=ls∧c11=c11)∧D.len c16=c15∧D.nle (D.nmul c19 (24)) (140737488355328)∧D.nle c19 (9223372036854775807)∧((5:Int)=(5 :
 Int)∧(4:Int)=(4:Int)∧ks=ks)∧D.len c20=c19∧D.nle (D.nmul c23 (24)) (140737488355328)∧D.nle c23 (9223372036854775807)∧c23=c25∧D.app c20
 c21=c24∧True)∧(c1=false→((1:Int)=(1:Int)∧(6:Int)=(6:Int)∧cs=cs)∧D.nle (D.nmul c5 (24)) (140737488355328)∧D.nle c5
 (9223372036854775807)∧((2:Int)=(2:Int)∧(6:Int)=(6:Int)∧os=os)∧c5=c5∧D.nle (D.nmul c26 (24)) (140737488355328)∧D.nle c26
 (9223372036854775807)∧((3:Int)=(3:Int)∧(12:Int)=(12:Int)∧fs=fs∧c11=c11)∧D.len c27=c26∧D.nle (D.nmul c28 (24)) (140737488355328) ∧
 D.nle c28 (9223372036854775807)∧((4:Int)=(4:Int)∧(40:Int)=(40:Int)∧ls=ls∧c11=c11)∧D.len c29=c28∧D.nle (D.nmul c30 (24))
 (140737488355328)∧D.nle c30 (9223372036854775807)∧((5:Int)=(5:Int)∧(4:Int)=(4:Int)∧ks=ks)∧D.len c31=c30∧D.nle (D.nmul c32 (24))
 (140737488355328)∧D.nle c32 (9223372036854775807)∧c32=c25∧D.app c31 c21=c24∧True))) :
  evF (mkc K7) noAnn 81 [net cs ns os fs ls ks] [] ⟨True,.buf 0 (D.len (faultsF (cs,ns,os,fs,ls,ks))),[(0,.buf 118 Fa (faultsF (cs,ns,os,fs,ls,ks)) [])]⟩:=@of_eq _ _ (by kernel_rfl) hvc
theorem t_idxOf (i:Int) (xs:List Of.den):SoundC Tryz.prog G0 148 [.dat I i,.dat (.sl Of) xs] [] ⟨True,.dat .bool (idxF i (D.ilen xs)),[]⟩:=by
 refine sound_of_ev (c:=mkc K2) KS2 KI0s hm (vc_idxOf i xs ⟨rfl,fun _=>?_⟩)
 simp only [cnd_and,D.and,Bool.true_and,eq_self,and_true,imp_self,implies_true,idxF,D.ge,D.lt,and_dec,ge_iff_le]
theorem t_idxS (i:Int) (xs:List S.den):SoundC Tryz.prog G0 141 [.dat I i,.dat (.sl S) xs] [] ⟨True,.dat .bool (idxF i (D.ilen xs)),[]⟩:=by
 refine sound_of_ev (c:=mkc K2) KS2 KI0s hm (vc_idxS i xs ⟨rfl,fun _=>?_⟩)
 simp only [cnd_and,D.and,Bool.true_and,eq_self,and_true,imp_self,implies_true,idxF,D.ge,D.lt,and_dec,ge_iff_le]
theorem t_idxC (i:Int) (xs:List C.den):SoundC Tryz.prog G0 142 [.dat I i,.dat (.sl C) xs] [] ⟨True,.dat .bool (idxF i (D.ilen xs)),[]⟩:=by
 refine sound_of_ev (c:=mkc K2) KS2 KI0s hm (vc_idxC i xs ⟨rfl,fun _=>?_⟩)
 simp only [cnd_and,D.and,Bool.true_and,eq_self,and_true,imp_self,implies_true,idxF,D.ge,D.lt,and_dec,ge_iff_le]
theorem KS3:KSound Tryz.prog G0 K3 :=
 kOr_ok (dataK_ok fun (i,xs,_)=>t_idxOf i xs) <| kOr_ok (dataK_ok fun (i,xs,_)=>t_idxS i xs) <| kOr_ok (dataK_ok fun (i,xs,_)=>t_idxC i xs) <|
 kOr_ok (dataK_ok fun (s,_)=>s_Name s) <| kOr_ok (dataK_ok fun (s,_)=>s_Code s) KS2
theorem codesTo_zero (l:List ByteArray):codesTo l 0:=⟨Int.le_refl _,Int.natCast_nonneg _,by simp⟩
theorem codesTo_next {l:List ByteArray} {x:Int} (h:codesTo l x) (hx:x < l.length) (hp:isCodeF (l.getD x.toNat ⟨#[]⟩)=true):codesTo l (x + 1):=by
 obtain ⟨h0,h1,h2⟩:=h
 refine ⟨by omega,by omega,?_⟩
 rw [show (x + 1).toNat=x.toNat + 1 by omega]
 exact allTo_next (d:=⟨#[]⟩) h2 (by omega) hp
theorem codes_bad {l:List ByteArray} {x:Int} (h:codesTo l x) (hx:x < l.length) (hp:isCodeF (l.getD x.toNat ⟨#[]⟩)=false):l.all isCodeF=false :=
 all_not (d:=⟨#[]⟩) (k:=x.toNat) (by have:=h.1;omega) hp
theorem codesTo_end {l:List ByteArray} {x:Int} (h:codesTo l x) (hx:¬ x < l.length):l.all isCodeF=true:=by
 obtain ⟨h0,h1,h2⟩:=h
 rwa [List.take_of_length_le (by omega)] at h2
theorem from_idx {i n:Int}:fromF i 0 (n - 1)=idxF i n:=by
 unfold fromF idxF
 congr 1
 exact propext (by omega)
theorem t_goodOffice (cs:LC) (ns os:LB) (fs:List Off) (ls:List Line) (ks:List Cla) (e1:ByteArray) (e2 e3 e4 e5 e6:Int) (e7:List ByteArray):SoundC Tryz.prog G0 112 [net cs ns os fs ls ks,.agg [.dat .str e1,.dat (.int .i64) e2,.dat (.int .i64) e3,.dat (.int .i64) e4,.dat (.int .i64) e5,.dat (.int .i64) e6,.dat (.sl .str) e7]] [] ⟨True,.dat .bool (goodOff (cs,ns,os,fs,ls,ks) (e1,e2,e3,e4,e5,e6,e7)),[]⟩:=by
 refine sound_of_ev (c:=mkc K3) KS3 KI0s hm (vc_goodOffice cs ns os fs ls ks e1 e2 e3 e4 e5 e6 e7 ⟨rfl,fun _=>?_⟩)
 simp only [cnd_or,cnd_and,D.and,D.not,Bool.true_and,eq_self,true_and,and_true,imp_self,implies_true,Bool.not_eq_true',Bool.or_eq_true,Bool.or_eq_false_iff,Bool.not_eq_false',Bool.and_eq_true,Bool.not_not,exists_eq_right',D.nil,D.lt,D.gt,D.ilen,D.ile,D.ilt,D.nlt,D.sub,D.add,D.nat,D.get,decide_eq_true_eq,decide_eq_false_iff_not]
 refine ⟨fun h=>?_,fun ⟨⟨h1,h2⟩,h3⟩=>⟨codesTo_zero e7,fun x hx=>⟨fun hlt=>⟨hx.1,hlt,fun hb=>?_,fun hg=>⟨⟨by have:=hx.1;omega,by omega⟩,x + 1,codesTo_next hx hlt hg,rfl,by have:=hx.1;omega⟩⟩,fun hge=>?_⟩⟩⟩
 ·unfold goodOff
  rcases h with (h | h) | h
  ·rw [show idxF _ _=false from h];rfl
  ·rw [show idxF e3 _=false from h];simp
  ·have:decide (e7.length≤20)=false:=decide_eq_false (by omega)
   simp [this]
 ·have:=codes_bad hx hlt hb
  simp [goodOff,this]
 ·have h4:=codesTo_end hx hge
  have h5:decide (e7.length≤20)=true:=decide_eq_true (by omega)
  have h1':idxF e2 (os.length:Int)=true:=h1
  have h2':idxF e3 (cs.length:Int)=true:=h2
  simp only [goodOff,h1',h2',h4,h5,Bool.true_and]
theorem t_office (cs:LC) (ns os:LB) (fs:List Off) (ls:List Line) (ks:List Cla) (e1:ByteArray) (e2 e3 e4 e5 e6:Int) (e7:List ByteArray):SoundC Tryz.prog G0 155 [net cs ns os fs ls ks,.agg [.dat .str e1,.dat (.int .i64) e2,.dat (.int .i64) e3,.dat (.int .i64) e4,.dat (.int .i64) e5,.dat (.int .i64) e6,.dat (.sl .str) e7]] [] ⟨officeP (cs,ns,os,fs,ls,ks) (e1,e2,e3,e4,e5,e6,e7),.dat .bool (goodOff (cs,ns,os,fs,ls,ks) (e1,e2,e3,e4,e5,e6,e7)),[]⟩:=by
 refine sound_of_ev (c:=mkc K3) KS3 KI0s hm (vc_office cs ns os fs ls ks e1 e2 e3 e4 e5 e6 e7 ⟨rfl,fun hp=>?_⟩)
 obtain ⟨hp1,hp2⟩:=hp
 have hp2:e7.length≤30:=hp2
 have hp:=of_decide_eq_true hp1
 simp only [cnd_and,D.and,D.not,Bool.true_and,eq_self,true_and,and_true,imp_self,implies_true,Bool.not_eq_true',Bool.not_eq_false',Bool.and_eq_true,exists_eq_right',D.nil,D.lt,D.le,D.ilen,D.ile,D.ilt,D.nlt,D.sub,D.add,D.nat,D.get,decide_eq_true_eq,decide_eq_false_iff_not,from_idx]
 refine ⟨codesTo_zero e7,fun x hx=>⟨fun hlt=>⟨hx.1,hlt,fun hb=>?_,fun hg=>⟨⟨by have:=hx.1;omega,by omega⟩,x + 1,codesTo_next hx hlt hg,rfl,by have:=hx.1;omega⟩⟩,fun hge=>⟨fun _=>⟨by have:os.length≤10:=hp.2.2.1;omega,by have:os.length≤10:=hp.2.2.1;omega⟩,fun _=>⟨by have:cs.length≤10:=hp.1;omega,by have:cs.length≤10:=hp.1;omega⟩,?_⟩⟩⟩
 ·have:=codes_bad hx hlt hb
  simp [goodOff,this]
 ·have h4:=codesTo_end hx hge
  have e:decide ((e7.length:Int)≤20)=decide (e7.length≤20):=by congr 1;exact propext (by omega)
  simp only [goodOff,h4,Bool.and_true,e]
  cases decide (e7.length≤20) <;> cases idxF e2 (os.length:Int) <;> cases idxF e3 (cs.length:Int) <;> rfl
theorem t_goodLine (cs:LC) (ns os:LB) (fs:List Off) (ls:List Line) (ks:List Cla) (e1:ByteArray) (e2 e3 e4 e5 e6:Int):SoundC Tryz.prog G0 116 [net cs ns os fs ls ks,.agg [.dat .str e1,.dat (.int .i64) e2,.dat (.int .i64) e3,.dat (.int .i64) e4,.dat (.int .i64) e5,.dat (.int .i64) e6]] [] ⟨True,.dat .bool (goodLin (cs,ns,os,fs,ls,ks) (e1,e2,e3,e4,e5,e6)),[]⟩:=by
 refine sound_of_ev (c:=mkc K3) KS3 KI0s hm (vc_goodLine cs ns os fs ls ks e1 e2 e3 e4 e5 e6 ⟨rfl,fun _=>?_⟩)
 simp only [cnd_or,cnd_and,D.and,D.not,Bool.true_and,true_and,and_true,imp_self,implies_true,Bool.not_eq_true',Bool.or_eq_true,Bool.or_eq_false_iff,Bool.not_eq_false',Bool.and_eq_true,Bool.not_not,D.eq,D.ilen,beq_iff_eq,beq_eq_false_iff_ne]
 refine ⟨fun h=>?_,fun ⟨⟨h1,h2⟩,h3⟩=>?_⟩
 ·unfold goodLin
  rcases h with (h | h) | h
  ·rw [show idxF _ _=false from h];rfl
  ·rw [show idxF e3 _=false from h];simp
  ·simp [h]
 ·have h1':idxF e2 (fs.length:Int)=true:=h1
  have h2':idxF e3 (fs.length:Int)=true:=h2
  have h3':decide (e2≠e3)=true:=decide_eq_true h3
  simp only [goodLin,h1',h2',h3',Bool.true_and]
theorem t_line (cs:LC) (ns os:LB) (fs:List Off) (ls:List Line) (ks:List Cla) (e1:ByteArray) (e2 e3 e4 e5 e6:Int):SoundC Tryz.prog G0 156 [net cs ns os fs ls ks,.agg [.dat .str e1,.dat (.int .i64) e2,.dat (.int .i64) e3,.dat (.int .i64) e4,.dat (.int .i64) e5,.dat (.int .i64) e6]] [] ⟨fewLen (cs,ns,os,fs,ls,ks)=true,.dat .bool (goodLin (cs,ns,os,fs,ls,ks) (e1,e2,e3,e4,e5,e6)),[]⟩:=by
 refine sound_of_ev (c:=mkc K3) KS3 KI0s hm (vc_line cs ns os fs ls ks e1 e2 e3 e4 e5 e6 ⟨rfl,fun hp=>?_⟩)
 have hp:=of_decide_eq_true hp
 simp only [cnd_and,D.and,Bool.true_and,true_and,and_true,imp_self,implies_true,Bool.and_eq_true,D.ne,D.ilen,D.sub,bne_iff_ne,from_idx]
 refine ⟨⟨by have:fs.length≤16:=hp.2.2.2.1;omega,by have:fs.length≤16:=hp.2.2.2.1;omega⟩,?_⟩
 have e:(e2 != e3)=decide (e2≠e3):=by cases h:decide (e2=e3) <;> simp_all
 simp only [goodLin,e]
theorem KS4:KSound Tryz.prog G0 K4 :=
 kOr_ok (dataK_ok fun ((cs,ns,os,fs,ls,ks),(e1,e2,e3,e4,e5,e6,e7),_)=>t_goodOffice cs ns os fs ls ks e1 e2 e3 e4 e5 e6 e7) <| kOr_ok (dataK_ok fun ((cs,ns,os,fs,ls,ks),(e1,e2,e3,e4,e5,e6),_)=>t_goodLine cs ns os fs ls ks e1 e2 e3 e4 e5 e6) <|
 kOr_ok (dataK_ok fun ((cs,ns,os,fs,ls,ks),(e1,e2,e3,e4,e5,e6,e7),_)=>t_office cs ns os fs ls ks e1 e2 e3 e4 e5 e6 e7) <| kOr_ok (dataK_ok fun ((cs,ns,os,fs,ls,ks),(e1,e2,e3,e4,e5,e6),_)=>t_line cs ns os fs ls ks e1 e2 e3 e4 e5 e6) KS3
theorem map_getD {α β:Type} (f:α→β) (l:List α) (i:Nat) (d:α) (e:β) (hi:i < l.length):(l.map f).getD i e=f (l.getD i d):=by
 simp only [List.getD_eq_getElem?_getD,List.getElem?_map,List.getElem?_eq_getElem hi,Option.map_some,Option.getD_some]
theorem calNames_at {cs:List (Int×List Bool×List Int)} {ns:List ByteArray} {i:Int} (h0:0≤i) (h1:i < cs.length):nmAt (calNames cs ns) i=ns.getD i.toNat ⟨#[]⟩:=by
 unfold nmAt calNames
 rw [map_getD (fun i=>ns.getD i ⟨#[]⟩) _ _ 0 _ (by rw [List.length_range];omega)]
 show ns.getD ((List.range cs.length).getD i.toNat 0) _=_
 rw [show (List.range cs.length).getD i.toNat 0=i.toNat by rw [List.getD_eq_getElem?_getD,List.getElem?_range (by omega)];rfl]
theorem nm_at {α:Type} {f:α→ByteArray} {l:List α} {i:Int} (d:α) (h0:0≤i) (h1:i < l.length):nmAt (l.map f) i=f (l.getD i.toNat d):=map_getD _ _ _ _ _ (by omega)
theorem t_nm1 (i:Int) (cs:LC) (ns os:LB) (fs:List Off) (ls:List Line) (ks:List Cla):SoundC Tryz.prog G0 104 [.dat I i,.ip N (cs,ns,os,fs,ls,ks)] [] ⟨idx i (D.ilen cs),.dat S (nmAt (calNames cs ns) i),[]⟩:=by
 refine sound_of_ev (c:=mkc K4) KS4 KI0s hm (vc_nm1 i cs ns os fs ls ks ⟨rfl,fun ⟨h0,h1⟩=>?_⟩)
 have h0:0≤i:=h0
 have h1:i < (cs.length:Int):=h1
 simp only [eq_self,and_true,D.nil,D.lt,D.ilen,D.ile,D.ilt,D.nat,D.get,decide_eq_true_eq,decide_eq_false_iff_not,calNames_at h0 h1]
 refine ⟨fun h=>⟨h0,h⟩,fun h=>?_⟩
 rw [List.getD_eq_getElem?_getD,List.getElem?_eq_none (by omega)];rfl
theorem t_nm2 (i:Int) (cs:LC) (ns os:LB) (fs:List Off) (ls:List Line) (ks:List Cla):SoundC Tryz.prog G0 106 [.dat I i,.ip N (cs,ns,os,fs,ls,ks)] [] ⟨idx i (D.ilen os),.dat S (nmAt os i),[]⟩:=by
 refine sound_of_ev (c:=mkc K4) KS4 KI0s hm (vc_nm2 i cs ns os fs ls ks ⟨rfl,fun ⟨h0,h1⟩=>?_⟩)
 simp only [and_true,D.nil,D.ilen,D.ile,D.ilt,D.nat,D.get]
 exact ⟨h0,h1,rfl⟩
theorem t_gd2 (e1:ByteArray):SoundC Tryz.prog G0 108 [.agg [.dat .str e1]] [] ⟨True,.dat .bool true,[]⟩ :=
 sound_of_ev (c:=mkc K4) KS4 KI0s hm (vc_gd2 e1 ⟨rfl,fun _=>⟨rfl,trivial⟩⟩)
theorem t_nm3 (i:Int) (cs:LC) (ns os:LB) (fs:List Off) (ls:List Line) (ks:List Cla):SoundC Tryz.prog G0 109 [.dat I i,.ip N (cs,ns,os,fs,ls,ks)] [] ⟨idx i (D.ilen fs),.dat S (nmAt (offNames fs) i),[]⟩:=by
 refine sound_of_ev (c:=mkc K4) KS4 KI0s hm (vc_nm3 i cs ns os fs ls ks ⟨rfl,fun ⟨h0,h1⟩=>?_⟩)
 simp only [and_true,D.nil,D.ilen,D.ile,D.ilt,D.nat,D.get]
 exact ⟨h0,h1,(nm_at _ h0 h1).symm⟩
theorem t_gd3 (cs:LC) (ns os:LB) (fs:List Off) (ls:List Line) (ks:List Cla) (e1:ByteArray) (e2 e3 e4 e5 e6:Int) (e7:List ByteArray):SoundC Tryz.prog G0 111 [.agg [.dat .str e1,.dat (.int .i64) e2,.dat (.int .i64) e3,.dat (.int .i64) e4,.dat (.int .i64) e5,.dat (.int .i64) e6,.dat (.sl .str) e7],.ip N (cs,ns,os,fs,ls,ks)] [] ⟨True,.dat .bool (goodOff (cs,ns,os,fs,ls,ks) (e1,e2,e3,e4,e5,e6,e7)),[]⟩ :=
 sound_of_ev (c:=mkc K4) KS4 KI0s hm (vc_gd3 cs ns os fs ls ks e1 e2 e3 e4 e5 e6 e7 ⟨rfl,fun _=>by simp only [eq_self,and_true]⟩)
theorem t_nm4 (i:Int) (cs:LC) (ns os:LB) (fs:List Off) (ls:List Line) (ks:List Cla):SoundC Tryz.prog G0 113 [.dat I i,.ip N (cs,ns,os,fs,ls,ks)] [] ⟨idx i (D.ilen ls),.dat S (nmAt (linNames ls) i),[]⟩:=by
 refine sound_of_ev (c:=mkc K4) KS4 KI0s hm (vc_nm4 i cs ns os fs ls ks ⟨rfl,fun ⟨h0,h1⟩=>?_⟩)
 simp only [and_true,D.nil,D.ilen,D.ile,D.ilt,D.nat,D.get]
 exact ⟨h0,h1,(nm_at _ h0 h1).symm⟩
theorem t_gd4 (cs:LC) (ns os:LB) (fs:List Off) (ls:List Line) (ks:List Cla) (e1:ByteArray) (e2 e3 e4 e5 e6:Int):SoundC Tryz.prog G0 115 [.agg [.dat .str e1,.dat (.int .i64) e2,.dat (.int .i64) e3,.dat (.int .i64) e4,.dat (.int .i64) e5,.dat (.int .i64) e6],.ip N (cs,ns,os,fs,ls,ks)] [] ⟨True,.dat .bool (goodLin (cs,ns,os,fs,ls,ks) (e1,e2,e3,e4,e5,e6)),[]⟩ :=
 sound_of_ev (c:=mkc K4) KS4 KI0s hm (vc_gd4 cs ns os fs ls ks e1 e2 e3 e4 e5 e6 ⟨rfl,fun _=>by simp only [eq_self,and_true]⟩)
theorem t_nm5 (i:Int) (cs:LC) (ns os:LB) (fs:List Off) (ls:List Line) (ks:List Cla):SoundC Tryz.prog G0 117 [.dat I i,.ip N (cs,ns,os,fs,ls,ks)] [] ⟨idx i (D.ilen ks),.dat S (nmAt (claNames ks) i),[]⟩:=by
 refine sound_of_ev (c:=mkc K4) KS4 KI0s hm (vc_nm5 i cs ns os fs ls ks ⟨rfl,fun ⟨h0,h1⟩=>?_⟩)
 simp only [and_true,D.nil,D.ilen,D.ile,D.ilt,D.nat,D.get]
 exact ⟨h0,h1,(nm_at _ h0 h1).symm⟩
theorem t_gd5 (e1:ByteArray) (e2 e3:Int):SoundC Tryz.prog G0 119 [.agg [.dat .str e1,.dat (.int .i64) e2,.dat (.int .i64) e3]] [] ⟨True,.dat .bool (goodCla (e1,e2,e3)),[]⟩ :=
 sound_of_ev (c:=mkc K4) KS4 KI0s hm (vc_gd5 e1 e2 e3 ⟨rfl,fun _=>by simp only [cnd_and,D.and,Bool.true_and,eq_self,and_true,imp_self,implies_true,goodCla]⟩)
theorem KS5:KSound Tryz.prog G0 K5 :=
 kOr_ok (dataK_ok fun (i,(cs,ns,os,fs,ls,ks),_)=>t_nm1 i cs ns os fs ls ks) <| kOr_ok (dataK_ok fun (i,(cs,ns,os,fs,ls,ks),_)=>t_nm2 i cs ns os fs ls ks) <| kOr_ok (dataK_ok fun (e1,_)=>t_gd2 e1) <| kOr_ok (dataK_ok fun (i,(cs,ns,os,fs,ls,ks),_)=>t_nm3 i cs ns os fs ls ks) <|
 kOr_ok (dataK_ok fun ((e1,e2,e3,e4,e5,e6,e7),(cs,ns,os,fs,ls,ks),_)=>t_gd3 cs ns os fs ls ks e1 e2 e3 e4 e5 e6 e7) <| kOr_ok (dataK_ok fun (i,(cs,ns,os,fs,ls,ks),_)=>t_nm4 i cs ns os fs ls ks) <| kOr_ok (dataK_ok fun ((e1,e2,e3,e4,e5,e6),(cs,ns,os,fs,ls,ks),_)=>t_gd4 cs ns os fs ls ks e1 e2 e3 e4 e5 e6) <|
 kOr_ok (dataK_ok fun (i,(cs,ns,os,fs,ls,ks),_)=>t_nm5 i cs ns os fs ls ks) <| kOr_ok (dataK_ok fun ((e1,e2,e3),_)=>t_gd5 e1 e2 e3) KS4
theorem twTo_zero {l:List ByteArray} {i:Int} (h:0≤i):twTo l i 0:=⟨Int.le_refl _,h,by simp⟩
theorem twTo_next {l:List ByteArray} {i x:Int} (h:twTo l i x) (hx:x < i) (hi:i < l.length) (hp:(nmAt l x).toList≠(nmAt l i).toList):twTo l i (x + 1):=by
 obtain ⟨h0,h1,h2⟩:=h
 refine ⟨by omega,by omega,?_⟩
 rw [show (x + 1).toNat=x.toNat + 1 by omega]
 exact anyTo_next (d:=⟨#[]⟩) h2 (by omega) (by simpa [nmAt] using hp)
theorem tw_is {l:List ByteArray} {i x:Int} (h:twTo l i x) (hx:x < i) (hi:i < l.length) (hp:(nmAt l x).toList=(nmAt l i).toList):4=rule2 l i:=by
 unfold rule2
 have hx0:=h.1
 rw [if_pos]
 have hlt:x.toNat < (l.take i.toNat).length:=by rw [List.length_take];omega
 refine any_is (d:=⟨#[]⟩) (k:=x.toNat) hlt ?_
 have:(l.take i.toNat).getD x.toNat ⟨#[]⟩=nmAt l x:=by
  unfold nmAt
  simp only [List.getD_eq_getElem?_getD]
  rw [List.getElem?_take,if_pos (by omega)]
 rw [this];simpa using hp
theorem twTo_end {l:List ByteArray} {i x:Int} (h:twTo l i x) (hx:¬ x < i):0=rule2 l i:=by
 obtain ⟨h0,h1,h2⟩:=h
 have:x=i:=by omega
 subst this
 unfold rule2
 rw [h2];rfl
theorem rule3_at {α:Type} {g:α→Bool} {l:List α} {i:Int} (d:α) (h0:0≤i) (h1:i < l.length):rule3 (l.map g) i=if g (l.getD i.toNat d) then 0 else 1:=by
 unfold rule3;rw [map_getD g l _ d _ (by omega)]
theorem calNames_length (cs:List (Int×List Bool×List Int)) (ns:List ByteArray):(calNames cs ns).length=cs.length:=by simp [calNames]
theorem map_length {α β:Type} (f:α→β) (l:List α):(l.map f).length=l.length:=List.length_map f
theorem t_r11 (i:Int) (cs:LC) (ns os:LB) (fs:List Off) (ls:List Line) (ks:List Cla):SoundC Tryz.prog G0 131 [.dat I i,.ipv (.fn 104 [.ip N (cs,ns,os,fs,ls,ks)])] [] ⟨idx i (D.ilen cs),.dat I (rule1 (calNames cs ns) i),[]⟩:=by
 refine sound_of_ev (c:=mkc K5) KS5 KI0s hm (vc_r11 i cs ns os fs ls ks ⟨rfl,fun hp=>?_⟩)
 simp only [D.not,true_and,and_true,Bool.not_eq_true',Bool.not_eq_false',D.ilen]
 exact ⟨hp,fun h=>by simp [rule1,h],fun h=>by simp [rule1,h]⟩
theorem t_r21 (i:Int) (cs:LC) (ns os:LB) (fs:List Off) (ls:List Line) (ks:List Cla):SoundC Tryz.prog G0 133 [.dat I i,.ipv (.fn 104 [.ip N (cs,ns,os,fs,ls,ks)])] [] ⟨idxS i (D.ilen cs),.dat I (rule2 (calNames cs ns) i),[]⟩:=by
 refine sound_of_ev (c:=mkc K5) KS5 KI0s hm (vc_r21 i cs ns os fs ls ks ⟨rfl,fun hp=>?_⟩)
 have h0:0≤i:=hp.1
 have h1:i < (cs.length:Int):=hp.2.1
 have h2:i≤1000:=hp.2.2
 have hl:((calNames cs ns).length:Int)=cs.length:=congrArg _ (calNames_length cs ns)
 simp only [eq_self,true_and,and_true,exists_eq_right',D.lt,D.ilen,D.nlt,D.sub,D.add,D.nat,decide_eq_true_eq,decide_eq_false_iff_not,beq_iff_eq,beq_eq_false_iff_ne]
 exact ⟨twTo_zero h0,fun x hx=>⟨fun hlt=>⟨⟨hx.1,by omega⟩,⟨h0,h1⟩,fun he=>tw_is hx hlt (by omega) he,fun hne=>⟨⟨by have:=hx.1;omega,by omega⟩,x + 1,twTo_next hx hlt (by omega) hne,rfl,by have:=hx.1;omega⟩⟩,fun hge=>twTo_end hx hge⟩⟩
theorem t_r31 (i:Int) (cs:LC) (ns os:LB) (fs:List Off) (ls:List Line) (ks:List Cla):SoundC Tryz.prog G0 134 [.dat I i,.ipv (.fn 75 []),.ip (.sl C) cs] [] ⟨idx i (D.ilen cs),.dat I (rule3 (calGoods cs) i),[]⟩:=by
 refine sound_of_ev (c:=mkc K5) KS5 KI0s hm (vc_r31 i cs ns os fs ls ks ⟨rfl,fun hp=>?_⟩)
 have h0:0≤i:=hp.1
 have h1:i < (cs.length:Int):=hp.2
 simp only [D.not,true_and,and_true,Bool.not_eq_true',Bool.not_eq_false',D.nil,D.ilen,D.ile,D.ilt,D.nat,D.get]
 rw [show rule3 (calGoods cs) i=_ from rule3_at _ h0 h1]
 exact ⟨h0,h1,fun h=>by rw [if_neg (by intro g;rw [show _=false from h] at g;cases g)],fun h=>by rw [if_pos h]⟩
theorem t_r12 (i:Int) (cs:LC) (ns os:LB) (fs:List Off) (ls:List Line) (ks:List Cla):SoundC Tryz.prog G0 135 [.dat I i,.ipv (.fn 106 [.ip N (cs,ns,os,fs,ls,ks)])] [] ⟨idx i (D.ilen os),.dat I (rule1 (os) i),[]⟩:=by
 refine sound_of_ev (c:=mkc K5) KS5 KI0s hm (vc_r12 i cs ns os fs ls ks ⟨rfl,fun hp=>?_⟩)
 simp only [D.not,true_and,and_true,Bool.not_eq_true',Bool.not_eq_false',D.ilen]
 exact ⟨hp,fun h=>by simp [rule1,h],fun h=>by simp [rule1,h]⟩
theorem t_r22 (i:Int) (cs:LC) (ns os:LB) (fs:List Off) (ls:List Line) (ks:List Cla):SoundC Tryz.prog G0 136 [.dat I i,.ipv (.fn 106 [.ip N (cs,ns,os,fs,ls,ks)])] [] ⟨idxS i (D.ilen os),.dat I (rule2 (os) i),[]⟩:=by
 refine sound_of_ev (c:=mkc K5) KS5 KI0s hm (vc_r22 i cs ns os fs ls ks ⟨rfl,fun hp=>?_⟩)
 have h0:0≤i:=hp.1
 have h1:i < (os.length:Int):=hp.2.1
 have h2:i≤1000:=hp.2.2
 have hl:((os).length:Int)=os.length:=congrArg _ (rfl)
 simp only [eq_self,true_and,and_true,exists_eq_right',D.lt,D.ilen,D.nlt,D.sub,D.add,D.nat,decide_eq_true_eq,decide_eq_false_iff_not,beq_iff_eq,beq_eq_false_iff_ne]
 exact ⟨twTo_zero h0,fun x hx=>⟨fun hlt=>⟨⟨hx.1,by omega⟩,⟨h0,h1⟩,fun he=>tw_is hx hlt (by omega) he,fun hne=>⟨⟨by have:=hx.1;omega,by omega⟩,x + 1,twTo_next hx hlt (by omega) hne,rfl,by have:=hx.1;omega⟩⟩,fun hge=>twTo_end hx hge⟩⟩
theorem t_r32 (i:Int) (cs:LC) (ns os:LB) (fs:List Off) (ls:List Line) (ks:List Cla):SoundC Tryz.prog G0 137 [.dat I i,.ipv (.fn 108 []),.ip (.sl S) os] [] ⟨idx i (D.ilen os),.dat I (rule3 (opGoods os) i),[]⟩:=by
 refine sound_of_ev (c:=mkc K5) KS5 KI0s hm (vc_r32 i cs ns os fs ls ks ⟨rfl,fun hp=>?_⟩)
 have h0:0≤i:=hp.1
 have h1:i < (os.length:Int):=hp.2
 simp only [D.not,eq_self,true_and,and_true,Bool.not_eq_true',Bool.not_eq_false',forall_const,D.ilen,D.ile,D.ilt]
 rw [show rule3 (opGoods os) i=_ from rule3_at ⟨#[]⟩ h0 h1]
 exact ⟨h0,h1,(fun h=>by cases h),rfl⟩
theorem t_r13 (i:Int) (cs:LC) (ns os:LB) (fs:List Off) (ls:List Line) (ks:List Cla):SoundC Tryz.prog G0 138 [.dat I i,.ipv (.fn 109 [.ip N (cs,ns,os,fs,ls,ks)])] [] ⟨idx i (D.ilen fs),.dat I (rule1 (offNames fs) i),[]⟩:=by
 refine sound_of_ev (c:=mkc K5) KS5 KI0s hm (vc_r13 i cs ns os fs ls ks ⟨rfl,fun hp=>?_⟩)
 simp only [D.not,true_and,and_true,Bool.not_eq_true',Bool.not_eq_false',D.ilen]
 exact ⟨hp,fun h=>by simp [rule1,h],fun h=>by simp [rule1,h]⟩
theorem t_r23 (i:Int) (cs:LC) (ns os:LB) (fs:List Off) (ls:List Line) (ks:List Cla):SoundC Tryz.prog G0 139 [.dat I i,.ipv (.fn 109 [.ip N (cs,ns,os,fs,ls,ks)])] [] ⟨idxS i (D.ilen fs),.dat I (rule2 (offNames fs) i),[]⟩:=by
 refine sound_of_ev (c:=mkc K5) KS5 KI0s hm (vc_r23 i cs ns os fs ls ks ⟨rfl,fun hp=>?_⟩)
 have h0:0≤i:=hp.1
 have h1:i < (fs.length:Int):=hp.2.1
 have h2:i≤1000:=hp.2.2
 have hl:((offNames fs).length:Int)=fs.length:=congrArg _ (map_length _ fs)
 simp only [eq_self,true_and,and_true,exists_eq_right',D.lt,D.ilen,D.nlt,D.sub,D.add,D.nat,decide_eq_true_eq,decide_eq_false_iff_not,beq_iff_eq,beq_eq_false_iff_ne]
 exact ⟨twTo_zero h0,fun x hx=>⟨fun hlt=>⟨⟨hx.1,by omega⟩,⟨h0,h1⟩,fun he=>tw_is hx hlt (by omega) he,fun hne=>⟨⟨by have:=hx.1;omega,by omega⟩,x + 1,twTo_next hx hlt (by omega) hne,rfl,by have:=hx.1;omega⟩⟩,fun hge=>twTo_end hx hge⟩⟩
theorem t_r33 (i:Int) (cs:LC) (ns os:LB) (fs:List Off) (ls:List Line) (ks:List Cla):SoundC Tryz.prog G0 140 [.dat I i,.ipv (.fn 111 [.ip N (cs,ns,os,fs,ls,ks)]),.ip (.sl Of) fs] [] ⟨idx i (D.ilen fs),.dat I (rule3 (offGoods (cs,ns,os,fs,ls,ks)) i),[]⟩:=by
 refine sound_of_ev (c:=mkc K5) KS5 KI0s hm (vc_r33 i cs ns os fs ls ks ⟨rfl,fun hp=>?_⟩)
 have h0:0≤i:=hp.1
 have h1:i < (fs.length:Int):=hp.2
 simp only [D.not,true_and,and_true,Bool.not_eq_true',Bool.not_eq_false',D.nil,D.ilen,D.ile,D.ilt,D.nat,D.get]
 rw [show rule3 (offGoods (cs,ns,os,fs,ls,ks)) i=_ from rule3_at _ h0 h1]
 exact ⟨h0,h1,fun h=>by rw [if_neg (by intro g;rw [show _=false from h] at g;cases g)],fun h=>by rw [if_pos h]⟩
theorem t_r14 (i:Int) (cs:LC) (ns os:LB) (fs:List Off) (ls:List Line) (ks:List Cla):SoundC Tryz.prog G0 145 [.dat I i,.ipv (.fn 113 [.ip N (cs,ns,os,fs,ls,ks)])] [] ⟨idx i (D.ilen ls),.dat I (rule1 (linNames ls) i),[]⟩:=by
 refine sound_of_ev (c:=mkc K5) KS5 KI0s hm (vc_r14 i cs ns os fs ls ks ⟨rfl,fun hp=>?_⟩)
 simp only [D.not,true_and,and_true,Bool.not_eq_true',Bool.not_eq_false',D.ilen]
 exact ⟨hp,fun h=>by simp [rule1,h],fun h=>by simp [rule1,h]⟩
theorem t_r24 (i:Int) (cs:LC) (ns os:LB) (fs:List Off) (ls:List Line) (ks:List Cla):SoundC Tryz.prog G0 146 [.dat I i,.ipv (.fn 113 [.ip N (cs,ns,os,fs,ls,ks)])] [] ⟨idxS i (D.ilen ls),.dat I (rule2 (linNames ls) i),[]⟩:=by
 refine sound_of_ev (c:=mkc K5) KS5 KI0s hm (vc_r24 i cs ns os fs ls ks ⟨rfl,fun hp=>?_⟩)
 have h0:0≤i:=hp.1
 have h1:i < (ls.length:Int):=hp.2.1
 have h2:i≤1000:=hp.2.2
 have hl:((linNames ls).length:Int)=ls.length:=congrArg _ (map_length _ ls)
 simp only [eq_self,true_and,and_true,exists_eq_right',D.lt,D.ilen,D.nlt,D.sub,D.add,D.nat,decide_eq_true_eq,decide_eq_false_iff_not,beq_iff_eq,beq_eq_false_iff_ne]
 exact ⟨twTo_zero h0,fun x hx=>⟨fun hlt=>⟨⟨hx.1,by omega⟩,⟨h0,h1⟩,fun he=>tw_is hx hlt (by omega) he,fun hne=>⟨⟨by have:=hx.1;omega,by omega⟩,x + 1,twTo_next hx hlt (by omega) hne,rfl,by have:=hx.1;omega⟩⟩,fun hge=>twTo_end hx hge⟩⟩
theorem t_r34 (i:Int) (cs:LC) (ns os:LB) (fs:List Off) (ls:List Line) (ks:List Cla):SoundC Tryz.prog G0 147 [.dat I i,.ipv (.fn 115 [.ip N (cs,ns,os,fs,ls,ks)]),.ip (.sl Ln) ls] [] ⟨idx i (D.ilen ls),.dat I (rule3 (linGoods (cs,ns,os,fs,ls,ks)) i),[]⟩:=by
 refine sound_of_ev (c:=mkc K5) KS5 KI0s hm (vc_r34 i cs ns os fs ls ks ⟨rfl,fun hp=>?_⟩)
 have h0:0≤i:=hp.1
 have h1:i < (ls.length:Int):=hp.2
 simp only [D.not,true_and,and_true,Bool.not_eq_true',Bool.not_eq_false',D.nil,D.ilen,D.ile,D.ilt,D.nat,D.get]
 rw [show rule3 (linGoods (cs,ns,os,fs,ls,ks)) i=_ from rule3_at _ h0 h1]
 exact ⟨h0,h1,fun h=>by rw [if_neg (by intro g;rw [show _=false from h] at g;cases g)],fun h=>by rw [if_pos h]⟩
theorem t_r15 (i:Int) (cs:LC) (ns os:LB) (fs:List Off) (ls:List Line) (ks:List Cla):SoundC Tryz.prog G0 149 [.dat I i,.ipv (.fn 117 [.ip N (cs,ns,os,fs,ls,ks)])] [] ⟨idx i (D.ilen ks),.dat I (rule1 (claNames ks) i),[]⟩:=by
 refine sound_of_ev (c:=mkc K5) KS5 KI0s hm (vc_r15 i cs ns os fs ls ks ⟨rfl,fun hp=>?_⟩)
 simp only [D.not,true_and,and_true,Bool.not_eq_true',Bool.not_eq_false',D.ilen]
 exact ⟨hp,fun h=>by simp [rule1,h],fun h=>by simp [rule1,h]⟩
theorem t_r25 (i:Int) (cs:LC) (ns os:LB) (fs:List Off) (ls:List Line) (ks:List Cla):SoundC Tryz.prog G0 150 [.dat I i,.ipv (.fn 117 [.ip N (cs,ns,os,fs,ls,ks)])] [] ⟨idxS i (D.ilen ks),.dat I (rule2 (claNames ks) i),[]⟩:=by
 refine sound_of_ev (c:=mkc K5) KS5 KI0s hm (vc_r25 i cs ns os fs ls ks ⟨rfl,fun hp=>?_⟩)
 have h0:0≤i:=hp.1
 have h1:i < (ks.length:Int):=hp.2.1
 have h2:i≤1000:=hp.2.2
 have hl:((claNames ks).length:Int)=ks.length:=congrArg _ (map_length _ ks)
 simp only [eq_self,true_and,and_true,exists_eq_right',D.lt,D.ilen,D.nlt,D.sub,D.add,D.nat,decide_eq_true_eq,decide_eq_false_iff_not,beq_iff_eq,beq_eq_false_iff_ne]
 exact ⟨twTo_zero h0,fun x hx=>⟨fun hlt=>⟨⟨hx.1,by omega⟩,⟨h0,h1⟩,fun he=>tw_is hx hlt (by omega) he,fun hne=>⟨⟨by have:=hx.1;omega,by omega⟩,x + 1,twTo_next hx hlt (by omega) hne,rfl,by have:=hx.1;omega⟩⟩,fun hge=>twTo_end hx hge⟩⟩
theorem t_r35 (i:Int) (cs:LC) (ns os:LB) (fs:List Off) (ls:List Line) (ks:List Cla):SoundC Tryz.prog G0 151 [.dat I i,.ipv (.fn 119 []),.ip (.sl Kl) ks] [] ⟨idx i (D.ilen ks),.dat I (rule3 (claGoods ks) i),[]⟩:=by
 refine sound_of_ev (c:=mkc K5) KS5 KI0s hm (vc_r35 i cs ns os fs ls ks ⟨rfl,fun hp=>?_⟩)
 have h0:0≤i:=hp.1
 have h1:i < (ks.length:Int):=hp.2
 simp only [D.not,true_and,and_true,Bool.not_eq_true',Bool.not_eq_false',D.nil,D.ilen,D.ile,D.ilt,D.nat,D.get]
 rw [show rule3 (claGoods ks) i=_ from rule3_at _ h0 h1]
 exact ⟨h0,h1,fun h=>by rw [if_neg (by intro g;rw [show _=false from h] at g;cases g)],fun h=>by rw [if_pos h]⟩
theorem kindTo_zero (kind:Int) (l:List ByteArray) (g:List Bool):kindTo kind l g 0=[]:=rfl
theorem kindTo_len (kind:Int) (l:List ByteArray) (g:List Bool) (k:Int):(kindTo kind l g k).length≤k.toNat:=by
 unfold kindTo
 exact Nat.le_trans (List.length_filterMap_le _ _) (by rw [List.length_range];exact Nat.le_refl _)
theorem kindTo_err {kind:Int} {l:List ByteArray} {g:List Bool} {k:Int} (h0:0≤k) (he:errF l g k≠0):kindTo kind l g (k + 1)=kindTo kind l g k ++ [(kind,k,errF l g k)]:=by
 unfold kindTo
 rw [show (k + 1).toNat=k.toNat + 1 by omega,List.range_succ,List.filterMap_append]
 simp [Int.toNat_of_nonneg h0,he]
theorem kindTo_ok {kind:Int} {l:List ByteArray} {g:List Bool} {k:Int} (h0:0≤k) (he:errF l g k=0):kindTo kind l g (k + 1)=kindTo kind l g k:=by
 unfold kindTo
 rw [show (k + 1).toNat=k.toNat + 1 by omega,List.range_succ,List.filterMap_append]
 simp [Int.toNat_of_nonneg h0,he]
theorem rules_at {l:List ByteArray} {g:List Bool} {i j:Int} (h:rulesTo l g i j) (hj:j < 3) (he:[rule1 l i,rule2 l i,rule3 g i].getD j.toNat 0≠0):[rule1 l i,rule2 l i,rule3 g i].getD j.toNat 0=errF l g i:=by
 obtain ⟨h0,_,h1,h2,_⟩:=h
 have hc:j=0∨j=1∨j=2:=by omega
 unfold errF
 rcases hc with rfl | rfl | rfl
 ·have he:rule1 l i≠0:=he
  rw [if_pos he];rfl
 ·have he:rule2 l i≠0:=he
  rw [if_neg (by simp [h1]),if_pos he];rfl
 ·rw [if_neg (by simp [h1]),if_neg (by simp [h2])];rfl
theorem rules_next {l:List ByteArray} {g:List Bool} {i j:Int} (h:rulesTo l g i j) (hj:j < 3) (he:[rule1 l i,rule2 l i,rule3 g i].getD j.toNat 0=0):rulesTo l g i (j + 1):=by
 obtain ⟨h0,_,h1,h2,h3⟩:=h
 have hc:j=0∨j=1∨j=2:=by omega
 rcases hc with rfl | rfl | rfl
 ·exact ⟨by omega,by omega,fun _=>he,fun h=>by omega,fun h=>by omega⟩
 ·exact ⟨by omega,by omega,fun _=>h1 (by omega),fun _=>he,fun h=>by omega⟩
 ·exact ⟨by omega,by omega,fun _=>h1 (by omega),fun _=>h2 (by omega),fun _=>he⟩
theorem rules_end {l:List ByteArray} {g:List Bool} {i j:Int} (h:rulesTo l g i j) (hj:¬ j < 3):errF l g i=0:=by
 obtain ⟨h0,_,h1,h2,h3⟩:=h
 unfold errF
 rw [if_neg (by simp [h1 (by omega)]),if_neg (by simp [h2 (by omega)]),h3 (by omega)]
theorem ck_gen {kind lim:Int} {l:List ByteArray} {g:List Bool} {m:Nat} (hm:l.length=m) (h1:0≤lim) (h2:lim≤100) :
  (∃ x,kindUp x (l.length:Int) lim∧(kindTo kind l g x).length=0∧kindTo kind l g x=[]∧0=x∧kindTo kind l g x=[]) ∧
  ∀ (x:Int),kindUp x (l.length:Int) lim →
    (x < min (m:Int) lim →
      rulesTo l g x 0∧∀ (z:Int),rulesTo l g x z →
         (z < 3→0≤z∧z < (3:Nat)∧(z.toNat=0→idx x m)∧(z.toNat=1→idxS x m)∧(z.toNat=2→idx x m) ∧
                ([rule1 l x,rule2 l x,rule3 g x].getD z.toNat 0≠0 →
                  ((kindTo kind l g x).length + [(kind,x,[rule1 l x,rule2 l x,rule3 g x].getD z.toNat 0)].length) * 24≤140737488355328 ∧
                   (kindTo kind l g x).length + [(kind,x,[rule1 l x,rule2 l x,rule3 g x].getD z.toNat 0)].length≤9223372036854775807 ∧
                    inR IntKind.i64 (x + 1) ∧
                     ∃ y,kindUp y (l.length:Int) lim ∧
                       ((kindTo kind l g x).length + [(kind,x,[rule1 l x,rule2 l x,rule3 g x].getD z.toNat 0)].length=(kindTo kind l g y).length ∧
                         x + 1=y∧kindTo kind l g x ++ [(kind,x,[rule1 l x,rule2 l x,rule3 g x].getD z.toNat 0)]=kindTo kind l g y) ∧
                        (lim - y).toNat < (lim - x).toNat) ∧
                 ([rule1 l x,rule2 l x,rule3 g x].getD z.toNat 0=0→inR IntKind.i64 (z + 1)∧∃ y,rulesTo l g x y∧z + 1=y∧(3 - y).toNat < (3 - z).toNat)) ∧
          (¬z < 3→inR IntKind.i64 (x + 1)∧∃ y,kindUp y (l.length:Int) lim∧((kindTo kind l g x).length=(kindTo kind l g y).length∧x + 1=y∧kindTo kind l g x=kindTo kind l g y)∧(lim - y).toNat < (lim - x).toNat)) ∧
     (¬x < min (m:Int) lim →
      ((m:Int) > lim→((kindTo kind l g x).length + [(kind,lim,(2:Int))].length) * 24≤140737488355328 ∧
         (kindTo kind l g x).length + [(kind,lim,(2:Int))].length≤9223372036854775807 ∧
          (kindTo kind l g x ++ [(kind,lim,2)]).length=(kindTo kind l g x).length + [(kind,lim,(2:Int))].length ∧
           kindTo kind l g x ++ [(kind,lim,2)]=kindF kind lim l g) ∧
       (¬(m:Int) > lim→kindTo kind l g x=kindF kind lim l g)):=by
 subst hm
 refine ⟨⟨0,⟨Int.le_refl _,Int.natCast_nonneg _,h1⟩,rfl,rfl,rfl,rfl⟩,fun x ⟨x0,x1,x2⟩=>⟨fun hlt=>⟨⟨Int.le_refl _,by decide,fun h=>by omega,fun h=>by omega,fun h=>by omega⟩,fun z hz=>⟨fun hz3=>?_,fun hz3=>?_⟩⟩,fun hge=>?_⟩⟩
 ·have hk:=kindTo_len kind l g x
  refine ⟨hz.1,by omega,fun _=>⟨x0,by omega⟩,fun _=>⟨x0,by omega,by omega⟩,fun _=>⟨x0,by omega⟩,fun he=>?_,fun he=>⟨⟨by have:=hz.1;omega,by omega⟩,z + 1,rules_next hz hz3 he,rfl,by have:=hz.1;omega⟩⟩
  have e:=rules_at hz hz3 he
  rw [e] at he ⊢
  refine ⟨by simp only [List.length_singleton];omega,by simp only [List.length_singleton];omega,⟨by omega,by omega⟩,x + 1,⟨by omega,by omega,by omega⟩,⟨?_,rfl,(kindTo_err x0 he).symm⟩,by omega⟩
  rw [kindTo_err x0 he,List.length_append]
 ·have e:=rules_end hz hz3
  exact ⟨⟨by omega,by omega⟩,x + 1,⟨by omega,by omega,by omega⟩,⟨by rw [kindTo_ok x0 e],rfl,(kindTo_ok x0 e).symm⟩,by omega⟩
 ·have hk:=kindTo_len kind l g x
  have ex:x=min (l.length:Int) lim:=by omega
  refine ⟨fun h=>⟨by simp only [List.length_singleton];omega,by simp only [List.length_singleton];omega,List.length_append,?_⟩,fun h=>?_⟩
  ·unfold kindF overF;rw [if_pos (by omega),← ex]
  ·unfold kindF overF;rw [if_neg (by omega),← ex,List.append_nil]
theorem KS6:KSound Tryz.prog G0 K6 :=
 kOr_ok (dataK_ok fun (i,(cs,ns,os,fs,ls,ks),_)=>t_r11 i cs ns os fs ls ks) <| kOr_ok (dataK_ok fun (i,(cs,ns,os,fs,ls,ks),_)=>t_r21 i cs ns os fs ls ks) <| kOr_ok (dataK_ok fun (i,_,cs,_)=>t_r31 i cs [] [] [] [] []) <|
 kOr_ok (dataK_ok fun (i,(cs,ns,os,fs,ls,ks),_)=>t_r12 i cs ns os fs ls ks) <| kOr_ok (dataK_ok fun (i,(cs,ns,os,fs,ls,ks),_)=>t_r22 i cs ns os fs ls ks) <| kOr_ok (dataK_ok fun (i,_,os,_)=>t_r32 i [] [] os [] [] []) <|
 kOr_ok (dataK_ok fun (i,(cs,ns,os,fs,ls,ks),_)=>t_r13 i cs ns os fs ls ks) <| kOr_ok (dataK_ok fun (i,(cs,ns,os,fs,ls,ks),_)=>t_r23 i cs ns os fs ls ks) <| kOr_ok (dataK_ok fun (i,(cs,ns,os,fs,ls,ks),xs,_)=>SoundC.of_pre fun (h:idx i (D.ilen fs)∧xs=fs)=>by obtain ⟨h,rfl⟩:=h;exact (t_r33 i cs ns os xs ls ks).weaken fun _=>h) <|
 kOr_ok (dataK_ok fun (i,(cs,ns,os,fs,ls,ks),_)=>t_r14 i cs ns os fs ls ks) <| kOr_ok (dataK_ok fun (i,(cs,ns,os,fs,ls,ks),_)=>t_r24 i cs ns os fs ls ks) <| kOr_ok (dataK_ok fun (i,(cs,ns,os,fs,ls,ks),xs,_)=>SoundC.of_pre fun (h:idx i (D.ilen ls)∧xs=ls)=>by obtain ⟨h,rfl⟩:=h;exact (t_r34 i cs ns os fs xs ks).weaken fun _=>h) <|
 kOr_ok (dataK_ok fun (i,(cs,ns,os,fs,ls,ks),_)=>t_r15 i cs ns os fs ls ks) <| kOr_ok (dataK_ok fun (i,(cs,ns,os,fs,ls,ks),_)=>t_r25 i cs ns os fs ls ks) <| kOr_ok (dataK_ok fun (i,_,ks,_)=>t_r35 i [] [] [] [] [] ks) <| KS5
theorem t_ck1 (cs:LC) (ns os:LB) (fs:List Off) (ls:List Line) (ks:List Cla):SoundC Tryz.prog G0 105 [.dat I 1,.dat I 6,.dat (.sl C) cs,.fn 104 [.ip N (cs,ns,os,fs,ls,ks)],.fn 75 []] [] ⟨True,.dat (.sl Fa) (kindF 1 6 (calNames cs ns) (calGoods cs)),[]⟩:=by
 refine sound_of_ev (c:=mkc K6) KS6 KI0s hm (vc_ck1 cs ns os fs ls ks ⟨rfl,fun _=>?_⟩)
 have hm:(calNames cs ns).length=cs.length:=calNames_length cs ns
 simp only [eq_self,true_and,and_true,exists_eq_right',D.nil,D.ne,D.lt,D.gt,D.ilen,D.ile,D.ilt,D.nle,D.nlt,D.sub,D.add,D.nat,D.ofN,D.len,D.nadd,D.nmul,D.get,D.mn,D.app,decide_eq_true_eq,decide_eq_false_iff_not,bne_iff_ne,bne_eq_false_iff_eq]
 exact ck_gen hm (by decide) (by decide)
theorem t_ck2 (cs:LC) (ns os:LB) (fs:List Off) (ls:List Line) (ks:List Cla):SoundC Tryz.prog G0 107 [.dat I 2,.dat I 6,.dat (.sl S) os,.fn 106 [.ip N (cs,ns,os,fs,ls,ks)],.fn 108 []] [] ⟨True,.dat (.sl Fa) (kindF 2 6 (os) (opGoods os)),[]⟩:=by
 refine sound_of_ev (c:=mkc K6) KS6 KI0s hm (vc_ck2 cs ns os fs ls ks ⟨rfl,fun _=>?_⟩)
 have hm:(os).length=os.length:=rfl
 simp only [eq_self,true_and,and_true,exists_eq_right',D.nil,D.ne,D.lt,D.gt,D.ilen,D.ile,D.ilt,D.nle,D.nlt,D.sub,D.add,D.nat,D.ofN,D.len,D.nadd,D.nmul,D.get,D.mn,D.app,decide_eq_true_eq,decide_eq_false_iff_not,bne_iff_ne,bne_eq_false_iff_eq]
 exact ck_gen hm (by decide) (by decide)
theorem t_ck3 (cs:LC) (ns os:LB) (fs:List Off) (ls:List Line) (ks:List Cla):SoundC Tryz.prog G0 110 [.dat I 3,.dat I 12,.dat (.sl Of) fs,.fn 109 [.ip N (cs,ns,os,fs,ls,ks)],.fn 111 [.ip N (cs,ns,os,fs,ls,ks)]] [] ⟨True,.dat (.sl Fa) (kindF 3 12 (offNames fs) (offGoods (cs,ns,os,fs,ls,ks))),[]⟩:=by
 refine sound_of_ev (c:=mkc K6) KS6 KI0s hm (vc_ck3 cs ns os fs ls ks ⟨rfl,fun _=>?_⟩)
 have hm:(offNames fs).length=fs.length:=map_length _ fs
 simp only [eq_self,true_and,and_true,exists_eq_right',D.nil,D.ne,D.lt,D.gt,D.ilen,D.ile,D.ilt,D.nle,D.nlt,D.sub,D.add,D.nat,D.ofN,D.len,D.nadd,D.nmul,D.get,D.mn,D.app,decide_eq_true_eq,decide_eq_false_iff_not,bne_iff_ne,bne_eq_false_iff_eq]
 exact ck_gen hm (by decide) (by decide)
theorem t_ck4 (cs:LC) (ns os:LB) (fs:List Off) (ls:List Line) (ks:List Cla):SoundC Tryz.prog G0 114 [.dat I 4,.dat I 40,.dat (.sl Ln) ls,.fn 113 [.ip N (cs,ns,os,fs,ls,ks)],.fn 115 [.ip N (cs,ns,os,fs,ls,ks)]] [] ⟨True,.dat (.sl Fa) (kindF 4 40 (linNames ls) (linGoods (cs,ns,os,fs,ls,ks))),[]⟩:=by
 refine sound_of_ev (c:=mkc K6) KS6 KI0s hm (vc_ck4 cs ns os fs ls ks ⟨rfl,fun _=>?_⟩)
 have hm:(linNames ls).length=ls.length:=map_length _ ls
 simp only [eq_self,true_and,and_true,exists_eq_right',D.nil,D.ne,D.lt,D.gt,D.ilen,D.ile,D.ilt,D.nle,D.nlt,D.sub,D.add,D.nat,D.ofN,D.len,D.nadd,D.nmul,D.get,D.mn,D.app,decide_eq_true_eq,decide_eq_false_iff_not,bne_iff_ne,bne_eq_false_iff_eq]
 exact ck_gen hm (by decide) (by decide)
theorem t_ck5 (cs:LC) (ns os:LB) (fs:List Off) (ls:List Line) (ks:List Cla):SoundC Tryz.prog G0 118 [.dat I 5,.dat I 4,.dat (.sl Kl) ks,.fn 117 [.ip N (cs,ns,os,fs,ls,ks)],.fn 119 []] [] ⟨True,.dat (.sl Fa) (kindF 5 4 (claNames ks) (claGoods ks)),[]⟩:=by
 refine sound_of_ev (c:=mkc K6) KS6 KI0s hm (vc_ck5 cs ns os fs ls ks ⟨rfl,fun _=>?_⟩)
 have hm:(claNames ks).length=ks.length:=map_length _ ks
 simp only [eq_self,true_and,and_true,exists_eq_right',D.nil,D.ne,D.lt,D.gt,D.ilen,D.ile,D.ilt,D.nle,D.nlt,D.sub,D.add,D.nat,D.ofN,D.len,D.nadd,D.nmul,D.get,D.mn,D.app,decide_eq_true_eq,decide_eq_false_iff_not,bne_iff_ne,bne_eq_false_iff_eq]
 exact ck_gen hm (by decide) (by decide)
theorem KS7:KSound Tryz.prog G0 K7 :=
 kOr_ok (dataK_ok fun (k,m,xs,(cs,ns,os,fs,ls,ks),_,_)=>SoundC.of_pre fun (h:k=1∧m=6∧xs=cs)=>by obtain ⟨rfl,rfl,rfl⟩:=h;exact ((t_ck1 xs ns os fs ls ks).weaken fun _=>trivial)) <|
 kOr_ok (dataK_ok fun (k,m,xs,(cs,ns,os,fs,ls,ks),_,_)=>SoundC.of_pre fun (h:k=2∧m=6∧xs=os)=>by obtain ⟨rfl,rfl,rfl⟩:=h;exact ((t_ck2 cs ns xs fs ls ks).weaken fun _=>trivial)) <|
 kOr_ok (dataK_ok fun (k,m,xs,(cs,ns,os,fs,ls,ks),n2,_)=>SoundC.of_pre fun (h:k=3∧m=12∧xs=fs∧n2=(cs,ns,os,fs,ls,ks))=>by obtain ⟨rfl,rfl,rfl,rfl⟩:=h;exact ((t_ck3 cs ns os xs ls ks).weaken fun _=>trivial)) <|
 kOr_ok (dataK_ok fun (k,m,xs,(cs,ns,os,fs,ls,ks),n2,_)=>SoundC.of_pre fun (h:k=4∧m=40∧xs=ls∧n2=(cs,ns,os,fs,ls,ks))=>by obtain ⟨rfl,rfl,rfl,rfl⟩:=h;exact ((t_ck4 cs ns os fs xs ks).weaken fun _=>trivial)) <|
 kOr_ok (dataK_ok fun (k,m,xs,(cs,ns,os,fs,ls,ks),_,_)=>SoundC.of_pre fun (h:k=5∧m=4∧xs=ks)=>by obtain ⟨rfl,rfl,rfl⟩:=h;exact ((t_ck5 cs ns os fs ls xs).weaken fun _=>trivial)) <| KS6
theorem kindF_len (kind lim:Int) (l:List ByteArray) (g:List Bool) (h:0≤lim):(kindF kind lim l g).length≤lim.toNat + 1:=by
 unfold kindF overF
 have:=kindTo_len kind l g (min l.length lim)
 rw [List.length_append]
 split <;> simp only [List.length_singleton,List.length_nil] <;> omega
theorem faultsF_eq (cs:LC) (ns os:LB) (fs:List Off) (ls:List Line) (ks:List Cla):faultsF (cs,ns,os,fs,ls,ks)=headF (cs,ns,os,fs,ls,ks) ++ (kindF 1 6 (calNames cs ns) (calGoods cs) ++ (kindF 2 6 os (opGoods os) ++ (kindF 3 12 (offNames fs) (offGoods (cs,ns,os,fs,ls,ks)) ++ (kindF 4 40 (linNames ls) (linGoods (cs,ns,os,fs,ls,ks)) ++ kindF 5 4 (claNames ks) (claGoods ks))))):=by
 unfold faultsF faultsTo
 rw [show (Int.toNat 6 - 1)=5 from rfl,show List.range 5=[0,1,2,3,4] from rfl]
 simp only [List.flatMap_cons,List.flatMap_nil,List.append_nil]
 rfl
theorem t_incons (cs:LC) (ns os:LB) (fs:List Off) (ls:List Line) (ks:List Cla):SoundC Tryz.prog G0 81 [net cs ns os fs ls ks] [] ⟨True,.buf 0 (D.len (faultsF (cs,ns,os,fs,ls,ks))),[(0,.buf 118 Fa (faultsF (cs,ns,os,fs,ls,ks)) [])]⟩:=by
 refine sound_of_ev (c:=mkc K7) KS7 KI0s hm (vc_incons cs ns os fs ls ks ⟨rfl,fun _=>?_⟩)
 have h1:=kindF_len 1 6 (calNames cs ns) (calGoods cs) (by decide)
 have h2:=kindF_len 2 6 os (opGoods os) (by decide)
 have h3:=kindF_len 3 12 (offNames fs) (offGoods (cs,ns,os,fs,ls,ks)) (by decide)
 have h4:=kindF_len 4 40 (linNames ls) (linGoods (cs,ns,os,fs,ls,ks)) (by decide)
 have h5:=kindF_len 5 4 (claNames ks) (claGoods ks) (by decide)
 rw [faultsF_eq]
 simp only [eq_self,true_and,and_true,D.ne,D.ilen,D.nle,D.len,D.nadd,D.nmul,D.app,bne_iff_ne,bne_eq_false_iff_eq]
 refine ⟨fun hne=>?_,fun he=>?_⟩
 ·rw [show headF (cs,ns,os,fs,ls,ks)=[(1,-1,1)] from if_neg fun e=>hne (congrArg Int.ofNat e)]
  generalize kindF 1 6 _ _=a1 at *
  generalize kindF 2 6 _ _=a2 at *
  generalize kindF 3 12 _ _=a3 at *
  generalize kindF 4 40 _ _=a4 at *
  generalize kindF 5 4 _ _=a5 at *
  simp only [List.length_append,List.length_singleton,List.append_assoc]
  and_intros <;> first | omega | rfl
 ·rw [show headF (cs,ns,os,fs,ls,ks)=[] from if_pos (Int.ofNat.inj he)]
  generalize kindF 1 6 _ _=a1 at *
  generalize kindF 2 6 _ _=a2 at *
  generalize kindF 3 12 _ _=a3 at *
  generalize kindF 4 40 _ _=a4 at *
  generalize kindF 5 4 _ _=a5 at *
  simp only [List.length_append,List.nil_append,List.append_assoc]
  and_intros <;> first | omega | rfl
end Go.Eng.Sv
