/- PeSv2k -/
import Derived.Test.YtlobbofhlcjlmaaGreatDoorH22
import Derived.Test.YtlobbofhlcjlmaaGreatDoorSvT
import Derived.Test.YtlobbofhlcjlmaaGreatDoorSv1k
set_option linter.unusedSimpArgs false
set_option linter.unusedVariables false
set_option maxRecDepth 100000
noncomputable section
namespace Go.Eng.Sv
open Go.Proofs
abbrev Of:Ty:=.pair S (.pair I (.pair I (.pair I (.pair I (.pair I (.sl S))))))
abbrev Ln:Ty:=.pair S (.pair I (.pair I (.pair I (.pair I I))))
abbrev Kl:Ty:=.pair S (.pair I I)
abbrev Fa:Ty:=.pair I (.pair I I)
abbrev N:Ty:=.pair (.sl C) (.pair (.sl S) (.pair (.sl S) (.pair (.sl Of) (.pair (.sl Ln) (.sl Kl)))))
abbrev Off:=ByteArray×Int×Int×Int×Int×Int×List ByteArray
abbrev Cla:=ByteArray×Int×Int
abbrev Net:=List (Int×List Bool×List Int)×List ByteArray×List ByteArray×List Off×List Line×List Cla
abbrev net (cs:LC) (ns os:LB) (fs:List Off) (ls:List Line) (ks:List Cla):AV:=.agg [.dat (.sl C) cs,.dat (.sl S) ns,.dat (.sl S) os,.dat (.sl Of) fs,.dat (.sl Ln) ls,.dat (.sl Kl) ks]
def mW (i n:Int):Bool:=decide (0≤i∧i < n)
def idx (i n:Int):Prop:=0≤i∧i < n
def aAm (i n:Int):Prop:=0≤i∧i < n∧i≤1000
def qH (l:List ByteArray) (k:Int):Prop:=0≤k∧k≤l.length∧(l.take k.toNat).all iH=true
def iV (n:Net) (o:Off):Bool:=mW o.2.1 n.2.2.1.length && mW o.2.2.1 n.1.length && decide (o.2.2.2.2.2.2.length≤20) && o.2.2.2.2.2.2.all iH && iW o.2.2.2.1 2 64 && iW o.2.2.2.2.1 1 4 && iW o.2.2.2.2.2.1 1 240
def iI (n:Net) (l:Line):Bool:=mW l.2.1 n.2.2.2.1.length && mW l.2.2.1 n.2.2.2.1.length && decide (l.2.1≠l.2.2.1) && iW l.2.2.2.1 0 1439 && iW l.2.2.2.2.1 1 5000 && iW l.2.2.2.2.2 1 40
def lM (k:Cla):Bool:=iW k.2.1 0 1439 && iW k.2.2 0 1439
def aP (cs:List (Int×List Bool×List Int)) (ns:List ByteArray):List ByteArray:=(List.range cs.length).map fun i=>ns.getD i ⟨#[]⟩
def aS (fs:List Off):List ByteArray:=fs.map (·.1)
def aT (ls:List Line):List ByteArray:=ls.map (·.1)
def aU (ks:List Cla):List ByteArray:=ks.map (·.1)
def bY (cs:List (Int×List Bool×List Int)):List Bool:=cs.map fun c=>bM c.1 c.2.1 c.2.2
def dW (os:List ByteArray):List Bool:=os.map fun _=>true
def gY (n:Net):List Bool:=n.2.2.2.1.map (iV n)
def fZ (n:Net):List Bool:=n.2.2.2.2.1.map (iI n)
def cZ (ks:List Cla):List Bool:=ks.map lM
def lK (l:List ByteArray) (i:Int):ByteArray:=l.getD i.toNat ⟨#[]⟩
def dJ (l:List ByteArray) (i:Int):Int:=if fG (lK l i) then 0 else 1
def rule2 (l:List ByteArray) (i:Int):Int:=if (l.take i.toNat).any (fun w=>w.toList == (lK l i).toList) then 4 else 0
def dR (g:List Bool) (i:Int):Int:=if g.getD i.toNat false then 0 else 1
def aCa (l:List ByteArray) (i k:Int):Prop:=0≤k∧k≤i∧(l.take k.toNat).any (fun w=>w.toList == (lK l i).toList)=false
def dZ (l:List ByteArray) (g:List Bool) (i k:Int):Prop:=0≤k∧k≤3∧(0 < k→dJ l i=0)∧(1 < k→rule2 l i=0)∧(2 < k→dR g i=0)
def aHG (l:List ByteArray) (g:List Bool) (i:Int):Int:=if dJ l i≠0 then dJ l i else if rule2 l i≠0 then rule2 l i else dR g i
def bH (kind:Int) (l:List ByteArray) (g:List Bool) (k:Int):List (Int×Int×Int):=(List.range k.toNat).filterMap fun i:Nat=>if aHG l g i=0 then none else some (kind,(i:Int),aHG l g i)
def aIq (kind lim:Int) (l:List ByteArray):List (Int×Int×Int):=if lim < l.length then [(kind,lim,2)] else []
def dH (kind lim:Int) (l:List ByteArray) (g:List Bool):List (Int×Int×Int):=bH kind l g (min l.length lim) ++ aIq kind lim l
def iD (k n lim:Int):Prop:=0≤k∧k≤n∧k≤lim
def aGy (n:Net):List (Int×Int×Int):=if n.2.1.length=n.1.length then [] else [(1,-1,1)]
def aKC (n:Net) (k:Int):List ByteArray:=if k=1 then aP n.1 n.2.1 else if k=2 then n.2.2.1 else if k=3 then aS n.2.2.2.1 else if k=4 then aT n.2.2.2.2.1 else if k=5 then aU n.2.2.2.2.2 else []
def aKV (n:Net) (k:Int):List Bool:=if k=1 then bY n.1 else if k=2 then dW n.2.2.1 else if k=3 then gY n else if k=4 then fZ n else if k=5 then cZ n.2.2.2.2.2 else []
def nN (n:Net) (k:Int):List (Int×Int×Int):=aGy n ++ (List.range (k.toNat - 1)).flatMap fun j:Nat=>dH (j + 1) (nJ (j + 1)) (aKC n (j + 1)) (aKV n (j + 1))
def jU (n:Net):List (Int×Int×Int):=nN n 6
theorem aMz (i:Int) (xs:List Of.den) (hvc :
 let c1:=D.ge i (0:Int);
 let c2:=D.ilen xs;true=true∧(True→(c1=true→c1=true→c1=true)∧(c1=true→c1=true→c1=true)∧(c1=true→c1=true→c1=true) ∧
 (D.and true c1=true→c1=true)∧D.cnd c1 (D.lt i c2) false=mW i c2∧True)) :
  evF (mkc K2) bF 148 [.dat I i,.dat (.sl Of) xs] [] ⟨True,.dat .bool (mW i (D.ilen xs)),[]⟩:=@of_eq _ _ (by kernel_rfl) hvc
theorem aPM (i:Int) (xs:List S.den) (hvc :
 let c1:=D.ge i (0:Int);true=true∧(True→(c1=true→c1=true→c1=true)∧(c1=true→c1=true→c1=true)∧(c1=true→c1=true→c1 =
 true)∧(D.and true c1=true→c1=true)∧D.cnd c1 (D.lt i (D.ilen xs)) false=mW i (D.ilen xs)∧True)) :
  evF (mkc K2) bF 141 [.dat I i,.dat (.sl S) xs] [] ⟨True,.dat .bool (mW i (D.ilen xs)),[]⟩:=@of_eq _ _ (by kernel_rfl) hvc
theorem aPN (i:Int) (xs:List C.den) (hvc :
 let c1:=D.ge i (0:Int);
 let c2:=D.ilen xs;true=true∧(True→(c1=true→c1=true→c1=true)∧(c1=true→c1=true→c1=true)∧(c1=true→c1=true→c1=true) ∧
 (D.and true c1=true→c1=true)∧D.cnd c1 (D.lt i c2) false=mW i c2∧True)) :
  evF (mkc K2) bF 142 [.dat I i,.dat (.sl C) xs] [] ⟨True,.dat .bool (mW i (D.ilen xs)),[]⟩:=@of_eq _ _ (by kernel_rfl) hvc
def K3:Kt:=kOr 148 (bD [.val I,.val (.sl Of)] (fun _=>True) fun (i,xs,_)=>.dat .bool (mW i (D.ilen xs)))
 (kOr 141 (bD [.val I,.val (.sl S)] (fun _=>True) fun (i,xs,_)=>.dat .bool (mW i (D.ilen xs)))
 (kOr 142 (bD [.val I,.val (.sl C)] (fun _=>True) fun (i,xs,_)=>.dat .bool (mW i (D.ilen xs))) K2))
def aTD (l:List ByteArray):Ann:=⟨fun id st=>match id with
 | 4=>some { α:=Int,inv:=fun k=>qH l k,st:=fun k=>put st [(30,.dat I k)],μ:=fun k=>D.nat (D.sub (D.ilen l) k) }
 | _=>none,fun _ _=>none,fun _ _=>none⟩
theorem aC5 (cs:LC) (ns os:LB) (fs:List Off) (ls:List Line) (ks:List Cla) (e1:ByteArray) (e2 e3 e4 e5 e6:Int) (e7:List ByteArray) (hvc :
 let c1:=D.not (mW e2 (D.ilen os));
 let c2:=D.not c1;
 let c3:=D.cnd c1 true (D.not (mW e3 (D.ilen cs)));
 let c4:=D.not c3;
 let c5:=D.cnd c3 true (D.gt (D.ilen e7) (20:Int));
 let c6:=(e1,e2,e3,e4,e5,e6,e7);
 let c7:=iV (cs,ns,os,fs,ls,ks) c6;
 let c8:=iW e4 (2:Int) (64:Int);
 let c9:=D.cnd c8 (iW e5 (1:Int) (4:Int)) false;true=true∧(True→True∧(c2=true→c2=true→c2=true)∧(c2=true→c2=true→c2=true)
 ∧ (c2=true→c2=true→c2=true)∧(c2=true→c2=true→c2=true)∧(c2=true→True)∧(c2=true→c2=true→c2=true)∧(D.and true c2=true
 → c2=true)∧(c4=true→c4=true→c4=true)∧(c4=true→c4=true→c4=true)∧(c4=true→c4=true→c4=true)∧(D.and true c4=true→c4 =
 true)∧(c5=true→false=c7∧True)∧(c5=false→(∃ x,qH e7 x∧c6=c6∧e7=e7∧D.ilen e7=D.ilen e7∧(0:Int)=x∧True)∧∀ (x:Int),
 let c10:=D.lt x (D.ilen e7);
 let c11:=D.not (iH (D.get e7 (D.nat x) (ByteArray.mk (D.nil UInt8).toArray)));
 let c12:=D.add x (1:Int);qH e7 x→(c10=true→D.ile (0:Int) x∧D.ilt x (D.ilen e7)∧True∧(c11=true→false=c7∧True)∧(c11=false →
 inR IntKind.i64 c12∧∃ y,qH e7 y∧(c6=c6∧e7=e7∧D.ilen e7=D.ilen e7∧c12=y∧True)∧D.nlt (D.nat (D.sub (D.ilen e7) y)) (D.nat (D.sub
 (D.ilen e7) x))))∧(c10=false→True∧(c8=true→c8=true→c8=true)∧(c8=true→c8=true→c8=true)∧(c8=true→True)∧(D.and true c8 =
 true→c8=true)∧(c9=true→c9=true→c9=true)∧(c9=true→c9=true→c9=true)∧(c9=true→True)∧(D.and true c9=true→c9=true)∧D.cnd
 c9 (iW e6 (1:Int) (240:Int)) false=c7∧True)))) :
  evF (mkc K3) (lvA [(4,[3,4,6,28,29,30])] (aTD e7)) 112 [net cs ns os fs ls ks,.agg [.dat .str e1,.dat (.int .i64) e2,.dat (.int .i64) e3,.dat (.int .i64) e4,.dat (.int .i64) e5,.dat (.int .i64) e6,.dat (.sl .str) e7]] [] ⟨True,.dat .bool (iV (cs,ns,os,fs,ls,ks) (e1,e2,e3,e4,e5,e6,e7)),[]⟩:=@of_eq _ _ (by kernel_rfl) hvc
theorem aFQ (cs:LC) (ns os:LB) (fs:List Off) (ls:List Line) (ks:List Cla) (e1:ByteArray) (e2 e3 e4 e5 e6:Int) (hvc :
 let c1:=D.ilen fs;
 let c2:=D.not (mW e2 c1);
 let c3:=D.not c2;
 let c4:=D.cnd c2 true (D.not (mW e3 c1));
 let c5:=D.not c4;
 let c6:=D.cnd c4 true (D.eq e2 e3);
 let c7:=iI (cs,ns,os,fs,ls,ks) (e1,e2,e3,e4,e5,e6);
 let c8:=iW e4 (0:Int) (1439:Int);
 let c9:=D.cnd c8 (iW e5 (1:Int) (5000:Int)) false;true=true∧(True→True∧(c3=true→c3=true→c3=true)∧(c3=true→c3=true→c3 =
 true)∧(c3=true→c3=true→c3=true)∧(c3=true→c3=true→c3=true)∧(c3=true→True)∧(c3=true→c3=true→c3=true)∧(D.and true c3 =
 true→c3=true)∧(c5=true→c5=true→c5=true)∧(c5=true→c5=true→c5=true)∧(c5=true→c5=true→c5=true)∧(c5=true→c5=true →
 c5=true)∧(D.and true c5=true→c5=true)∧(c6=true→false=c7∧True)∧(c6=false→True∧(c8=true→c8=true→c8=true)∧(c8=true→c8
 = true→c8=true)∧(c8=true→True)∧(D.and true c8=true→c8=true)∧(c9=true→c9=true→c9=true)∧(c9=true→c9=true→c9=true)∧(c9
 = true→True)∧(D.and true c9=true→c9=true)∧D.cnd c9 (iW e6 (1:Int) (40:Int)) false=c7∧True))) :
  evF (mkc K3) bF 116 [net cs ns os fs ls ks,.agg [.dat .str e1,.dat (.int .i64) e2,.dat (.int .i64) e3,.dat (.int .i64) e4,.dat (.int .i64) e5,.dat (.int .i64) e6]] [] ⟨True,.dat .bool (iI (cs,ns,os,fs,ls,ks) (e1,e2,e3,e4,e5,e6)),[]⟩:=@of_eq _ _ (by kernel_rfl) hvc
def K4:Kt:=kOr 112 (bD [.row N,.row Of] (fun _=>True) fun (n,o,_)=>.dat .bool (iV n o))
 (kOr 116 (bD [.row N,.row Ln] (fun _=>True) fun (n,l,_)=>.dat .bool (iI n l)) K3)
theorem aSp (i:Int) (cs:LC) (ns os:LB) (fs:List Off) (ls:List Line) (ks:List Cla) (hvc :
 let c1:=D.lt i (D.ilen ns);
 let c2:=lK (aP cs ns) i;true=true∧(idx i (D.ilen cs)→(c1=true→D.ile (0:Int) i∧D.ilt i (D.ilen ns)∧D.get ns (D.nat i) (ByteArray.mk
 (D.nil UInt8).toArray)=c2∧True)∧(c1=false→ByteArray.mk (D.nil UInt8).toArray=c2∧True))) :
  evF (mkc K4) bF 104 [.dat I i,.ip N (cs,ns,os,fs,ls,ks)] [] ⟨idx i (D.ilen cs),.dat S (lK (aP cs ns) i),[]⟩:=@of_eq _ _ (by kernel_rfl) hvc
theorem aSo (i:Int) (cs:LC) (ns os:LB) (fs:List Off) (ls:List Line) (ks:List Cla) (hvc :
 true=true∧(idx i (D.ilen os)→D.ile (0:Int) i∧D.ilt i (D.ilen os)∧D.get os (D.nat i) (ByteArray.mk (D.nil UInt8).toArray) =
 lK os i∧True)) :
  evF (mkc K4) bF 106 [.dat I i,.ip N (cs,ns,os,fs,ls,ks)] [] ⟨idx i (D.ilen os),.dat S (lK os i),[]⟩:=@of_eq _ _ (by kernel_rfl) hvc
theorem aSu (e1:ByteArray) (hvc :
 true=true∧(True→true=true∧True)) :
  evF (mkc K4) bF 108 [.agg [.dat .str e1]] [] ⟨True,.dat .bool true,[]⟩:=@of_eq _ _ (by kernel_rfl) hvc
theorem aSn (i:Int) (cs:LC) (ns os:LB) (fs:List Off) (ls:List Line) (ks:List Cla) (hvc :
 let c1:=D.ilen fs;true=true∧(idx i c1→D.ile (0:Int) i∧D.ilt i c1∧(D.get fs (D.nat i) (ByteArray.mk (D.nil UInt8).toArray,(0:Int),(0:Int),
 (0:Int),(0:Int),(0:Int),D.nil ByteArray)).fst=lK (aS fs) i∧True)) :
  evF (mkc K4) bF 109 [.dat I i,.ip N (cs,ns,os,fs,ls,ks)] [] ⟨idx i (D.ilen fs),.dat S (lK (aS fs) i),[]⟩:=@of_eq _ _ (by kernel_rfl) hvc
theorem aSt (cs:LC) (ns os:LB) (fs:List Off) (ls:List Line) (ks:List Cla) (e1:ByteArray) (e2 e3 e4 e5 e6:Int) (e7:List ByteArray) (hvc :
 let c1:=iV (cs,ns,os,fs,ls,ks) (e1,e2,e3,e4,e5,e6,e7);true=true∧(True→True∧c1=c1∧True)) :
  evF (mkc K4) bF 111 [.agg [.dat .str e1,.dat (.int .i64) e2,.dat (.int .i64) e3,.dat (.int .i64) e4,.dat (.int .i64) e5,.dat (.int .i64) e6,.dat (.sl .str) e7],.ip N (cs,ns,os,fs,ls,ks)] [] ⟨True,.dat .bool (iV (cs,ns,os,fs,ls,ks) (e1,e2,e3,e4,e5,e6,e7)),[]⟩:=@of_eq _ _ (by kernel_rfl) hvc
theorem aSm (i:Int) (cs:LC) (ns os:LB) (fs:List Off) (ls:List Line) (ks:List Cla) (hvc :
 let c1:=D.ilen ls;true=true∧(idx i c1→D.ile (0:Int) i∧D.ilt i c1∧(D.get ls (D.nat i) (ByteArray.mk (D.nil UInt8).toArray,(0:Int),(0:Int),
 (0:Int),(0:Int),(0:Int))).fst=lK (aT ls) i∧True)) :
  evF (mkc K4) bF 113 [.dat I i,.ip N (cs,ns,os,fs,ls,ks)] [] ⟨idx i (D.ilen ls),.dat S (lK (aT ls) i),[]⟩:=@of_eq _ _ (by kernel_rfl) hvc
theorem aSs (cs:LC) (ns os:LB) (fs:List Off) (ls:List Line) (ks:List Cla) (e1:ByteArray) (e2 e3 e4 e5 e6:Int) (hvc :
 let c1:=iI (cs,ns,os,fs,ls,ks) (e1,e2,e3,e4,e5,e6);true=true∧(True→True∧c1=c1∧True)) :
  evF (mkc K4) bF 115 [.agg [.dat .str e1,.dat (.int .i64) e2,.dat (.int .i64) e3,.dat (.int .i64) e4,.dat (.int .i64) e5,.dat (.int .i64) e6],.ip N (cs,ns,os,fs,ls,ks)] [] ⟨True,.dat .bool (iI (cs,ns,os,fs,ls,ks) (e1,e2,e3,e4,e5,e6)),[]⟩:=@of_eq _ _ (by kernel_rfl) hvc
theorem aSl (i:Int) (cs:LC) (ns os:LB) (fs:List Off) (ls:List Line) (ks:List Cla) (hvc :
 let c1:=D.ilen ks;true=true∧(idx i c1→D.ile (0:Int) i∧D.ilt i c1∧(D.get ks (D.nat i) (ByteArray.mk (D.nil UInt8).toArray,(0:Int),(0 :
 Int))).fst=lK (aU ks) i∧True)) :
  evF (mkc K4) bF 117 [.dat I i,.ip N (cs,ns,os,fs,ls,ks)] [] ⟨idx i (D.ilen ks),.dat S (lK (aU ks) i),[]⟩:=@of_eq _ _ (by kernel_rfl) hvc
theorem aSr (e1:ByteArray) (e2 e3:Int) (hvc :
 let c1:=iW e2 (0:Int) (1439:Int);true=true∧(True→True∧(c1=true→c1=true→c1=true)∧(c1=true→c1=true→c1=true)∧(c1=true →
 True)∧(D.and true c1=true→c1=true)∧D.cnd c1 (iW e3 (0:Int) (1439:Int)) false=lM (e1,e2,e3)∧True)) :
  evF (mkc K4) bF 119 [.agg [.dat .str e1,.dat (.int .i64) e2,.dat (.int .i64) e3]] [] ⟨True,.dat .bool (lM (e1,e2,e3)),[]⟩:=@of_eq _ _ (by kernel_rfl) hvc
def K5:Kt:=kOr 104 (bD [.val I,.ptr N] (fun (i,(cs,ns,os,fs,ls,ks),_)=>idx i (D.ilen cs)) fun (i,(cs,ns,os,fs,ls,ks),_)=>.dat S (lK (aP cs ns) i))
 (kOr 106 (bD [.val I,.ptr N] (fun (i,(cs,ns,os,fs,ls,ks),_)=>idx i (D.ilen os)) fun (i,(cs,ns,os,fs,ls,ks),_)=>.dat S (lK (os) i))
 (kOr 108 (bD [.row S] (fun _=>True) fun _=>.dat .bool true)
 (kOr 109 (bD [.val I,.ptr N] (fun (i,(cs,ns,os,fs,ls,ks),_)=>idx i (D.ilen fs)) fun (i,(cs,ns,os,fs,ls,ks),_)=>.dat S (lK (aS fs) i))
 (kOr 111 (bD [.row Of,.ptr N] (fun _=>True) fun (o,n,_)=>.dat .bool (iV n o))
 (kOr 113 (bD [.val I,.ptr N] (fun (i,(cs,ns,os,fs,ls,ks),_)=>idx i (D.ilen ls)) fun (i,(cs,ns,os,fs,ls,ks),_)=>.dat S (lK (aT ls) i))
 (kOr 115 (bD [.row Ln,.ptr N] (fun _=>True) fun (l,n,_)=>.dat .bool (iI n l))
 (kOr 117 (bD [.val I,.ptr N] (fun (i,(cs,ns,os,fs,ls,ks),_)=>idx i (D.ilen ks)) fun (i,(cs,ns,os,fs,ls,ks),_)=>.dat S (lK (aU ks) i))
 (kOr 119 (bD [.row Kl] (fun _=>True) fun (k,_)=>.dat .bool (lM k)) K4))))))))
def twA (l:List ByteArray) (i:Int):Ann:=⟨fun id st=>match id with
 | 2=>some { α:=Int,inv:=fun k=>aCa l i k,st:=fun k=>put st [(6,.dat I k)],μ:=fun k=>D.nat (D.sub i k) }
 | _=>none,fun _ _=>none,fun _ _=>none⟩
theorem aSj (i:Int) (cs:LC) (ns os:LB) (fs:List Off) (ls:List Line) (ks:List Cla) (hvc :
 let c1:=D.not (fG (lK (aP cs ns) i));
 let c2:=dJ (aP cs ns) i;true=true∧(idx i (D.ilen cs)→idx i (D.ilen cs)∧True∧(c1=true→(1:Int)=c2∧True)∧(c1=false→(0:Int)
 = c2∧True))) :
  evF (mkc K5) bF 131 [.dat I i,.ipv (.fn 104 [.ip N (cs,ns,os,fs,ls,ks)])] [] ⟨idx i (D.ilen cs),.dat I (dJ (aP cs ns) i),[]⟩:=@of_eq _ _ (by kernel_rfl) hvc
theorem aSe (i:Int) (cs:LC) (ns os:LB) (fs:List Off) (ls:List Line) (ks:List Cla) (hvc :
 let c1:=D.ilen cs;
 let c2:=(cs,ns,os,fs,ls,ks);
 let c3:=rule2 (aP cs ns) i;true=true∧(aAm i c1→(∃ x,aCa (aP cs ns) i x∧i=i∧c2=c2∧i=i∧(0:Int)=x∧True)∧∀ (x:Int),
 let c4:=D.sEq (lK (aP cs ns) x) (lK (aP cs ns) i);
 let c5:=D.add x (1:Int);aCa (aP cs ns) i x→(D.lt x i=true→idx x c1∧idx i c1∧(c4=true→(4:Int)=c3∧True)∧(c4=false→inR
 IntKind.i64 c5∧∃ y,aCa (aP cs ns) i y∧(i=i∧c2=c2∧i=i∧c5=y∧True)∧D.nlt (D.nat (D.sub i y)) (D.nat (D.sub i x))))∧(D.lt x i =
 false→(0:Int)=c3∧True))) :
  evF (mkc K5) (lvA [(2,[0,1,3,4,5,6])] (twA (aP cs ns) i)) 133 [.dat I i,.ipv (.fn 104 [.ip N (cs,ns,os,fs,ls,ks)])] [] ⟨aAm i (D.ilen cs),.dat I (rule2 (aP cs ns) i),[]⟩:=@of_eq _ _ (by kernel_rfl) hvc
theorem aR9 (i:Int) (cs:LC) (ns os:LB) (fs:List Off) (ls:List Line) (ks:List Cla) (hvc :
 let c1:=D.ilen cs;
 let c2:=D.get cs (D.nat i) ((0:Int),D.nil Bool,D.nil Int);
 let c3:=c2.snd;
 let c4:=D.not (bM c2.fst c3.fst c3.snd);true=true∧(idx i c1→D.ile (0:Int) i∧D.ilt i c1∧True∧(c4=true→(1:Int)=dR (bY cs) i
 ∧ True)∧(c4=false→(0:Int)=dR (bY cs) i∧True))) :
  evF (mkc K5) bF 134 [.dat I i,.ipv (.fn 75 []),.ip (.sl C) cs] [] ⟨idx i (D.ilen cs),.dat I (dR (bY cs) i),[]⟩:=@of_eq _ _ (by kernel_rfl) hvc
theorem aSi (i:Int) (cs:LC) (ns os:LB) (fs:List Off) (ls:List Line) (ks:List Cla) (hvc :
 let c1:=D.not (fG (lK os i));true=true∧(idx i (D.ilen os)→idx i (D.ilen os)∧True∧(c1=true→(1:Int)=dJ os i∧True)∧(c1=false →
 (0:Int)=dJ os i∧True))) :
  evF (mkc K5) bF 135 [.dat I i,.ipv (.fn 106 [.ip N (cs,ns,os,fs,ls,ks)])] [] ⟨idx i (D.ilen os),.dat I (dJ (os) i),[]⟩:=@of_eq _ _ (by kernel_rfl) hvc
theorem aSd (i:Int) (cs:LC) (ns os:LB) (fs:List Off) (ls:List Line) (ks:List Cla) (hvc :
 let c1:=(cs,ns,os,fs,ls,ks);true=true∧(aAm i (D.ilen os)→(∃ x,aCa os i x∧i=i∧c1=c1∧i=i∧(0:Int)=x∧True)∧∀ (x:Int),
 let c2:=D.sEq (lK os x) (lK os i);
 let c3:=D.add x (1:Int);aCa os i x→(D.lt x i=true→idx x (D.ilen os)∧idx i (D.ilen os)∧(c2=true→(4:Int)=rule2 os i∧True)∧(c2=false
 → inR IntKind.i64 c3∧∃ y,aCa os i y∧(i=i∧c1=c1∧i=i∧c3=y∧True)∧D.nlt (D.nat (D.sub i y)) (D.nat (D.sub i x))))∧(D.lt x i=false→(0
 : Int)=rule2 os i∧True))) :
  evF (mkc K5) (lvA [(2,[0,1,3,4,5,6])] (twA (os) i)) 136 [.dat I i,.ipv (.fn 106 [.ip N (cs,ns,os,fs,ls,ks)])] [] ⟨aAm i (D.ilen os),.dat I (rule2 (os) i),[]⟩:=@of_eq _ _ (by kernel_rfl) hvc
theorem aR8 (i:Int) (cs:LC) (ns os:LB) (fs:List Off) (ls:List Line) (ks:List Cla) (hvc :
 true=true∧(idx i (D.ilen os)→D.ile (0:Int) i∧D.ilt i (D.ilen os)∧True∧(D.not true=true→(1:Int)=dR (dW
 os) i∧True)∧(D.not true=false→(0:Int)=dR (dW os) i∧True))) :
  evF (mkc K5) bF 137 [.dat I i,.ipv (.fn 108 []),.ip (.sl S) os] [] ⟨idx i (D.ilen os),.dat I (dR (dW os) i),[]⟩:=@of_eq _ _ (by kernel_rfl) hvc
theorem aSh (i:Int) (cs:LC) (ns os:LB) (fs:List Off) (ls:List Line) (ks:List Cla) (hvc :
 let c1:=D.not (fG (lK (aS fs) i));true=true∧(idx i (D.ilen fs)→idx i (D.ilen fs)∧True∧(c1=true→(1:Int)=dJ (aS fs) i ∧
 True)∧(c1=false→(0:Int)=dJ (aS fs) i∧True))) :
  evF (mkc K5) bF 138 [.dat I i,.ipv (.fn 109 [.ip N (cs,ns,os,fs,ls,ks)])] [] ⟨idx i (D.ilen fs),.dat I (dJ (aS fs) i),[]⟩:=@of_eq _ _ (by kernel_rfl) hvc
theorem aSc (i:Int) (cs:LC) (ns os:LB) (fs:List Off) (ls:List Line) (ks:List Cla) (hvc :
 let c1:=D.ilen fs;
 let c2:=(cs,ns,os,fs,ls,ks);true=true∧(aAm i c1→(∃ x,aCa (aS fs) i x∧i=i∧c2=c2∧i=i∧(0:Int)=x∧True)∧∀ (x:Int),
 let c3:=D.sEq (lK (aS fs) x) (lK (aS fs) i);
 let c4:=D.add x (1:Int);aCa (aS fs) i x→(D.lt x i=true→idx x c1∧idx i c1∧(c3=true→(4:Int)=rule2 (aS fs) i∧True)∧(c3 =
 false→inR IntKind.i64 c4∧∃ y,aCa (aS fs) i y∧(i=i∧c2=c2∧i=i∧c4=y∧True)∧D.nlt (D.nat (D.sub i y)) (D.nat (D.sub i x))))∧(D.lt
 x i=false→(0:Int)=rule2 (aS fs) i∧True))) :
  evF (mkc K5) (lvA [(2,[0,1,3,4,5,6])] (twA (aS fs) i)) 139 [.dat I i,.ipv (.fn 109 [.ip N (cs,ns,os,fs,ls,ks)])] [] ⟨aAm i (D.ilen fs),.dat I (rule2 (aS fs) i),[]⟩:=@of_eq _ _ (by kernel_rfl) hvc
theorem aR7 (i:Int) (cs:LC) (ns os:LB) (fs:List Off) (ls:List Line) (ks:List Cla) (hvc :
 let c1:=D.ilen fs;
 let c2:=(cs,ns,os,fs,ls,ks);
 let c3:=D.get fs (D.nat i) (ByteArray.mk (D.nil UInt8).toArray,(0:Int),(0:Int),(0:Int),(0:Int),(0:Int),D.nil ByteArray);
 let c4:=c3.snd;
 let c5:=c4.snd;
 let c6:=c5.snd;
 let c7:=c6.snd;
 let c8:=c7.snd;
 let c9:=D.not (iV c2 (c3.fst,c4.fst,c5.fst,c6.fst,c7.fst,c8.fst,c8.snd));
 let c10:=dR (gY c2) i;true=true∧(idx i c1→D.ile (0:Int) i∧D.ilt i c1∧True∧(c9=true→(1:Int)=c10∧True)∧(c9=false→(0 :
 Int)=c10∧True))) :
  evF (mkc K5) bF 140 [.dat I i,.ipv (.fn 111 [.ip N (cs,ns,os,fs,ls,ks)]),.ip (.sl Of) fs] [] ⟨idx i (D.ilen fs),.dat I (dR (gY (cs,ns,os,fs,ls,ks)) i),[]⟩:=@of_eq _ _ (by kernel_rfl) hvc
theorem aSg (i:Int) (cs:LC) (ns os:LB) (fs:List Off) (ls:List Line) (ks:List Cla) (hvc :
 let c1:=D.not (fG (lK (aT ls) i));true=true∧(idx i (D.ilen ls)→idx i (D.ilen ls)∧True∧(c1=true→(1:Int)=dJ (aT ls) i ∧
 True)∧(c1=false→(0:Int)=dJ (aT ls) i∧True))) :
  evF (mkc K5) bF 145 [.dat I i,.ipv (.fn 113 [.ip N (cs,ns,os,fs,ls,ks)])] [] ⟨idx i (D.ilen ls),.dat I (dJ (aT ls) i),[]⟩:=@of_eq _ _ (by kernel_rfl) hvc
theorem aSb (i:Int) (cs:LC) (ns os:LB) (fs:List Off) (ls:List Line) (ks:List Cla) (hvc :
 let c1:=D.ilen ls;
 let c2:=(cs,ns,os,fs,ls,ks);true=true∧(aAm i c1→(∃ x,aCa (aT ls) i x∧i=i∧c2=c2∧i=i∧(0:Int)=x∧True)∧∀ (x:Int),
 let c3:=D.sEq (lK (aT ls) x) (lK (aT ls) i);
 let c4:=D.add x (1:Int);aCa (aT ls) i x→(D.lt x i=true→idx x c1∧idx i c1∧(c3=true→(4:Int)=rule2 (aT ls) i∧True)∧(c3 =
 false→inR IntKind.i64 c4∧∃ y,aCa (aT ls) i y∧(i=i∧c2=c2∧i=i∧c4=y∧True)∧D.nlt (D.nat (D.sub i y)) (D.nat (D.sub i x))))∧(D.lt
 x i=false→(0:Int)=rule2 (aT ls) i∧True))) :
  evF (mkc K5) (lvA [(2,[0,1,3,4,5,6])] (twA (aT ls) i)) 146 [.dat I i,.ipv (.fn 113 [.ip N (cs,ns,os,fs,ls,ks)])] [] ⟨aAm i (D.ilen ls),.dat I (rule2 (aT ls) i),[]⟩:=@of_eq _ _ (by kernel_rfl) hvc
theorem aR6 (i:Int) (cs:LC) (ns os:LB) (fs:List Off) (ls:List Line) (ks:List Cla) (hvc :
 let c1:=D.ilen ls;
 let c2:=(cs,ns,os,fs,ls,ks);
 let c3:=D.get ls (D.nat i) (ByteArray.mk (D.nil UInt8).toArray,(0:Int),(0:Int),(0:Int),(0:Int),(0:Int));
 let c4:=c3.snd;
 let c5:=c4.snd;
 let c6:=c5.snd;
 let c7:=c6.snd;
 let c8:=D.not (iI c2 (c3.fst,c4.fst,c5.fst,c6.fst,c7.fst,c7.snd));
 let c9:=dR (fZ c2) i;true=true∧(idx i c1→D.ile (0:Int) i∧D.ilt i c1∧True∧(c8=true→(1:Int)=c9∧True)∧(c8=false→(0:Int)
 = c9∧True))) :
  evF (mkc K5) bF 147 [.dat I i,.ipv (.fn 115 [.ip N (cs,ns,os,fs,ls,ks)]),.ip (.sl Ln) ls] [] ⟨idx i (D.ilen ls),.dat I (dR (fZ (cs,ns,os,fs,ls,ks)) i),[]⟩:=@of_eq _ _ (by kernel_rfl) hvc
theorem aSf (i:Int) (cs:LC) (ns os:LB) (fs:List Off) (ls:List Line) (ks:List Cla) (hvc :
 let c1:=D.not (fG (lK (aU ks) i));true=true∧(idx i (D.ilen ks)→idx i (D.ilen ks)∧True∧(c1=true→(1:Int)=dJ (aU ks) i ∧
 True)∧(c1=false→(0:Int)=dJ (aU ks) i∧True))) :
  evF (mkc K5) bF 149 [.dat I i,.ipv (.fn 117 [.ip N (cs,ns,os,fs,ls,ks)])] [] ⟨idx i (D.ilen ks),.dat I (dJ (aU ks) i),[]⟩:=@of_eq _ _ (by kernel_rfl) hvc
theorem aSa (i:Int) (cs:LC) (ns os:LB) (fs:List Off) (ls:List Line) (ks:List Cla) (hvc :
 let c1:=D.ilen ks;
 let c2:=(cs,ns,os,fs,ls,ks);true=true∧(aAm i c1→(∃ x,aCa (aU ks) i x∧i=i∧c2=c2∧i=i∧(0:Int)=x∧True)∧∀ (x:Int),
 let c3:=D.sEq (lK (aU ks) x) (lK (aU ks) i);
 let c4:=D.add x (1:Int);aCa (aU ks) i x→(D.lt x i=true→idx x c1∧idx i c1∧(c3=true→(4:Int)=rule2 (aU ks) i∧True)∧(c3 =
 false→inR IntKind.i64 c4∧∃ y,aCa (aU ks) i y∧(i=i∧c2=c2∧i=i∧c4=y∧True)∧D.nlt (D.nat (D.sub i y)) (D.nat (D.sub i x))))∧(D.lt
 x i=false→(0:Int)=rule2 (aU ks) i∧True))) :
  evF (mkc K5) (lvA [(2,[0,1,3,4,5,6])] (twA (aU ks) i)) 150 [.dat I i,.ipv (.fn 117 [.ip N (cs,ns,os,fs,ls,ks)])] [] ⟨aAm i (D.ilen ks),.dat I (rule2 (aU ks) i),[]⟩:=@of_eq _ _ (by kernel_rfl) hvc
theorem aR5 (i:Int) (cs:LC) (ns os:LB) (fs:List Off) (ls:List Line) (ks:List Cla) (hvc :
 let c1:=D.ilen ks;
 let c2:=D.get ks (D.nat i) (ByteArray.mk (D.nil UInt8).toArray,(0:Int),(0:Int));
 let c3:=c2.snd;
 let c4:=D.not (lM (c2.fst,c3.fst,c3.snd));true=true∧(idx i c1→D.ile (0:Int) i∧D.ilt i c1∧True∧(c4=true→(1:Int)=dR (cZ
 ks) i∧True)∧(c4=false→(0:Int)=dR (cZ ks) i∧True))) :
  evF (mkc K5) bF 151 [.dat I i,.ipv (.fn 119 []),.ip (.sl Kl) ks] [] ⟨idx i (D.ilen ks),.dat I (dR (cZ ks) i),[]⟩:=@of_eq _ _ (by kernel_rfl) hvc
def K6:Kt :=
 kOr 131 (bD [.val I,.fnp 104 N] (fun (i,(cs,ns,os,fs,ls,ks),_)=>idx i (D.ilen cs)) fun (i,(cs,ns,os,fs,ls,ks),_)=>.dat I (dJ (aP cs ns) i)) <|
 kOr 133 (bD [.val I,.fnp 104 N] (fun (i,(cs,ns,os,fs,ls,ks),_)=>aAm i (D.ilen cs)) fun (i,(cs,ns,os,fs,ls,ks),_)=>.dat I (rule2 (aP cs ns) i)) <|
 kOr 134 (bD [.val I,.fnp0 75,.ptr (.sl C)] (fun (i,_,cs,_)=>idx i (D.ilen cs)) fun (i,_,cs,_)=>.dat I (dR (bY cs) i)) <|
 kOr 135 (bD [.val I,.fnp 106 N] (fun (i,(cs,ns,os,fs,ls,ks),_)=>idx i (D.ilen os)) fun (i,(cs,ns,os,fs,ls,ks),_)=>.dat I (dJ (os) i)) <|
 kOr 136 (bD [.val I,.fnp 106 N] (fun (i,(cs,ns,os,fs,ls,ks),_)=>aAm i (D.ilen os)) fun (i,(cs,ns,os,fs,ls,ks),_)=>.dat I (rule2 (os) i)) <|
 kOr 137 (bD [.val I,.fnp0 108,.ptr (.sl S)] (fun (i,_,os,_)=>idx i (D.ilen os)) fun (i,_,os,_)=>.dat I (dR (dW os) i)) <|
 kOr 138 (bD [.val I,.fnp 109 N] (fun (i,(cs,ns,os,fs,ls,ks),_)=>idx i (D.ilen fs)) fun (i,(cs,ns,os,fs,ls,ks),_)=>.dat I (dJ (aS fs) i)) <|
 kOr 139 (bD [.val I,.fnp 109 N] (fun (i,(cs,ns,os,fs,ls,ks),_)=>aAm i (D.ilen fs)) fun (i,(cs,ns,os,fs,ls,ks),_)=>.dat I (rule2 (aS fs) i)) <|
 kOr 140 (bD [.val I,.fnp 111 N,.ptr (.sl Of)] (fun (i,(cs,ns,os,fs,ls,ks),xs,_)=>idx i (D.ilen fs)∧xs=fs) fun (i,(cs,ns,os,fs,ls,ks),_,_)=>.dat I (dR (gY (cs,ns,os,fs,ls,ks)) i)) <|
 kOr 145 (bD [.val I,.fnp 113 N] (fun (i,(cs,ns,os,fs,ls,ks),_)=>idx i (D.ilen ls)) fun (i,(cs,ns,os,fs,ls,ks),_)=>.dat I (dJ (aT ls) i)) <|
 kOr 146 (bD [.val I,.fnp 113 N] (fun (i,(cs,ns,os,fs,ls,ks),_)=>aAm i (D.ilen ls)) fun (i,(cs,ns,os,fs,ls,ks),_)=>.dat I (rule2 (aT ls) i)) <|
 kOr 147 (bD [.val I,.fnp 115 N,.ptr (.sl Ln)] (fun (i,(cs,ns,os,fs,ls,ks),xs,_)=>idx i (D.ilen ls)∧xs=ls) fun (i,(cs,ns,os,fs,ls,ks),_,_)=>.dat I (dR (fZ (cs,ns,os,fs,ls,ks)) i)) <|
 kOr 149 (bD [.val I,.fnp 117 N] (fun (i,(cs,ns,os,fs,ls,ks),_)=>idx i (D.ilen ks)) fun (i,(cs,ns,os,fs,ls,ks),_)=>.dat I (dJ (aU ks) i)) <|
 kOr 150 (bD [.val I,.fnp 117 N] (fun (i,(cs,ns,os,fs,ls,ks),_)=>aAm i (D.ilen ks)) fun (i,(cs,ns,os,fs,ls,ks),_)=>.dat I (rule2 (aU ks) i)) <|
 kOr 151 (bD [.val I,.fnp0 119,.ptr (.sl Kl)] (fun (i,_,ks,_)=>idx i (D.ilen ks)) fun (i,_,ks,_)=>.dat I (dR (cZ ks) i)) <|
 K5
def aFv (kind lim:Int) (l:List ByteArray) (g:List Bool):Ann:=⟨fun id st=>match id with
 | 4=>some { α:=Int,inv:=fun k=>iD k (D.ilen l) lim,st:=fun k=>aAd (put st [(25,.dat I k),(12,.buf 100 (D.len (bH kind l g k)))]) 100 (.buf 118 Fa (bH kind l g k) []),μ:=fun k=>D.nat (D.sub lim k) }
 | 7=>match st.sig.T 13 with
  | .dat (.int .i64) i=>some { α:=Int,inv:=fun k=>dZ l g i k,st:=fun k=>put st [(29,.dat I k),(12,.buf 100 (D.len (bH kind l g i)))],μ:=fun k=>D.nat (D.sub 3 k) }
  | _=>none
 | _=>none,fun _ _=>none,fun _ _=>none⟩
theorem aSB (cs:LC) (ns os:LB) (fs:List Off) (ls:List Line) (ks:List Cla) (hvc :
 let c1:=D.ilen cs;
 let c2:=D.mn c1 (6:Int);
 let c3:=(cs,ns,os,fs,ls,ks);
 let c4:=D.gt c1 (6:Int);
 let c5:=[((1:Int),(6:Int),(2:Int))];
 let c6:=dH (1:Int) (6:Int) (aP cs ns) (bY cs);true=true∧(True→1=1∧0=0∧(∃ x,
 let c7:=bH (1:Int) (aP cs ns) (bY cs) x;iD x (D.ilen (aP cs ns)) (6:Int)∧(1:Int)=(1:Int)∧(6:Int)=(6:Int)∧cs =
 cs∧Value.slice none (0) (0)=Value.slice none (0) (0)∧1=1∧0=0∧0=0∧D.len c7=0∧c7=D.nil (Int×Int×Int)∧c2=c2∧(0:Int)=x∧c3 =
 c3∧c3=c3∧cs=cs∧c7=D.nil (Int×Int×Int)∧True)∧∀ (x:Int),
 let c8:=D.ilen (aP cs ns);
 let c9:=bH (1:Int) (aP cs ns) (bY cs) x;
 let c10:=D.len c9;
 let c11:=[dJ (aP cs ns) x,rule2 (aP cs ns) x,dR (bY cs) x];
 let c12:=D.add x (1:Int);
 let c13:=D.fE c10 (D.len c5);
 let c14:=D.app c9 c5;iD x c8 (6:Int)→(D.lt x c2=true→1=1∧0=0∧(∃ x_3,dZ (aP cs ns) (bY cs) x x_3∧(1:Int)=(1:Int)
 ∧ (6:Int)=(6:Int)∧cs=cs∧Value.slice none (0) (0)=Value.slice none (0) (0)∧1=1∧0=0∧0=0∧c10=c10∧x=x∧c2=c2∧x=x∧c3=c3
 ∧ c3=c3∧cs=cs∧(0:Int)=x_3∧c3=c3∧c3=c3∧cs=cs∧c9=c9∧True)∧∀ (x_3:Int),
 let c15:=D.lt x_3 (3:Int);
 let c16:=D.get c11 (D.nat x_3) (0:Int);
 let c17:=D.ne c16 (0:Int);
 let c18:=[((1:Int),x,c16)];
 let c19:=D.fE c10 (D.len c18);
 let c20:=D.add x_3 (1:Int);dZ (aP cs ns) (bY cs) x x_3→(c15=true→D.ile (0:Int) x_3∧D.ilt x_3 (D.ofN (3))∧(D.nat x_3=0→idx
 x c1)∧(D.nat x_3=1→aAm x c1)∧(D.nat x_3=2→idx x c1)∧(c17=true→c10=c10∧D.nle (D.nI c19 (24)) (140737488355328)∧D.nle c19
 (9223372036854775807)∧inR IntKind.i64 c12∧∃ y,
 let c21:=bH (1:Int) (aP cs ns) (bY cs) y;iD y c8 (6:Int)∧((1:Int)=(1:Int)∧(6:Int)=(6:Int)∧cs=cs∧Value.slice
 none (0) (0)=Value.slice none (0) (0)∧1=1∧0=0∧0=0∧c19=D.len c21∧c2=c2∧c12=y∧c3=c3∧c3=c3∧cs=cs∧D.app c9 c18=c21 ∧
 True)∧D.nlt (D.nat (D.sub (6:Int) y)) (D.nat (D.sub (6:Int) x)))∧(c17=false→inR IntKind.i64 c20∧∃ y,dZ (aP cs ns) (bY cs) x y ∧
 ((1:Int)=(1:Int)∧(6:Int)=(6:Int)∧cs=cs∧Value.slice none (0) (0)=Value.slice none (0) (0)∧1=1∧0=0∧0=0∧c10=c10∧x=x∧c2
 = c2∧x=x∧c3=c3∧c3=c3∧cs=cs∧c20=y∧c3=c3∧c3=c3∧cs=cs∧c9=c9∧True)∧D.nlt (D.nat (D.sub (3:Int) y)) (D.nat (D.sub (3 :
 Int) x_3))))∧(c15=false→inR IntKind.i64 c12∧∃ y,
 let c22:=bH (1:Int) (aP cs ns) (bY cs) y;iD y c8 (6:Int)∧((1:Int)=(1:Int)∧(6:Int)=(6:Int)∧cs=cs∧Value.slice
 none (0) (0)=Value.slice none (0) (0)∧1=1∧0=0∧0=0∧c10=D.len c22∧c2=c2∧c12=y∧c3=c3∧c3=c3∧cs=cs∧c9=c22∧True)∧D.nlt
 (D.nat (D.sub (6:Int) y)) (D.nat (D.sub (6:Int) x))))∧(D.lt x c2=false→(c4=true→c10=c10∧D.nle (D.nI c13 (24)) (140737488355328)∧D.nle c13
 (9223372036854775807)∧D.len c14=c13∧c14=c6∧True)∧(c4=false→c10=c10∧c9=c6∧True)))) :
  evF (mkc K6) (lvA [(4,[0,1,7,10,11,12,13,15,16,24,25,28,29]),(7,[0,1,7,10,11,12,13,15,16,24,25,28,29])] (aFv 1 6 (aP cs ns) (bY cs))) 105 [.dat I 1,.dat I 6,.dat (.sl C) cs,.fn 104 [.ip N (cs,ns,os,fs,ls,ks)],.fn 75 []] [] ⟨True,.dat (.sl Fa) (dH 1 6 (aP cs ns) (bY cs)),[]⟩:=@of_eq _ _ (by kernel_rfl) hvc
theorem aSA (cs:LC) (ns os:LB) (fs:List Off) (ls:List Line) (ks:List Cla) (hvc :
 let c1:=D.mn (D.ilen os) (6:Int);
 let c2:=(cs,ns,os,fs,ls,ks);
 let c3:=D.gt (D.ilen os) (6:Int);
 let c4:=[((2:Int),(6:Int),(2:Int))];
 let c5:=dH (2:Int) (6:Int) os (dW os);true=true∧(True→1=1∧0=0∧(∃ x,
 let c6:=bH (2:Int) os (dW os) x;iD x (D.ilen os) (6:Int)∧(2:Int)=(2:Int)∧(6:Int)=(6:Int)∧os=os∧Value.slice none (0)
 (0)=Value.slice none (0) (0)∧1=1∧0=0∧0=0∧D.len c6=0∧c6=D.nil (Int×Int×Int)∧c1=c1∧(0:Int)=x∧c2=c2∧c2=c2∧os=os ∧
 c6=D.nil (Int×Int×Int)∧True)∧∀ (x:Int),
 let c7:=bH (2:Int) os (dW os) x;
 let c8:=D.len c7;
 let c9:=[dJ os x,rule2 os x,dR (dW os) x];
 let c10:=D.add x (1:Int);
 let c11:=D.fE c8 (D.len c4);
 let c12:=D.app c7 c4;iD x (D.ilen os) (6:Int)→(D.lt x c1=true→1=1∧0=0∧(∃ x_3,dZ os (dW os) x x_3∧(2:Int)=(2:Int)∧(6
 : Int)=(6:Int)∧os=os∧Value.slice none (0) (0)=Value.slice none (0) (0)∧1=1∧0=0∧0=0∧c8=c8∧x=x∧c1=c1∧x=x∧c2=c2∧c2 =
 c2∧os=os∧(0:Int)=x_3∧c2=c2∧c2=c2∧os=os∧c7=c7∧True)∧∀ (x_3:Int),
 let c13:=D.lt x_3 (3:Int);
 let c14:=D.get c9 (D.nat x_3) (0:Int);
 let c15:=D.ne c14 (0:Int);
 let c16:=[((2:Int),x,c14)];
 let c17:=D.fE c8 (D.len c16);
 let c18:=D.add x_3 (1:Int);dZ os (dW os) x x_3→(c13=true→D.ile (0:Int) x_3∧D.ilt x_3 (D.ofN (3))∧(D.nat x_3=0→idx x (D.ilen os))
 ∧ (D.nat x_3=1→aAm x (D.ilen os))∧(D.nat x_3=2→idx x (D.ilen os))∧(c15=true→c8=c8∧D.nle (D.nI c17 (24)) (140737488355328)∧D.nle c17
 (9223372036854775807)∧inR IntKind.i64 c10∧∃ y,
 let c19:=bH (2:Int) os (dW os) y;iD y (D.ilen os) (6:Int)∧((2:Int)=(2:Int)∧(6:Int)=(6:Int)∧os=os∧Value.slice none (0)
 (0)=Value.slice none (0) (0)∧1=1∧0=0∧0=0∧c17=D.len c19∧c1=c1∧c10=y∧c2=c2∧c2=c2∧os=os∧D.app c7 c16=c19∧True)∧D.nlt
 (D.nat (D.sub (6:Int) y)) (D.nat (D.sub (6:Int) x)))∧(c15=false→inR IntKind.i64 c18∧∃ y,dZ os (dW os) x y∧((2:Int)=(2:Int)∧(6
 : Int)=(6:Int)∧os=os∧Value.slice none (0) (0)=Value.slice none (0) (0)∧1=1∧0=0∧0=0∧c8=c8∧x=x∧c1=c1∧x=x∧c2=c2∧c2 =
 c2∧os=os∧c18=y∧c2=c2∧c2=c2∧os=os∧c7=c7∧True)∧D.nlt (D.nat (D.sub (3:Int) y)) (D.nat (D.sub (3:Int) x_3))))∧(c13=false→inR
 IntKind.i64 c10∧∃ y,
 let c20:=bH (2:Int) os (dW os) y;iD y (D.ilen os) (6:Int)∧((2:Int)=(2:Int)∧(6:Int)=(6:Int)∧os=os∧Value.slice none (0)
 (0)=Value.slice none (0) (0)∧1=1∧0=0∧0=0∧c8=D.len c20∧c1=c1∧c10=y∧c2=c2∧c2=c2∧os=os∧c7=c20∧True)∧D.nlt (D.nat
 (D.sub (6:Int) y)) (D.nat (D.sub (6:Int) x))))∧(D.lt x c1=false→(c3=true→c8=c8∧D.nle (D.nI c11 (24)) (140737488355328)∧D.nle c11
 (9223372036854775807)∧D.len c12=c11∧c12=c5∧True)∧(c3=false→c8=c8∧c7=c5∧True)))) :
  evF (mkc K6) (lvA [(4,[0,1,7,10,11,12,13,15,16,24,25,28,29]),(7,[0,1,7,10,11,12,13,15,16,24,25,28,29])] (aFv 2 6 (os) (dW os))) 107 [.dat I 2,.dat I 6,.dat (.sl S) os,.fn 106 [.ip N (cs,ns,os,fs,ls,ks)],.fn 108 []] [] ⟨True,.dat (.sl Fa) (dH 2 6 (os) (dW os)),[]⟩:=@of_eq _ _ (by kernel_rfl) hvc
theorem aSz (cs:LC) (ns os:LB) (fs:List Off) (ls:List Line) (ks:List Cla) (hvc :
 let c1:=(cs,ns,os,fs,ls,ks);
 let c2:=gY c1;
 let c3:=D.ilen fs;
 let c4:=D.mn c3 (12:Int);
 let c5:=D.gt c3 (12:Int);
 let c6:=[((3:Int),(12:Int),(2:Int))];
 let c7:=dH (3:Int) (12:Int) (aS fs) c2;true=true∧(True→1=1∧0=0∧(∃ x,
 let c8:=bH (3:Int) (aS fs) c2 x;iD x (D.ilen (aS fs)) (12:Int)∧(3:Int)=(3:Int)∧(12:Int)=(12:Int)∧fs=fs ∧
 Value.slice none (0) (0)=Value.slice none (0) (0)∧1=1∧0=0∧0=0∧D.len c8=0∧c8=D.nil (Int×Int×Int)∧c4=c4∧(0:Int)=x∧c1=c1 ∧
 c1=c1∧c1=c1∧fs=fs∧c8=D.nil (Int×Int×Int)∧True)∧∀ (x:Int),
 let c9:=bH (3:Int) (aS fs) c2 x;
 let c10:=D.len c9;
 let c11:=[dJ (aS fs) x,rule2 (aS fs) x,dR c2 x];
 let c12:=D.add x (1:Int);
 let c13:=D.fE c10 (D.len c6);
 let c14:=D.app c9 c6;iD x (D.ilen (aS fs)) (12:Int)→(D.lt x c4=true→1=1∧0=0∧(∃ x_3,dZ (aS fs) c2 x x_3∧(3:Int)=(3
 : Int)∧(12:Int)=(12:Int)∧fs=fs∧Value.slice none (0) (0)=Value.slice none (0) (0)∧1=1∧0=0∧0=0∧c10=c10∧x=x∧c4=c4∧x=x
 ∧ c1=c1∧c1=c1∧c1=c1∧fs=fs∧(0:Int)=x_3∧c1=c1∧c1=c1∧c1=c1∧fs=fs∧c9=c9∧True)∧∀ (x_3:Int),
 let c15:=D.lt x_3 (3:Int);
 let c16:=D.get c11 (D.nat x_3) (0:Int);
 let c17:=D.ne c16 (0:Int);
 let c18:=[((3:Int),x,c16)];
 let c19:=D.fE c10 (D.len c18);
 let c20:=D.add x_3 (1:Int);dZ (aS fs) c2 x x_3→(c15=true→D.ile (0:Int) x_3∧D.ilt x_3 (D.ofN (3))∧(D.nat x_3=0→idx x c3)∧(D.nat
 x_3=1→aAm x c3)∧(D.nat x_3=2→idx x c3∧fs=fs)∧(c17=true→c10=c10∧D.nle (D.nI c19 (24)) (140737488355328)∧D.nle c19
 (9223372036854775807)∧inR IntKind.i64 c12∧∃ y,
 let c21:=bH (3:Int) (aS fs) c2 y;iD y (D.ilen (aS fs)) (12:Int)∧((3:Int)=(3:Int)∧(12:Int)=(12:Int)∧fs=fs ∧
 Value.slice none (0) (0)=Value.slice none (0) (0)∧1=1∧0=0∧0=0∧c19=D.len c21∧c4=c4∧c12=y∧c1=c1∧c1=c1∧c1=c1∧fs=fs ∧
 D.app c9 c18=c21∧True)∧D.nlt (D.nat (D.sub (12:Int) y)) (D.nat (D.sub (12:Int) x)))∧(c17=false→inR IntKind.i64 c20∧∃ y,dZ (aS fs)
 c2 x y∧((3:Int)=(3:Int)∧(12:Int)=(12:Int)∧fs=fs∧Value.slice none (0) (0)=Value.slice none (0) (0)∧1=1∧0=0∧0=0∧c10=c10 ∧
 x=x∧c4=c4∧x=x∧c1=c1∧c1=c1∧c1=c1∧fs=fs∧c20=y∧c1=c1∧c1=c1∧c1=c1∧fs=fs∧c9=c9∧True)∧D.nlt (D.nat (D.sub (3 :
 Int) y)) (D.nat (D.sub (3:Int) x_3))))∧(c15=false→inR IntKind.i64 c12∧∃ y,
 let c22:=bH (3:Int) (aS fs) c2 y;iD y (D.ilen (aS fs)) (12:Int)∧((3:Int)=(3:Int)∧(12:Int)=(12:Int)∧fs=fs ∧
 Value.slice none (0) (0)=Value.slice none (0) (0)∧1=1∧0=0∧0=0∧c10=D.len c22∧c4=c4∧c12=y∧c1=c1∧c1=c1∧c1=c1∧fs=fs∧c9
 = c22∧True)∧D.nlt (D.nat (D.sub (12:Int) y)) (D.nat (D.sub (12:Int) x))))∧(D.lt x c4=false→(c5=true→c10=c10∧D.nle (D.nI c13 (24))
 (140737488355328)∧D.nle c13 (9223372036854775807)∧D.len c14=c13∧c14=c7∧True)∧(c5=false→c10=c10∧c9=c7∧True)))) :
  evF (mkc K6) (lvA [(4,[0,1,7,10,11,12,13,15,16,24,25,28,29]),(7,[0,1,7,10,11,12,13,15,16,24,25,28,29])] (aFv 3 12 (aS fs) (gY (cs,ns,os,fs,ls,ks)))) 110 [.dat I 3,.dat I 12,.dat (.sl Of) fs,.fn 109 [.ip N (cs,ns,os,fs,ls,ks)],.fn 111 [.ip N (cs,ns,os,fs,ls,ks)]] [] ⟨True,.dat (.sl Fa) (dH 3 12 (aS fs) (gY (cs,ns,os,fs,ls,ks))),[]⟩:=@of_eq _ _ (by kernel_rfl) hvc
theorem aSy (cs:LC) (ns os:LB) (fs:List Off) (ls:List Line) (ks:List Cla) (hvc :
 let c1:=(cs,ns,os,fs,ls,ks);
 let c2:=fZ c1;
 let c3:=D.ilen ls;
 let c4:=D.mn c3 (40:Int);
 let c5:=D.gt c3 (40:Int);
 let c6:=[((4:Int),(40:Int),(2:Int))];
 let c7:=dH (4:Int) (40:Int) (aT ls) c2;true=true∧(True→1=1∧0=0∧(∃ x,
 let c8:=bH (4:Int) (aT ls) c2 x;iD x (D.ilen (aT ls)) (40:Int)∧(4:Int)=(4:Int)∧(40:Int)=(40:Int)∧ls=ls ∧
 Value.slice none (0) (0)=Value.slice none (0) (0)∧1=1∧0=0∧0=0∧D.len c8=0∧c8=D.nil (Int×Int×Int)∧c4=c4∧(0:Int)=x∧c1=c1 ∧
 c1=c1∧c1=c1∧ls=ls∧c8=D.nil (Int×Int×Int)∧True)∧∀ (x:Int),
 let c9:=bH (4:Int) (aT ls) c2 x;
 let c10:=D.len c9;
 let c11:=[dJ (aT ls) x,rule2 (aT ls) x,dR c2 x];
 let c12:=D.add x (1:Int);
 let c13:=D.fE c10 (D.len c6);
 let c14:=D.app c9 c6;iD x (D.ilen (aT ls)) (40:Int)→(D.lt x c4=true→1=1∧0=0∧(∃ x_3,dZ (aT ls) c2 x x_3∧(4:Int)=(4
 : Int)∧(40:Int)=(40:Int)∧ls=ls∧Value.slice none (0) (0)=Value.slice none (0) (0)∧1=1∧0=0∧0=0∧c10=c10∧x=x∧c4=c4∧x=x
 ∧ c1=c1∧c1=c1∧c1=c1∧ls=ls∧(0:Int)=x_3∧c1=c1∧c1=c1∧c1=c1∧ls=ls∧c9=c9∧True)∧∀ (x_3:Int),
 let c15:=D.lt x_3 (3:Int);
 let c16:=D.get c11 (D.nat x_3) (0:Int);
 let c17:=D.ne c16 (0:Int);
 let c18:=[((4:Int),x,c16)];
 let c19:=D.fE c10 (D.len c18);
 let c20:=D.add x_3 (1:Int);dZ (aT ls) c2 x x_3→(c15=true→D.ile (0:Int) x_3∧D.ilt x_3 (D.ofN (3))∧(D.nat x_3=0→idx x c3)∧(D.nat
 x_3=1→aAm x c3)∧(D.nat x_3=2→idx x c3∧ls=ls)∧(c17=true→c10=c10∧D.nle (D.nI c19 (24)) (140737488355328)∧D.nle c19
 (9223372036854775807)∧inR IntKind.i64 c12∧∃ y,
 let c21:=bH (4:Int) (aT ls) c2 y;iD y (D.ilen (aT ls)) (40:Int)∧((4:Int)=(4:Int)∧(40:Int)=(40:Int)∧ls=ls ∧
 Value.slice none (0) (0)=Value.slice none (0) (0)∧1=1∧0=0∧0=0∧c19=D.len c21∧c4=c4∧c12=y∧c1=c1∧c1=c1∧c1=c1∧ls=ls ∧
 D.app c9 c18=c21∧True)∧D.nlt (D.nat (D.sub (40:Int) y)) (D.nat (D.sub (40:Int) x)))∧(c17=false→inR IntKind.i64 c20∧∃ y,dZ (aT ls)
 c2 x y∧((4:Int)=(4:Int)∧(40:Int)=(40:Int)∧ls=ls∧Value.slice none (0) (0)=Value.slice none (0) (0)∧1=1∧0=0∧0=0∧c10=c10 ∧
 x=x∧c4=c4∧x=x∧c1=c1∧c1=c1∧c1=c1∧ls=ls∧c20=y∧c1=c1∧c1=c1∧c1=c1∧ls=ls∧c9=c9∧True)∧D.nlt (D.nat (D.sub (3 :
 Int) y)) (D.nat (D.sub (3:Int) x_3))))∧(c15=false→inR IntKind.i64 c12∧∃ y,
 let c22:=bH (4:Int) (aT ls) c2 y;iD y (D.ilen (aT ls)) (40:Int)∧((4:Int)=(4:Int)∧(40:Int)=(40:Int)∧ls=ls ∧
 Value.slice none (0) (0)=Value.slice none (0) (0)∧1=1∧0=0∧0=0∧c10=D.len c22∧c4=c4∧c12=y∧c1=c1∧c1=c1∧c1=c1∧ls=ls∧c9
 = c22∧True)∧D.nlt (D.nat (D.sub (40:Int) y)) (D.nat (D.sub (40:Int) x))))∧(D.lt x c4=false→(c5=true→c10=c10∧D.nle (D.nI c13 (24))
 (140737488355328)∧D.nle c13 (9223372036854775807)∧D.len c14=c13∧c14=c7∧True)∧(c5=false→c10=c10∧c9=c7∧True)))) :
  evF (mkc K6) (lvA [(4,[0,1,7,10,11,12,13,15,16,24,25,28,29]),(7,[0,1,7,10,11,12,13,15,16,24,25,28,29])] (aFv 4 40 (aT ls) (fZ (cs,ns,os,fs,ls,ks)))) 114 [.dat I 4,.dat I 40,.dat (.sl Ln) ls,.fn 113 [.ip N (cs,ns,os,fs,ls,ks)],.fn 115 [.ip N (cs,ns,os,fs,ls,ks)]] [] ⟨True,.dat (.sl Fa) (dH 4 40 (aT ls) (fZ (cs,ns,os,fs,ls,ks))),[]⟩:=@of_eq _ _ (by kernel_rfl) hvc
theorem aSx (cs:LC) (ns os:LB) (fs:List Off) (ls:List Line) (ks:List Cla) (hvc :
 let c1:=D.ilen ks;
 let c2:=D.mn c1 (4:Int);
 let c3:=(cs,ns,os,fs,ls,ks);
 let c4:=D.gt c1 (4:Int);
 let c5:=[((5:Int),(4:Int),(2:Int))];
 let c6:=dH (5:Int) (4:Int) (aU ks) (cZ ks);true=true∧(True→1=1∧0=0∧(∃ x,
 let c7:=bH (5:Int) (aU ks) (cZ ks) x;iD x (D.ilen (aU ks)) (4:Int)∧(5:Int)=(5:Int)∧(4:Int)=(4:Int)∧ks=ks ∧
 Value.slice none (0) (0)=Value.slice none (0) (0)∧1=1∧0=0∧0=0∧D.len c7=0∧c7=D.nil (Int×Int×Int)∧c2=c2∧(0:Int)=x∧c3=c3 ∧
 c3=c3∧ks=ks∧c7=D.nil (Int×Int×Int)∧True)∧∀ (x:Int),
 let c8:=bH (5:Int) (aU ks) (cZ ks) x;
 let c9:=D.len c8;
 let c10:=[dJ (aU ks) x,rule2 (aU ks) x,dR (cZ ks) x];
 let c11:=D.add x (1:Int);
 let c12:=D.fE c9 (D.len c5);
 let c13:=D.app c8 c5;iD x (D.ilen (aU ks)) (4:Int)→(D.lt x c2=true→1=1∧0=0∧(∃ x_3,dZ (aU ks) (cZ ks) x x_3∧(5 :
 Int)=(5:Int)∧(4:Int)=(4:Int)∧ks=ks∧Value.slice none (0) (0)=Value.slice none (0) (0)∧1=1∧0=0∧0=0∧c9=c9∧x=x∧c2=c2 ∧
 x=x∧c3=c3∧c3=c3∧ks=ks∧(0:Int)=x_3∧c3=c3∧c3=c3∧ks=ks∧c8=c8∧True)∧∀ (x_3:Int),
 let c14:=D.lt x_3 (3:Int);
 let c15:=D.get c10 (D.nat x_3) (0:Int);
 let c16:=D.ne c15 (0:Int);
 let c17:=[((5:Int),x,c15)];
 let c18:=D.fE c9 (D.len c17);
 let c19:=D.add x_3 (1:Int);dZ (aU ks) (cZ ks) x x_3→(c14=true→D.ile (0:Int) x_3∧D.ilt x_3 (D.ofN (3))∧(D.nat x_3=0→idx x
 c1)∧(D.nat x_3=1→aAm x c1)∧(D.nat x_3=2→idx x c1)∧(c16=true→c9=c9∧D.nle (D.nI c18 (24)) (140737488355328)∧D.nle c18
 (9223372036854775807)∧inR IntKind.i64 c11∧∃ y,
 let c20:=bH (5:Int) (aU ks) (cZ ks) y;iD y (D.ilen (aU ks)) (4:Int)∧((5:Int)=(5:Int)∧(4:Int)=(4:Int)∧ks=ks
 ∧ Value.slice none (0) (0)=Value.slice none (0) (0)∧1=1∧0=0∧0=0∧c18=D.len c20∧c2=c2∧c11=y∧c3=c3∧c3=c3∧ks=ks∧D.app c8
 c17=c20∧True)∧D.nlt (D.nat (D.sub (4:Int) y)) (D.nat (D.sub (4:Int) x)))∧(c16=false→inR IntKind.i64 c19∧∃ y,dZ (aU ks) (cZ
 ks) x y∧((5:Int)=(5:Int)∧(4:Int)=(4:Int)∧ks=ks∧Value.slice none (0) (0)=Value.slice none (0) (0)∧1=1∧0=0∧0=0∧c9=c9∧x
 = x∧c2=c2∧x=x∧c3=c3∧c3=c3∧ks=ks∧c19=y∧c3=c3∧c3=c3∧ks=ks∧c8=c8∧True)∧D.nlt (D.nat (D.sub (3:Int) y)) (D.nat (D.sub
 (3:Int) x_3))))∧(c14=false→inR IntKind.i64 c11∧∃ y,
 let c21:=bH (5:Int) (aU ks) (cZ ks) y;iD y (D.ilen (aU ks)) (4:Int)∧((5:Int)=(5:Int)∧(4:Int)=(4:Int)∧ks=ks
 ∧ Value.slice none (0) (0)=Value.slice none (0) (0)∧1=1∧0=0∧0=0∧c9=D.len c21∧c2=c2∧c11=y∧c3=c3∧c3=c3∧ks=ks∧c8=c21 ∧
 True)∧D.nlt (D.nat (D.sub (4:Int) y)) (D.nat (D.sub (4:Int) x))))∧(D.lt x c2=false→(c4=true→c9=c9∧D.nle (D.nI c12 (24)) (140737488355328)
 ∧ D.nle c12 (9223372036854775807)∧D.len c13=c12∧c13=c6∧True)∧(c4=false→c9=c9∧c8=c6∧True)))) :
  evF (mkc K6) (lvA [(4,[0,1,7,10,11,12,13,15,16,24,25,28,29]),(7,[0,1,7,10,11,12,13,15,16,24,25,28,29])] (aFv 5 4 (aU ks) (cZ ks))) 118 [.dat I 5,.dat I 4,.dat (.sl Kl) ks,.fn 117 [.ip N (cs,ns,os,fs,ls,ks)],.fn 119 []] [] ⟨True,.dat (.sl Fa) (dH 5 4 (aU ks) (cZ ks)),[]⟩:=@of_eq _ _ (by kernel_rfl) hvc
def K7:Kt :=
 kOr 105 (bD [.val I,.val I,.val (.sl C),.fn 104 N,.fn0 75] (fun (k,m,xs,(cs,ns,os,fs,ls,ks),_,_)=>k=1∧m=6∧xs=cs) fun (_,_,_,(cs,ns,os,fs,ls,ks),_,_)=>.dat (.sl Fa) (dH 1 6 (aP cs ns) (bY cs))) <|
 kOr 107 (bD [.val I,.val I,.val (.sl S),.fn 106 N,.fn0 108] (fun (k,m,xs,(cs,ns,os,fs,ls,ks),_,_)=>k=2∧m=6∧xs=os) fun (_,_,_,(cs,ns,os,fs,ls,ks),_,_)=>.dat (.sl Fa) (dH 2 6 (os) (dW os))) <|
 kOr 110 (bD [.val I,.val I,.val (.sl Of),.fn 109 N,.fn 111 N] (fun (k,m,xs,(cs,ns,os,fs,ls,ks),n2,_)=>k=3∧m=12∧xs=fs∧n2=(cs,ns,os,fs,ls,ks)) fun (_,_,_,(cs,ns,os,fs,ls,ks),_,_)=>.dat (.sl Fa) (dH 3 12 (aS fs) (gY (cs,ns,os,fs,ls,ks)))) <|
 kOr 114 (bD [.val I,.val I,.val (.sl Ln),.fn 113 N,.fn 115 N] (fun (k,m,xs,(cs,ns,os,fs,ls,ks),n2,_)=>k=4∧m=40∧xs=ls∧n2=(cs,ns,os,fs,ls,ks)) fun (_,_,_,(cs,ns,os,fs,ls,ks),_,_)=>.dat (.sl Fa) (dH 4 40 (aT ls) (fZ (cs,ns,os,fs,ls,ks)))) <|
 kOr 118 (bD [.val I,.val I,.val (.sl Kl),.fn 117 N,.fn0 119] (fun (k,m,xs,(cs,ns,os,fs,ls,ks),_,_)=>k=5∧m=4∧xs=ks) fun (_,_,_,(cs,ns,os,fs,ls,ks),_,_)=>.dat (.sl Fa) (dH 5 4 (aU ks) (cZ ks))) <|
 K6
theorem aJw (cs:LC) (ns os:LB) (fs:List Off) (ls:List Line) (ks:List Cla) (hvc :
 let c1:=D.ne (D.ilen ns) (D.ilen cs);
 let c2:=[((1:Int),(-1:Int),(1:Int))];
 let c3:=D.len c2;
 let c4:=dH (1:Int) (6:Int) (aP cs ns) (bY cs);
 let c5:=D.len c4;
 let c6:=D.fE c3 c5;
 let c7:=D.app c2 c4;
 let c8:=dH (2:Int) (6:Int) os (dW os);
 let c9:=D.len c8;
 let c10:=D.fE c6 c9;
 let c11:=(cs,ns,os,fs,ls,ks);
 let c12:=D.app c7 c8;
 let c13:=dH (3:Int) (12:Int) (aS fs) (gY c11);
 let c14:=D.len c13;
 let c15:=D.fE c10 c14;
 let c16:=D.app c12 c13;
 let c17:=dH (4:Int) (40:Int) (aT ls) (fZ c11);
 let c18:=D.len c17;
 let c19:=D.fE c15 c18;
 let c20:=D.app c16 c17;
 let c21:=dH (5:Int) (4:Int) (aU ks) (cZ ks);
 let c22:=D.len c21;
 let c23:=D.fE c19 c22;
 let c24:=jU c11;
 let c25:=D.len c24;
 let c26:=D.fE c5 c9;
 let c27:=D.app c4 c8;
 let c28:=D.fE c26 c14;
 let c29:=D.app c27 c13;
 let c30:=D.fE c28 c18;
 let c31:=D.app c29 c17;
 let c32:=D.fE c30 c22;true=true∧(True→(c1=true→D.nle (D.nI c3 (24)) (140737488355328)∧D.nle c3 (9223372036854775807)∧((1:Int)=(1:Int)
 ∧ (6:Int)=(6:Int)∧cs=cs)∧c3=c3∧D.nle (D.nI c6 (24)) (140737488355328)∧D.nle c6 (9223372036854775807)∧((2:Int)=(2:Int)∧(6:Int) =
 (6:Int)∧os=os)∧D.len c7=c6∧D.nle (D.nI c10 (24)) (140737488355328)∧D.nle c10 (9223372036854775807)∧((3:Int)=(3:Int)∧(12:Int)=(12
 : Int)∧fs=fs∧c11=c11)∧D.len c12=c10∧D.nle (D.nI c15 (24)) (140737488355328)∧D.nle c15 (9223372036854775807)∧((4:Int)=(4:Int)∧(40 :
 Int)=(40:Int)∧ls=ls∧c11=c11)∧D.len c16=c15∧D.nle (D.nI c19 (24)) (140737488355328)∧D.nle c19 (9223372036854775807)∧((5:Int)=(5 :
 Int)∧(4:Int)=(4:Int)∧ks=ks)∧D.len c20=c19∧D.nle (D.nI c23 (24)) (140737488355328)∧D.nle c23 (9223372036854775807)∧c23=c25∧D.app c20
 c21=c24∧True)∧(c1=false→((1:Int)=(1:Int)∧(6:Int)=(6:Int)∧cs=cs)∧D.nle (D.nI c5 (24)) (140737488355328)∧D.nle c5
 (9223372036854775807)∧((2:Int)=(2:Int)∧(6:Int)=(6:Int)∧os=os)∧c5=c5∧D.nle (D.nI c26 (24)) (140737488355328)∧D.nle c26
 (9223372036854775807)∧((3:Int)=(3:Int)∧(12:Int)=(12:Int)∧fs=fs∧c11=c11)∧D.len c27=c26∧D.nle (D.nI c28 (24)) (140737488355328) ∧
 D.nle c28 (9223372036854775807)∧((4:Int)=(4:Int)∧(40:Int)=(40:Int)∧ls=ls∧c11=c11)∧D.len c29=c28∧D.nle (D.nI c30 (24))
 (140737488355328)∧D.nle c30 (9223372036854775807)∧((5:Int)=(5:Int)∧(4:Int)=(4:Int)∧ks=ks)∧D.len c31=c30∧D.nle (D.nI c32 (24))
 (140737488355328)∧D.nle c32 (9223372036854775807)∧c32=c25∧D.app c31 c21=c24∧True))) :
  evF (mkc K7) bF 81 [net cs ns os fs ls ks] [] ⟨True,.buf 0 (D.len (jU (cs,ns,os,fs,ls,ks))),[(0,.buf 118 Fa (jU (cs,ns,os,fs,ls,ks)) [])]⟩:=@of_eq _ _ (by kernel_rfl) hvc
theorem aQg (i:Int) (xs:List Of.den):aC Tryz.prog G0 148 [.dat I i,.dat (.sl Of) xs] [] ⟨True,.dat .bool (mW i (D.ilen xs)),[]⟩:=by
 refine aA (c:=mkc K2) KS2 cO hm (aMz i xs ⟨rfl,fun _=>?_⟩)
 simp only [fA,D.and,Bool.true_and,eq_self,and_true,imp_self,implies_true,mW,D.ge,D.lt,sW,ge_iff_le]
theorem aSU (i:Int) (xs:List S.den):aC Tryz.prog G0 141 [.dat I i,.dat (.sl S) xs] [] ⟨True,.dat .bool (mW i (D.ilen xs)),[]⟩:=by
 refine aA (c:=mkc K2) KS2 cO hm (aPM i xs ⟨rfl,fun _=>?_⟩)
 simp only [fA,D.and,Bool.true_and,eq_self,and_true,imp_self,implies_true,mW,D.ge,D.lt,sW,ge_iff_le]
theorem aSV (i:Int) (xs:List C.den):aC Tryz.prog G0 142 [.dat I i,.dat (.sl C) xs] [] ⟨True,.dat .bool (mW i (D.ilen xs)),[]⟩:=by
 refine aA (c:=mkc K2) KS2 cO hm (aPN i xs ⟨rfl,fun _=>?_⟩)
 simp only [fA,D.and,Bool.true_and,eq_self,and_true,imp_self,implies_true,mW,D.ge,D.lt,sW,ge_iff_le]
theorem KS3:aQ Tryz.prog G0 K3 :=
 aJ (aG fun (i,xs,_)=>aQg i xs) <| aJ (aG fun (i,xs,_)=>aSU i xs) <| aJ (aG fun (i,xs,_)=>aSV i xs) KS2
theorem aFs (l:List ByteArray):qH l 0:=⟨Int.le_refl _,Int.natCast_nonneg _,by simp⟩
theorem aFt {l:List ByteArray} {x:Int} (h:qH l x) (hx:x < l.length) (hp:iH (l.getD x.toNat ⟨#[]⟩)=true):qH l (x + 1):=by
 obtain ⟨h0,h1,h2⟩:=h
 refine ⟨by omega,by omega,?_⟩
 rw [show (x + 1).toNat=x.toNat + 1 by omega]
 exact zO (d:=⟨#[]⟩) h2 (by omega) hp
theorem aLi {l:List ByteArray} {x:Int} (h:qH l x) (hx:x < l.length) (hp:iH (l.getD x.toNat ⟨#[]⟩)=false):l.all iH=false :=
 aGT (d:=⟨#[]⟩) (k:=x.toNat) (by have:=h.1;omega) hp
theorem aGG {l:List ByteArray} {x:Int} (h:qH l x) (hx:¬ x < l.length):l.all iH=true:=by
 obtain ⟨h0,h1,h2⟩:=h
 rwa [List.take_of_length_le (by omega)] at h2
theorem aEb (cs:LC) (ns os:LB) (fs:List Off) (ls:List Line) (ks:List Cla) (e1:ByteArray) (e2 e3 e4 e5 e6:Int) (e7:List ByteArray):aC Tryz.prog G0 112 [net cs ns os fs ls ks,.agg [.dat .str e1,.dat (.int .i64) e2,.dat (.int .i64) e3,.dat (.int .i64) e4,.dat (.int .i64) e5,.dat (.int .i64) e6,.dat (.sl .str) e7]] [] ⟨True,.dat .bool (iV (cs,ns,os,fs,ls,ks) (e1,e2,e3,e4,e5,e6,e7)),[]⟩:=by
 refine aA (c:=mkc K3) KS3 cO hm (aC5 cs ns os fs ls ks e1 e2 e3 e4 e5 e6 e7 ⟨rfl,fun _=>?_⟩)
 simp only [oN,fA,D.and,D.not,Bool.true_and,eq_self,true_and,and_true,imp_self,implies_true,Bool.not_eq_true',Bool.or_eq_true,Bool.or_eq_false_iff,Bool.not_eq_false',Bool.and_eq_true,Bool.not_not,exists_eq_right',D.nil,D.lt,D.gt,D.ilen,D.ile,D.ilt,D.nlt,D.sub,D.add,D.nat,D.get,decide_eq_true_eq,decide_eq_false_iff_not]
 refine ⟨fun h=>?_,fun ⟨⟨h1,h2⟩,h3⟩=>⟨aFs e7,fun x hx=>⟨fun hlt=>⟨hx.1,hlt,fun hb=>?_,fun hg=>⟨⟨by have:=hx.1;omega,by omega⟩,x + 1,aFt hx hlt hg,rfl,by have:=hx.1;omega⟩⟩,fun hge=>?_⟩⟩⟩
 ·unfold iV
  rcases h with (h | h) | h
  ·rw [show mW _ _=false from h];rfl
  ·rw [show mW e3 _=false from h];simp
  ·have:decide (e7.length≤20)=false:=decide_eq_false (by omega)
   simp [this]
 ·have:=aLi hx hlt hb
  simp [iV,this]
 ·have h4:=aGG hx hge
  have h5:decide (e7.length≤20)=true:=decide_eq_true (by omega)
  have h1':mW e2 (os.length:Int)=true:=h1
  have h2':mW e3 (cs.length:Int)=true:=h2
  simp only [iV,h1',h2',h4,h5,Bool.true_and]
theorem aH7 (cs:LC) (ns os:LB) (fs:List Off) (ls:List Line) (ks:List Cla) (e1:ByteArray) (e2 e3 e4 e5 e6:Int):aC Tryz.prog G0 116 [net cs ns os fs ls ks,.agg [.dat .str e1,.dat (.int .i64) e2,.dat (.int .i64) e3,.dat (.int .i64) e4,.dat (.int .i64) e5,.dat (.int .i64) e6]] [] ⟨True,.dat .bool (iI (cs,ns,os,fs,ls,ks) (e1,e2,e3,e4,e5,e6)),[]⟩:=by
 refine aA (c:=mkc K3) KS3 cO hm (aFQ cs ns os fs ls ks e1 e2 e3 e4 e5 e6 ⟨rfl,fun _=>?_⟩)
 simp only [oN,fA,D.and,D.not,Bool.true_and,true_and,and_true,imp_self,implies_true,Bool.not_eq_true',Bool.or_eq_true,Bool.or_eq_false_iff,Bool.not_eq_false',Bool.and_eq_true,Bool.not_not,D.eq,D.ilen,beq_iff_eq,beq_eq_false_iff_ne]
 refine ⟨fun h=>?_,fun ⟨⟨h1,h2⟩,h3⟩=>?_⟩
 ·unfold iI
  rcases h with (h | h) | h
  ·rw [show mW _ _=false from h];rfl
  ·rw [show mW e3 _=false from h];simp
  ·simp [h]
 ·have h1':mW e2 (fs.length:Int)=true:=h1
  have h2':mW e3 (fs.length:Int)=true:=h2
  have h3':decide (e2≠e3)=true:=decide_eq_true h3
  simp only [iI,h1',h2',h3',Bool.true_and]
theorem KS4:aQ Tryz.prog G0 K4 :=
 aJ (aG fun ((cs,ns,os,fs,ls,ks),(e1,e2,e3,e4,e5,e6,e7),_)=>aEb cs ns os fs ls ks e1 e2 e3 e4 e5 e6 e7) <| aJ (aG fun ((cs,ns,os,fs,ls,ks),(e1,e2,e3,e4,e5,e6),_)=>aH7 cs ns os fs ls ks e1 e2 e3 e4 e5 e6) KS3
theorem uI {α β:Type} (f:α→β) (l:List α) (i:Nat) (d:α) (e:β) (hi:i < l.length):(l.map f).getD i e=f (l.getD i d):=by
 simp only [List.getD_eq_getElem?_getD,List.getElem?_map,List.getElem?_eq_getElem hi,Option.map_some,Option.getD_some]
theorem aGN {cs:List (Int×List Bool×List Int)} {ns:List ByteArray} {i:Int} (h0:0≤i) (h1:i < cs.length):lK (aP cs ns) i=ns.getD i.toNat ⟨#[]⟩:=by
 unfold lK aP
 rw [uI (fun i=>ns.getD i ⟨#[]⟩) _ _ 0 _ (by rw [List.length_range];omega)]
 show ns.getD ((List.range cs.length).getD i.toNat 0) _=_
 rw [show (List.range cs.length).getD i.toNat 0=i.toNat by rw [List.getD_eq_getElem?_getD,List.getElem?_range (by omega)];rfl]
theorem aQP {α:Type} {f:α→ByteArray} {l:List α} {i:Int} (d:α) (h0:0≤i) (h1:i < l.length):lK (l.map f) i=f (l.getD i.toNat d):=uI _ _ _ _ _ (by omega)
theorem aUW (i:Int) (cs:LC) (ns os:LB) (fs:List Off) (ls:List Line) (ks:List Cla):aC Tryz.prog G0 104 [.dat I i,.ip N (cs,ns,os,fs,ls,ks)] [] ⟨idx i (D.ilen cs),.dat S (lK (aP cs ns) i),[]⟩:=by
 refine aA (c:=mkc K4) KS4 cO hm (aSp i cs ns os fs ls ks ⟨rfl,fun ⟨h0,h1⟩=>?_⟩)
 have h0:0≤i:=h0
 have h1:i < (cs.length:Int):=h1
 simp only [eq_self,and_true,D.nil,D.lt,D.ilen,D.ile,D.ilt,D.nat,D.get,decide_eq_true_eq,decide_eq_false_iff_not,aGN h0 h1]
 refine ⟨fun h=>⟨h0,h⟩,fun h=>?_⟩
 rw [List.getD_eq_getElem?_getD,List.getElem?_eq_none (by omega)];rfl
theorem aUV (i:Int) (cs:LC) (ns os:LB) (fs:List Off) (ls:List Line) (ks:List Cla):aC Tryz.prog G0 106 [.dat I i,.ip N (cs,ns,os,fs,ls,ks)] [] ⟨idx i (D.ilen os),.dat S (lK os i),[]⟩:=by
 refine aA (c:=mkc K4) KS4 cO hm (aSo i cs ns os fs ls ks ⟨rfl,fun ⟨h0,h1⟩=>?_⟩)
 simp only [and_true,D.nil,D.ilen,D.ile,D.ilt,D.nat,D.get]
 exact ⟨h0,h1,rfl⟩
theorem aU1 (e1:ByteArray):aC Tryz.prog G0 108 [.agg [.dat .str e1]] [] ⟨True,.dat .bool true,[]⟩ :=
 aA (c:=mkc K4) KS4 cO hm (aSu e1 ⟨rfl,fun _=>⟨rfl,trivial⟩⟩)
theorem aUU (i:Int) (cs:LC) (ns os:LB) (fs:List Off) (ls:List Line) (ks:List Cla):aC Tryz.prog G0 109 [.dat I i,.ip N (cs,ns,os,fs,ls,ks)] [] ⟨idx i (D.ilen fs),.dat S (lK (aS fs) i),[]⟩:=by
 refine aA (c:=mkc K4) KS4 cO hm (aSn i cs ns os fs ls ks ⟨rfl,fun ⟨h0,h1⟩=>?_⟩)
 simp only [and_true,D.nil,D.ilen,D.ile,D.ilt,D.nat,D.get]
 exact ⟨h0,h1,(aQP _ h0 h1).symm⟩
theorem aU0 (cs:LC) (ns os:LB) (fs:List Off) (ls:List Line) (ks:List Cla) (e1:ByteArray) (e2 e3 e4 e5 e6:Int) (e7:List ByteArray):aC Tryz.prog G0 111 [.agg [.dat .str e1,.dat (.int .i64) e2,.dat (.int .i64) e3,.dat (.int .i64) e4,.dat (.int .i64) e5,.dat (.int .i64) e6,.dat (.sl .str) e7],.ip N (cs,ns,os,fs,ls,ks)] [] ⟨True,.dat .bool (iV (cs,ns,os,fs,ls,ks) (e1,e2,e3,e4,e5,e6,e7)),[]⟩ :=
 aA (c:=mkc K4) KS4 cO hm (aSt cs ns os fs ls ks e1 e2 e3 e4 e5 e6 e7 ⟨rfl,fun _=>by simp only [eq_self,and_true]⟩)
theorem aUT (i:Int) (cs:LC) (ns os:LB) (fs:List Off) (ls:List Line) (ks:List Cla):aC Tryz.prog G0 113 [.dat I i,.ip N (cs,ns,os,fs,ls,ks)] [] ⟨idx i (D.ilen ls),.dat S (lK (aT ls) i),[]⟩:=by
 refine aA (c:=mkc K4) KS4 cO hm (aSm i cs ns os fs ls ks ⟨rfl,fun ⟨h0,h1⟩=>?_⟩)
 simp only [and_true,D.nil,D.ilen,D.ile,D.ilt,D.nat,D.get]
 exact ⟨h0,h1,(aQP _ h0 h1).symm⟩
theorem aUZ (cs:LC) (ns os:LB) (fs:List Off) (ls:List Line) (ks:List Cla) (e1:ByteArray) (e2 e3 e4 e5 e6:Int):aC Tryz.prog G0 115 [.agg [.dat .str e1,.dat (.int .i64) e2,.dat (.int .i64) e3,.dat (.int .i64) e4,.dat (.int .i64) e5,.dat (.int .i64) e6],.ip N (cs,ns,os,fs,ls,ks)] [] ⟨True,.dat .bool (iI (cs,ns,os,fs,ls,ks) (e1,e2,e3,e4,e5,e6)),[]⟩ :=
 aA (c:=mkc K4) KS4 cO hm (aSs cs ns os fs ls ks e1 e2 e3 e4 e5 e6 ⟨rfl,fun _=>by simp only [eq_self,and_true]⟩)
theorem aUS (i:Int) (cs:LC) (ns os:LB) (fs:List Off) (ls:List Line) (ks:List Cla):aC Tryz.prog G0 117 [.dat I i,.ip N (cs,ns,os,fs,ls,ks)] [] ⟨idx i (D.ilen ks),.dat S (lK (aU ks) i),[]⟩:=by
 refine aA (c:=mkc K4) KS4 cO hm (aSl i cs ns os fs ls ks ⟨rfl,fun ⟨h0,h1⟩=>?_⟩)
 simp only [and_true,D.nil,D.ilen,D.ile,D.ilt,D.nat,D.get]
 exact ⟨h0,h1,(aQP _ h0 h1).symm⟩
theorem aUY (e1:ByteArray) (e2 e3:Int):aC Tryz.prog G0 119 [.agg [.dat .str e1,.dat (.int .i64) e2,.dat (.int .i64) e3]] [] ⟨True,.dat .bool (lM (e1,e2,e3)),[]⟩ :=
 aA (c:=mkc K4) KS4 cO hm (aSr e1 e2 e3 ⟨rfl,fun _=>by simp only [fA,D.and,Bool.true_and,eq_self,and_true,imp_self,implies_true,lM]⟩)
theorem KS5:aQ Tryz.prog G0 K5 :=
 aJ (aG fun (i,(cs,ns,os,fs,ls,ks),_)=>aUW i cs ns os fs ls ks) <| aJ (aG fun (i,(cs,ns,os,fs,ls,ks),_)=>aUV i cs ns os fs ls ks) <| aJ (aG fun (e1,_)=>aU1 e1) <| aJ (aG fun (i,(cs,ns,os,fs,ls,ks),_)=>aUU i cs ns os fs ls ks) <|
 aJ (aG fun ((e1,e2,e3,e4,e5,e6,e7),(cs,ns,os,fs,ls,ks),_)=>aU0 cs ns os fs ls ks e1 e2 e3 e4 e5 e6 e7) <| aJ (aG fun (i,(cs,ns,os,fs,ls,ks),_)=>aUT i cs ns os fs ls ks) <| aJ (aG fun ((e1,e2,e3,e4,e5,e6),(cs,ns,os,fs,ls,ks),_)=>aUZ cs ns os fs ls ks e1 e2 e3 e4 e5 e6) <|
 aJ (aG fun (i,(cs,ns,os,fs,ls,ks),_)=>aUS i cs ns os fs ls ks) <| aJ (aG fun ((e1,e2,e3),_)=>aUY e1 e2 e3) KS4
theorem rE {l:List ByteArray} {i:Int} (h:0≤i):aCa l i 0:=⟨Int.le_refl _,h,by simp⟩
theorem rF {l:List ByteArray} {i x:Int} (h:aCa l i x) (hx:x < i) (hi:i < l.length) (hp:(lK l x).toList≠(lK l i).toList):aCa l i (x + 1):=by
 obtain ⟨h0,h1,h2⟩:=h
 refine ⟨by omega,by omega,?_⟩
 rw [show (x + 1).toNat=x.toNat + 1 by omega]
 exact aC0 (d:=⟨#[]⟩) h2 (by omega) (by simpa [lK] using hp)
theorem aJE {l:List ByteArray} {i x:Int} (h:aCa l i x) (hx:x < i) (hi:i < l.length) (hp:(lK l x).toList=(lK l i).toList):4=rule2 l i:=by
 unfold rule2
 have hx0:=h.1
 rw [if_pos]
 have hlt:x.toNat < (l.take i.toNat).length:=by rw [List.length_take];omega
 refine aPi (d:=⟨#[]⟩) (k:=x.toNat) hlt ?_
 have:(l.take i.toNat).getD x.toNat ⟨#[]⟩=lK l x:=by
  unfold lK
  simp only [List.getD_eq_getElem?_getD]
  rw [List.getElem?_take,if_pos (by omega)]
 rw [this];simpa using hp
theorem wB {l:List ByteArray} {i x:Int} (h:aCa l i x) (hx:¬ x < i):0=rule2 l i:=by
 obtain ⟨h0,h1,h2⟩:=h
 have:x=i:=by omega
 subst this
 unfold rule2
 rw [h2];rfl
theorem wU {α:Type} {g:α→Bool} {l:List α} {i:Int} (d:α) (h0:0≤i) (h1:i < l.length):dR (l.map g) i=if g (l.getD i.toNat d) then 0 else 1:=by
 unfold dR;rw [uI g l _ d _ (by omega)]
theorem sQ (cs:List (Int×List Bool×List Int)) (ns:List ByteArray):(aP cs ns).length=cs.length:=by simp [aP]
theorem map_length {α β:Type} (f:α→β) (l:List α):(l.map f).length=l.length:=List.length_map f
theorem aUQ (i:Int) (cs:LC) (ns os:LB) (fs:List Off) (ls:List Line) (ks:List Cla):aC Tryz.prog G0 131 [.dat I i,.ipv (.fn 104 [.ip N (cs,ns,os,fs,ls,ks)])] [] ⟨idx i (D.ilen cs),.dat I (dJ (aP cs ns) i),[]⟩:=by
 refine aA (c:=mkc K5) KS5 cO hm (aSj i cs ns os fs ls ks ⟨rfl,fun hp=>?_⟩)
 simp only [D.not,true_and,and_true,Bool.not_eq_true',Bool.not_eq_false',D.ilen]
 exact ⟨hp,fun h=>by simp [dJ,h],fun h=>by simp [dJ,h]⟩
theorem aUL (i:Int) (cs:LC) (ns os:LB) (fs:List Off) (ls:List Line) (ks:List Cla):aC Tryz.prog G0 133 [.dat I i,.ipv (.fn 104 [.ip N (cs,ns,os,fs,ls,ks)])] [] ⟨aAm i (D.ilen cs),.dat I (rule2 (aP cs ns) i),[]⟩:=by
 refine aA (c:=mkc K5) KS5 cO hm (aSe i cs ns os fs ls ks ⟨rfl,fun hp=>?_⟩)
 have h0:0≤i:=hp.1
 have h1:i < (cs.length:Int):=hp.2.1
 have h2:i≤1000:=hp.2.2
 have hl:((aP cs ns).length:Int)=cs.length:=congrArg _ (sQ cs ns)
 simp only [eq_self,true_and,and_true,exists_eq_right',D.lt,D.ilen,D.nlt,D.sub,D.add,D.nat,decide_eq_true_eq,decide_eq_false_iff_not,beq_iff_eq,beq_eq_false_iff_ne]
 exact ⟨rE h0,fun x hx=>⟨fun hlt=>⟨⟨hx.1,by omega⟩,⟨h0,h1⟩,fun he=>aJE hx hlt (by omega) he,fun hne=>⟨⟨by have:=hx.1;omega,by omega⟩,x + 1,rF hx hlt (by omega) hne,rfl,by have:=hx.1;omega⟩⟩,fun hge=>wB hx hge⟩⟩
theorem aUG (i:Int) (cs:LC) (ns os:LB) (fs:List Off) (ls:List Line) (ks:List Cla):aC Tryz.prog G0 134 [.dat I i,.ipv (.fn 75 []),.ip (.sl C) cs] [] ⟨idx i (D.ilen cs),.dat I (dR (bY cs) i),[]⟩:=by
 refine aA (c:=mkc K5) KS5 cO hm (aR9 i cs ns os fs ls ks ⟨rfl,fun hp=>?_⟩)
 have h0:0≤i:=hp.1
 have h1:i < (cs.length:Int):=hp.2
 simp only [D.not,true_and,and_true,Bool.not_eq_true',Bool.not_eq_false',D.nil,D.ilen,D.ile,D.ilt,D.nat,D.get]
 rw [show dR (bY cs) i=_ from wU _ h0 h1]
 exact ⟨h0,h1,fun h=>by rw [if_neg (by intro g;rw [show _=false from h] at g;cases g)],fun h=>by rw [if_pos h]⟩
theorem aUP (i:Int) (cs:LC) (ns os:LB) (fs:List Off) (ls:List Line) (ks:List Cla):aC Tryz.prog G0 135 [.dat I i,.ipv (.fn 106 [.ip N (cs,ns,os,fs,ls,ks)])] [] ⟨idx i (D.ilen os),.dat I (dJ (os) i),[]⟩:=by
 refine aA (c:=mkc K5) KS5 cO hm (aSi i cs ns os fs ls ks ⟨rfl,fun hp=>?_⟩)
 simp only [D.not,true_and,and_true,Bool.not_eq_true',Bool.not_eq_false',D.ilen]
 exact ⟨hp,fun h=>by simp [dJ,h],fun h=>by simp [dJ,h]⟩
theorem aUK (i:Int) (cs:LC) (ns os:LB) (fs:List Off) (ls:List Line) (ks:List Cla):aC Tryz.prog G0 136 [.dat I i,.ipv (.fn 106 [.ip N (cs,ns,os,fs,ls,ks)])] [] ⟨aAm i (D.ilen os),.dat I (rule2 (os) i),[]⟩:=by
 refine aA (c:=mkc K5) KS5 cO hm (aSd i cs ns os fs ls ks ⟨rfl,fun hp=>?_⟩)
 have h0:0≤i:=hp.1
 have h1:i < (os.length:Int):=hp.2.1
 have h2:i≤1000:=hp.2.2
 have hl:((os).length:Int)=os.length:=congrArg _ (rfl)
 simp only [eq_self,true_and,and_true,exists_eq_right',D.lt,D.ilen,D.nlt,D.sub,D.add,D.nat,decide_eq_true_eq,decide_eq_false_iff_not,beq_iff_eq,beq_eq_false_iff_ne]
 exact ⟨rE h0,fun x hx=>⟨fun hlt=>⟨⟨hx.1,by omega⟩,⟨h0,h1⟩,fun he=>aJE hx hlt (by omega) he,fun hne=>⟨⟨by have:=hx.1;omega,by omega⟩,x + 1,rF hx hlt (by omega) hne,rfl,by have:=hx.1;omega⟩⟩,fun hge=>wB hx hge⟩⟩
theorem aUF (i:Int) (cs:LC) (ns os:LB) (fs:List Off) (ls:List Line) (ks:List Cla):aC Tryz.prog G0 137 [.dat I i,.ipv (.fn 108 []),.ip (.sl S) os] [] ⟨idx i (D.ilen os),.dat I (dR (dW os) i),[]⟩:=by
 refine aA (c:=mkc K5) KS5 cO hm (aR8 i cs ns os fs ls ks ⟨rfl,fun hp=>?_⟩)
 have h0:0≤i:=hp.1
 have h1:i < (os.length:Int):=hp.2
 simp only [D.not,eq_self,true_and,and_true,Bool.not_eq_true',Bool.not_eq_false',forall_const,D.ilen,D.ile,D.ilt]
 rw [show dR (dW os) i=_ from wU ⟨#[]⟩ h0 h1]
 exact ⟨h0,h1,(fun h=>by cases h),rfl⟩
theorem aUO (i:Int) (cs:LC) (ns os:LB) (fs:List Off) (ls:List Line) (ks:List Cla):aC Tryz.prog G0 138 [.dat I i,.ipv (.fn 109 [.ip N (cs,ns,os,fs,ls,ks)])] [] ⟨idx i (D.ilen fs),.dat I (dJ (aS fs) i),[]⟩:=by
 refine aA (c:=mkc K5) KS5 cO hm (aSh i cs ns os fs ls ks ⟨rfl,fun hp=>?_⟩)
 simp only [D.not,true_and,and_true,Bool.not_eq_true',Bool.not_eq_false',D.ilen]
 exact ⟨hp,fun h=>by simp [dJ,h],fun h=>by simp [dJ,h]⟩
theorem aUJ (i:Int) (cs:LC) (ns os:LB) (fs:List Off) (ls:List Line) (ks:List Cla):aC Tryz.prog G0 139 [.dat I i,.ipv (.fn 109 [.ip N (cs,ns,os,fs,ls,ks)])] [] ⟨aAm i (D.ilen fs),.dat I (rule2 (aS fs) i),[]⟩:=by
 refine aA (c:=mkc K5) KS5 cO hm (aSc i cs ns os fs ls ks ⟨rfl,fun hp=>?_⟩)
 have h0:0≤i:=hp.1
 have h1:i < (fs.length:Int):=hp.2.1
 have h2:i≤1000:=hp.2.2
 have hl:((aS fs).length:Int)=fs.length:=congrArg _ (map_length _ fs)
 simp only [eq_self,true_and,and_true,exists_eq_right',D.lt,D.ilen,D.nlt,D.sub,D.add,D.nat,decide_eq_true_eq,decide_eq_false_iff_not,beq_iff_eq,beq_eq_false_iff_ne]
 exact ⟨rE h0,fun x hx=>⟨fun hlt=>⟨⟨hx.1,by omega⟩,⟨h0,h1⟩,fun he=>aJE hx hlt (by omega) he,fun hne=>⟨⟨by have:=hx.1;omega,by omega⟩,x + 1,rF hx hlt (by omega) hne,rfl,by have:=hx.1;omega⟩⟩,fun hge=>wB hx hge⟩⟩
theorem aUE (i:Int) (cs:LC) (ns os:LB) (fs:List Off) (ls:List Line) (ks:List Cla):aC Tryz.prog G0 140 [.dat I i,.ipv (.fn 111 [.ip N (cs,ns,os,fs,ls,ks)]),.ip (.sl Of) fs] [] ⟨idx i (D.ilen fs),.dat I (dR (gY (cs,ns,os,fs,ls,ks)) i),[]⟩:=by
 refine aA (c:=mkc K5) KS5 cO hm (aR7 i cs ns os fs ls ks ⟨rfl,fun hp=>?_⟩)
 have h0:0≤i:=hp.1
 have h1:i < (fs.length:Int):=hp.2
 simp only [D.not,true_and,and_true,Bool.not_eq_true',Bool.not_eq_false',D.nil,D.ilen,D.ile,D.ilt,D.nat,D.get]
 rw [show dR (gY (cs,ns,os,fs,ls,ks)) i=_ from wU _ h0 h1]
 exact ⟨h0,h1,fun h=>by rw [if_neg (by intro g;rw [show _=false from h] at g;cases g)],fun h=>by rw [if_pos h]⟩
theorem aUN (i:Int) (cs:LC) (ns os:LB) (fs:List Off) (ls:List Line) (ks:List Cla):aC Tryz.prog G0 145 [.dat I i,.ipv (.fn 113 [.ip N (cs,ns,os,fs,ls,ks)])] [] ⟨idx i (D.ilen ls),.dat I (dJ (aT ls) i),[]⟩:=by
 refine aA (c:=mkc K5) KS5 cO hm (aSg i cs ns os fs ls ks ⟨rfl,fun hp=>?_⟩)
 simp only [D.not,true_and,and_true,Bool.not_eq_true',Bool.not_eq_false',D.ilen]
 exact ⟨hp,fun h=>by simp [dJ,h],fun h=>by simp [dJ,h]⟩
theorem aUI (i:Int) (cs:LC) (ns os:LB) (fs:List Off) (ls:List Line) (ks:List Cla):aC Tryz.prog G0 146 [.dat I i,.ipv (.fn 113 [.ip N (cs,ns,os,fs,ls,ks)])] [] ⟨aAm i (D.ilen ls),.dat I (rule2 (aT ls) i),[]⟩:=by
 refine aA (c:=mkc K5) KS5 cO hm (aSb i cs ns os fs ls ks ⟨rfl,fun hp=>?_⟩)
 have h0:0≤i:=hp.1
 have h1:i < (ls.length:Int):=hp.2.1
 have h2:i≤1000:=hp.2.2
 have hl:((aT ls).length:Int)=ls.length:=congrArg _ (map_length _ ls)
 simp only [eq_self,true_and,and_true,exists_eq_right',D.lt,D.ilen,D.nlt,D.sub,D.add,D.nat,decide_eq_true_eq,decide_eq_false_iff_not,beq_iff_eq,beq_eq_false_iff_ne]
 exact ⟨rE h0,fun x hx=>⟨fun hlt=>⟨⟨hx.1,by omega⟩,⟨h0,h1⟩,fun he=>aJE hx hlt (by omega) he,fun hne=>⟨⟨by have:=hx.1;omega,by omega⟩,x + 1,rF hx hlt (by omega) hne,rfl,by have:=hx.1;omega⟩⟩,fun hge=>wB hx hge⟩⟩
theorem aUD (i:Int) (cs:LC) (ns os:LB) (fs:List Off) (ls:List Line) (ks:List Cla):aC Tryz.prog G0 147 [.dat I i,.ipv (.fn 115 [.ip N (cs,ns,os,fs,ls,ks)]),.ip (.sl Ln) ls] [] ⟨idx i (D.ilen ls),.dat I (dR (fZ (cs,ns,os,fs,ls,ks)) i),[]⟩:=by
 refine aA (c:=mkc K5) KS5 cO hm (aR6 i cs ns os fs ls ks ⟨rfl,fun hp=>?_⟩)
 have h0:0≤i:=hp.1
 have h1:i < (ls.length:Int):=hp.2
 simp only [D.not,true_and,and_true,Bool.not_eq_true',Bool.not_eq_false',D.nil,D.ilen,D.ile,D.ilt,D.nat,D.get]
 rw [show dR (fZ (cs,ns,os,fs,ls,ks)) i=_ from wU _ h0 h1]
 exact ⟨h0,h1,fun h=>by rw [if_neg (by intro g;rw [show _=false from h] at g;cases g)],fun h=>by rw [if_pos h]⟩
theorem aUM (i:Int) (cs:LC) (ns os:LB) (fs:List Off) (ls:List Line) (ks:List Cla):aC Tryz.prog G0 149 [.dat I i,.ipv (.fn 117 [.ip N (cs,ns,os,fs,ls,ks)])] [] ⟨idx i (D.ilen ks),.dat I (dJ (aU ks) i),[]⟩:=by
 refine aA (c:=mkc K5) KS5 cO hm (aSf i cs ns os fs ls ks ⟨rfl,fun hp=>?_⟩)
 simp only [D.not,true_and,and_true,Bool.not_eq_true',Bool.not_eq_false',D.ilen]
 exact ⟨hp,fun h=>by simp [dJ,h],fun h=>by simp [dJ,h]⟩
theorem aUH (i:Int) (cs:LC) (ns os:LB) (fs:List Off) (ls:List Line) (ks:List Cla):aC Tryz.prog G0 150 [.dat I i,.ipv (.fn 117 [.ip N (cs,ns,os,fs,ls,ks)])] [] ⟨aAm i (D.ilen ks),.dat I (rule2 (aU ks) i),[]⟩:=by
 refine aA (c:=mkc K5) KS5 cO hm (aSa i cs ns os fs ls ks ⟨rfl,fun hp=>?_⟩)
 have h0:0≤i:=hp.1
 have h1:i < (ks.length:Int):=hp.2.1
 have h2:i≤1000:=hp.2.2
 have hl:((aU ks).length:Int)=ks.length:=congrArg _ (map_length _ ks)
 simp only [eq_self,true_and,and_true,exists_eq_right',D.lt,D.ilen,D.nlt,D.sub,D.add,D.nat,decide_eq_true_eq,decide_eq_false_iff_not,beq_iff_eq,beq_eq_false_iff_ne]
 exact ⟨rE h0,fun x hx=>⟨fun hlt=>⟨⟨hx.1,by omega⟩,⟨h0,h1⟩,fun he=>aJE hx hlt (by omega) he,fun hne=>⟨⟨by have:=hx.1;omega,by omega⟩,x + 1,rF hx hlt (by omega) hne,rfl,by have:=hx.1;omega⟩⟩,fun hge=>wB hx hge⟩⟩
theorem aUC (i:Int) (cs:LC) (ns os:LB) (fs:List Off) (ls:List Line) (ks:List Cla):aC Tryz.prog G0 151 [.dat I i,.ipv (.fn 119 []),.ip (.sl Kl) ks] [] ⟨idx i (D.ilen ks),.dat I (dR (cZ ks) i),[]⟩:=by
 refine aA (c:=mkc K5) KS5 cO hm (aR5 i cs ns os fs ls ks ⟨rfl,fun hp=>?_⟩)
 have h0:0≤i:=hp.1
 have h1:i < (ks.length:Int):=hp.2
 simp only [D.not,true_and,and_true,Bool.not_eq_true',Bool.not_eq_false',D.nil,D.ilen,D.ile,D.ilt,D.nat,D.get]
 rw [show dR (cZ ks) i=_ from wU _ h0 h1]
 exact ⟨h0,h1,fun h=>by rw [if_neg (by intro g;rw [show _=false from h] at g;cases g)],fun h=>by rw [if_pos h]⟩
theorem yV (kind:Int) (l:List ByteArray) (g:List Bool) (k:Int):(bH kind l g k).length≤k.toNat:=by
 unfold bH
 exact Nat.le_trans (List.length_filterMap_le _ _) (by rw [List.length_range];exact Nat.le_refl _)
theorem aCL {kind:Int} {l:List ByteArray} {g:List Bool} {k:Int} (h0:0≤k) (he:aHG l g k≠0):bH kind l g (k + 1)=bH kind l g k ++ [(kind,k,aHG l g k)]:=by
 unfold bH
 rw [show (k + 1).toNat=k.toNat + 1 by omega,List.range_succ,List.filterMap_append]
 simp [Int.toNat_of_nonneg h0,he]
theorem aE2 {kind:Int} {l:List ByteArray} {g:List Bool} {k:Int} (h0:0≤k) (he:aHG l g k=0):bH kind l g (k + 1)=bH kind l g k:=by
 unfold bH
 rw [show (k + 1).toNat=k.toNat + 1 by omega,List.range_succ,List.filterMap_append]
 simp [Int.toNat_of_nonneg h0,he]
theorem aNn {l:List ByteArray} {g:List Bool} {i j:Int} (h:dZ l g i j) (hj:j < 3) (he:[dJ l i,rule2 l i,dR g i].getD j.toNat 0≠0):[dJ l i,rule2 l i,dR g i].getD j.toNat 0=aHG l g i:=by
 obtain ⟨h0,_,h1,h2,_⟩:=h
 have hc:j=0∨j=1∨j=2:=by omega
 unfold aHG
 rcases hc with rfl | rfl | rfl
 ·have he:dJ l i≠0:=he
  rw [if_pos he];rfl
 ·have he:rule2 l i≠0:=he
  rw [if_neg (by simp [h1]),if_pos he];rfl
 ·rw [if_neg (by simp [h1]),if_neg (by simp [h2])];rfl
theorem aIe {l:List ByteArray} {g:List Bool} {i j:Int} (h:dZ l g i j) (hj:j < 3) (he:[dJ l i,rule2 l i,dR g i].getD j.toNat 0=0):dZ l g i (j + 1):=by
 obtain ⟨h0,_,h1,h2,h3⟩:=h
 have hc:j=0∨j=1∨j=2:=by omega
 rcases hc with rfl | rfl | rfl
 ·exact ⟨by omega,by omega,fun _=>he,fun h=>by omega,fun h=>by omega⟩
 ·exact ⟨by omega,by omega,fun _=>h1 (by omega),fun _=>he,fun h=>by omega⟩
 ·exact ⟨by omega,by omega,fun _=>h1 (by omega),fun _=>h2 (by omega),fun _=>he⟩
theorem aKe {l:List ByteArray} {g:List Bool} {i j:Int} (h:dZ l g i j) (hj:¬ j < 3):aHG l g i=0:=by
 obtain ⟨h0,_,h1,h2,h3⟩:=h
 unfold aHG
 rw [if_neg (by simp [h1 (by omega)]),if_neg (by simp [h2 (by omega)]),h3 (by omega)]
theorem aFu {kind lim:Int} {l:List ByteArray} {g:List Bool} {m:Nat} (hm:l.length=m) (h1:0≤lim) (h2:lim≤100) :
  (∃ x,iD x (l.length:Int) lim∧(bH kind l g x).length=0∧bH kind l g x=[]∧0=x∧bH kind l g x=[]) ∧
  ∀ (x:Int),iD x (l.length:Int) lim →
    (x < min (m:Int) lim →
      dZ l g x 0∧∀ (z:Int),dZ l g x z →
         (z < 3→0≤z∧z < (3:Nat)∧(z.toNat=0→idx x m)∧(z.toNat=1→aAm x m)∧(z.toNat=2→idx x m) ∧
                ([dJ l x,rule2 l x,dR g x].getD z.toNat 0≠0 →
                  ((bH kind l g x).length + [(kind,x,[dJ l x,rule2 l x,dR g x].getD z.toNat 0)].length) * 24≤140737488355328 ∧
                   (bH kind l g x).length + [(kind,x,[dJ l x,rule2 l x,dR g x].getD z.toNat 0)].length≤9223372036854775807 ∧
                    inR IntKind.i64 (x + 1) ∧
                     ∃ y,iD y (l.length:Int) lim ∧
                       ((bH kind l g x).length + [(kind,x,[dJ l x,rule2 l x,dR g x].getD z.toNat 0)].length=(bH kind l g y).length ∧
                         x + 1=y∧bH kind l g x ++ [(kind,x,[dJ l x,rule2 l x,dR g x].getD z.toNat 0)]=bH kind l g y) ∧
                        (lim - y).toNat < (lim - x).toNat) ∧
                 ([dJ l x,rule2 l x,dR g x].getD z.toNat 0=0→inR IntKind.i64 (z + 1)∧∃ y,dZ l g x y∧z + 1=y∧(3 - y).toNat < (3 - z).toNat)) ∧
          (¬z < 3→inR IntKind.i64 (x + 1)∧∃ y,iD y (l.length:Int) lim∧((bH kind l g x).length=(bH kind l g y).length∧x + 1=y∧bH kind l g x=bH kind l g y)∧(lim - y).toNat < (lim - x).toNat)) ∧
     (¬x < min (m:Int) lim →
      ((m:Int) > lim→((bH kind l g x).length + [(kind,lim,(2:Int))].length) * 24≤140737488355328 ∧
         (bH kind l g x).length + [(kind,lim,(2:Int))].length≤9223372036854775807 ∧
          (bH kind l g x ++ [(kind,lim,2)]).length=(bH kind l g x).length + [(kind,lim,(2:Int))].length ∧
           bH kind l g x ++ [(kind,lim,2)]=dH kind lim l g) ∧
       (¬(m:Int) > lim→bH kind l g x=dH kind lim l g)):=by
 subst hm
 refine ⟨⟨0,⟨Int.le_refl _,Int.natCast_nonneg _,h1⟩,rfl,rfl,rfl,rfl⟩,fun x ⟨x0,x1,x2⟩=>⟨fun hlt=>⟨⟨Int.le_refl _,by decide,fun h=>by omega,fun h=>by omega,fun h=>by omega⟩,fun z hz=>⟨fun hz3=>?_,fun hz3=>?_⟩⟩,fun hge=>?_⟩⟩
 ·have hk:=yV kind l g x
  refine ⟨hz.1,by omega,fun _=>⟨x0,by omega⟩,fun _=>⟨x0,by omega,by omega⟩,fun _=>⟨x0,by omega⟩,fun he=>?_,fun he=>⟨⟨by have:=hz.1;omega,by omega⟩,z + 1,aIe hz hz3 he,rfl,by have:=hz.1;omega⟩⟩
  have e:=aNn hz hz3 he
  rw [e] at he ⊢
  refine ⟨by simp only [List.length_singleton];omega,by simp only [List.length_singleton];omega,⟨by omega,by omega⟩,x + 1,⟨by omega,by omega,by omega⟩,⟨?_,rfl,(aCL x0 he).symm⟩,by omega⟩
  rw [aCL x0 he,List.length_append]
 ·have e:=aKe hz hz3
  exact ⟨⟨by omega,by omega⟩,x + 1,⟨by omega,by omega,by omega⟩,⟨by rw [aE2 x0 e],rfl,(aE2 x0 e).symm⟩,by omega⟩
 ·have hk:=yV kind l g x
  have ex:x=min (l.length:Int) lim:=by omega
  refine ⟨fun h=>⟨by simp only [List.length_singleton];omega,by simp only [List.length_singleton];omega,List.length_append,?_⟩,fun h=>?_⟩
  ·unfold dH aIq;rw [if_pos (by omega),← ex]
  ·unfold dH aIq;rw [if_neg (by omega),← ex,List.append_nil]
theorem KS6:aQ Tryz.prog G0 K6 :=
 aJ (aG fun (i,(cs,ns,os,fs,ls,ks),_)=>aUQ i cs ns os fs ls ks) <| aJ (aG fun (i,(cs,ns,os,fs,ls,ks),_)=>aUL i cs ns os fs ls ks) <| aJ (aG fun (i,_,cs,_)=>aUG i cs [] [] [] [] []) <|
 aJ (aG fun (i,(cs,ns,os,fs,ls,ks),_)=>aUP i cs ns os fs ls ks) <| aJ (aG fun (i,(cs,ns,os,fs,ls,ks),_)=>aUK i cs ns os fs ls ks) <| aJ (aG fun (i,_,os,_)=>aUF i [] [] os [] [] []) <|
 aJ (aG fun (i,(cs,ns,os,fs,ls,ks),_)=>aUO i cs ns os fs ls ks) <| aJ (aG fun (i,(cs,ns,os,fs,ls,ks),_)=>aUJ i cs ns os fs ls ks) <| aJ (aG fun (i,(cs,ns,os,fs,ls,ks),xs,_)=>aC.of_pre fun (h:idx i (D.ilen fs)∧xs=fs)=>by obtain ⟨h,rfl⟩:=h;exact (aUE i cs ns os xs ls ks).weaken fun _=>h) <|
 aJ (aG fun (i,(cs,ns,os,fs,ls,ks),_)=>aUN i cs ns os fs ls ks) <| aJ (aG fun (i,(cs,ns,os,fs,ls,ks),_)=>aUI i cs ns os fs ls ks) <| aJ (aG fun (i,(cs,ns,os,fs,ls,ks),xs,_)=>aC.of_pre fun (h:idx i (D.ilen ls)∧xs=ls)=>by obtain ⟨h,rfl⟩:=h;exact (aUD i cs ns os fs xs ks).weaken fun _=>h) <|
 aJ (aG fun (i,(cs,ns,os,fs,ls,ks),_)=>aUM i cs ns os fs ls ks) <| aJ (aG fun (i,(cs,ns,os,fs,ls,ks),_)=>aUH i cs ns os fs ls ks) <| aJ (aG fun (i,_,ks,_)=>aUC i [] [] [] [] [] ks) <| KS5
theorem aU8 (cs:LC) (ns os:LB) (fs:List Off) (ls:List Line) (ks:List Cla):aC Tryz.prog G0 105 [.dat I 1,.dat I 6,.dat (.sl C) cs,.fn 104 [.ip N (cs,ns,os,fs,ls,ks)],.fn 75 []] [] ⟨True,.dat (.sl Fa) (dH 1 6 (aP cs ns) (bY cs)),[]⟩:=by
 refine aA (c:=mkc K6) KS6 cO hm (aSB cs ns os fs ls ks ⟨rfl,fun _=>?_⟩)
 have hm:(aP cs ns).length=cs.length:=sQ cs ns
 simp only [eq_self,true_and,and_true,exists_eq_right',D.nil,D.ne,D.lt,D.gt,D.ilen,D.ile,D.ilt,D.nle,D.nlt,D.sub,D.add,D.nat,D.ofN,D.len,D.fE,D.nI,D.get,D.mn,D.app,decide_eq_true_eq,decide_eq_false_iff_not,bne_iff_ne,bne_eq_false_iff_eq]
 exact aFu hm (by decide) (by decide)
theorem aU7 (cs:LC) (ns os:LB) (fs:List Off) (ls:List Line) (ks:List Cla):aC Tryz.prog G0 107 [.dat I 2,.dat I 6,.dat (.sl S) os,.fn 106 [.ip N (cs,ns,os,fs,ls,ks)],.fn 108 []] [] ⟨True,.dat (.sl Fa) (dH 2 6 (os) (dW os)),[]⟩:=by
 refine aA (c:=mkc K6) KS6 cO hm (aSA cs ns os fs ls ks ⟨rfl,fun _=>?_⟩)
 have hm:(os).length=os.length:=rfl
 simp only [eq_self,true_and,and_true,exists_eq_right',D.nil,D.ne,D.lt,D.gt,D.ilen,D.ile,D.ilt,D.nle,D.nlt,D.sub,D.add,D.nat,D.ofN,D.len,D.fE,D.nI,D.get,D.mn,D.app,decide_eq_true_eq,decide_eq_false_iff_not,bne_iff_ne,bne_eq_false_iff_eq]
 exact aFu hm (by decide) (by decide)
theorem aU6 (cs:LC) (ns os:LB) (fs:List Off) (ls:List Line) (ks:List Cla):aC Tryz.prog G0 110 [.dat I 3,.dat I 12,.dat (.sl Of) fs,.fn 109 [.ip N (cs,ns,os,fs,ls,ks)],.fn 111 [.ip N (cs,ns,os,fs,ls,ks)]] [] ⟨True,.dat (.sl Fa) (dH 3 12 (aS fs) (gY (cs,ns,os,fs,ls,ks))),[]⟩:=by
 refine aA (c:=mkc K6) KS6 cO hm (aSz cs ns os fs ls ks ⟨rfl,fun _=>?_⟩)
 have hm:(aS fs).length=fs.length:=map_length _ fs
 simp only [eq_self,true_and,and_true,exists_eq_right',D.nil,D.ne,D.lt,D.gt,D.ilen,D.ile,D.ilt,D.nle,D.nlt,D.sub,D.add,D.nat,D.ofN,D.len,D.fE,D.nI,D.get,D.mn,D.app,decide_eq_true_eq,decide_eq_false_iff_not,bne_iff_ne,bne_eq_false_iff_eq]
 exact aFu hm (by decide) (by decide)
theorem aU5 (cs:LC) (ns os:LB) (fs:List Off) (ls:List Line) (ks:List Cla):aC Tryz.prog G0 114 [.dat I 4,.dat I 40,.dat (.sl Ln) ls,.fn 113 [.ip N (cs,ns,os,fs,ls,ks)],.fn 115 [.ip N (cs,ns,os,fs,ls,ks)]] [] ⟨True,.dat (.sl Fa) (dH 4 40 (aT ls) (fZ (cs,ns,os,fs,ls,ks))),[]⟩:=by
 refine aA (c:=mkc K6) KS6 cO hm (aSy cs ns os fs ls ks ⟨rfl,fun _=>?_⟩)
 have hm:(aT ls).length=ls.length:=map_length _ ls
 simp only [eq_self,true_and,and_true,exists_eq_right',D.nil,D.ne,D.lt,D.gt,D.ilen,D.ile,D.ilt,D.nle,D.nlt,D.sub,D.add,D.nat,D.ofN,D.len,D.fE,D.nI,D.get,D.mn,D.app,decide_eq_true_eq,decide_eq_false_iff_not,bne_iff_ne,bne_eq_false_iff_eq]
 exact aFu hm (by decide) (by decide)
theorem aU4 (cs:LC) (ns os:LB) (fs:List Off) (ls:List Line) (ks:List Cla):aC Tryz.prog G0 118 [.dat I 5,.dat I 4,.dat (.sl Kl) ks,.fn 117 [.ip N (cs,ns,os,fs,ls,ks)],.fn 119 []] [] ⟨True,.dat (.sl Fa) (dH 5 4 (aU ks) (cZ ks)),[]⟩:=by
 refine aA (c:=mkc K6) KS6 cO hm (aSx cs ns os fs ls ks ⟨rfl,fun _=>?_⟩)
 have hm:(aU ks).length=ks.length:=map_length _ ks
 simp only [eq_self,true_and,and_true,exists_eq_right',D.nil,D.ne,D.lt,D.gt,D.ilen,D.ile,D.ilt,D.nle,D.nlt,D.sub,D.add,D.nat,D.ofN,D.len,D.fE,D.nI,D.get,D.mn,D.app,decide_eq_true_eq,decide_eq_false_iff_not,bne_iff_ne,bne_eq_false_iff_eq]
 exact aFu hm (by decide) (by decide)
theorem KS7:aQ Tryz.prog G0 K7 :=
 aJ (aG fun (k,m,xs,(cs,ns,os,fs,ls,ks),_,_)=>aC.of_pre fun (h:k=1∧m=6∧xs=cs)=>by obtain ⟨rfl,rfl,rfl⟩:=h;exact ((aU8 xs ns os fs ls ks).weaken fun _=>trivial)) <|
 aJ (aG fun (k,m,xs,(cs,ns,os,fs,ls,ks),_,_)=>aC.of_pre fun (h:k=2∧m=6∧xs=os)=>by obtain ⟨rfl,rfl,rfl⟩:=h;exact ((aU7 cs ns xs fs ls ks).weaken fun _=>trivial)) <|
 aJ (aG fun (k,m,xs,(cs,ns,os,fs,ls,ks),n2,_)=>aC.of_pre fun (h:k=3∧m=12∧xs=fs∧n2=(cs,ns,os,fs,ls,ks))=>by obtain ⟨rfl,rfl,rfl,rfl⟩:=h;exact ((aU6 cs ns os xs ls ks).weaken fun _=>trivial)) <|
 aJ (aG fun (k,m,xs,(cs,ns,os,fs,ls,ks),n2,_)=>aC.of_pre fun (h:k=4∧m=40∧xs=ls∧n2=(cs,ns,os,fs,ls,ks))=>by obtain ⟨rfl,rfl,rfl,rfl⟩:=h;exact ((aU5 cs ns os fs xs ks).weaken fun _=>trivial)) <|
 aJ (aG fun (k,m,xs,(cs,ns,os,fs,ls,ks),_,_)=>aC.of_pre fun (h:k=5∧m=4∧xs=ks)=>by obtain ⟨rfl,rfl,rfl⟩:=h;exact ((aU4 cs ns os fs ls xs).weaken fun _=>trivial)) <| KS6
theorem oI (kind lim:Int) (l:List ByteArray) (g:List Bool) (h:0≤lim):(dH kind lim l g).length≤lim.toNat + 1:=by
 unfold dH aIq
 have:=yV kind l g (min l.length lim)
 rw [List.length_append]
 split <;> simp only [List.length_singleton,List.length_nil] <;> omega
theorem aCS (cs:LC) (ns os:LB) (fs:List Off) (ls:List Line) (ks:List Cla):jU (cs,ns,os,fs,ls,ks)=aGy (cs,ns,os,fs,ls,ks) ++ (dH 1 6 (aP cs ns) (bY cs) ++ (dH 2 6 os (dW os) ++ (dH 3 12 (aS fs) (gY (cs,ns,os,fs,ls,ks)) ++ (dH 4 40 (aT ls) (fZ (cs,ns,os,fs,ls,ks)) ++ dH 5 4 (aU ks) (cZ ks))))):=by
 unfold jU nN
 rw [show (Int.toNat 6 - 1)=5 from rfl,show List.range 5=[0,1,2,3,4] from rfl]
 simp only [List.flatMap_cons,List.flatMap_nil,List.append_nil]
 rfl
theorem aMU (cs:LC) (ns os:LB) (fs:List Off) (ls:List Line) (ks:List Cla):aC Tryz.prog G0 81 [net cs ns os fs ls ks] [] ⟨True,.buf 0 (D.len (jU (cs,ns,os,fs,ls,ks))),[(0,.buf 118 Fa (jU (cs,ns,os,fs,ls,ks)) [])]⟩:=by
 refine aA (c:=mkc K7) KS7 cO hm (aJw cs ns os fs ls ks ⟨rfl,fun _=>?_⟩)
 have h1:=oI 1 6 (aP cs ns) (bY cs) (by decide)
 have h2:=oI 2 6 os (dW os) (by decide)
 have h3:=oI 3 12 (aS fs) (gY (cs,ns,os,fs,ls,ks)) (by decide)
 have h4:=oI 4 40 (aT ls) (fZ (cs,ns,os,fs,ls,ks)) (by decide)
 have h5:=oI 5 4 (aU ks) (cZ ks) (by decide)
 rw [aCS]
 simp only [eq_self,true_and,and_true,D.ne,D.ilen,D.nle,D.len,D.fE,D.nI,D.app,bne_iff_ne,bne_eq_false_iff_eq]
 refine ⟨fun hne=>?_,fun he=>?_⟩
 ·rw [show aGy (cs,ns,os,fs,ls,ks)=[(1,-1,1)] from if_neg fun e=>hne (congrArg Int.ofNat e)]
  generalize dH 1 6 _ _=a1 at *
  generalize dH 2 6 _ _=a2 at *
  generalize dH 3 12 _ _=a3 at *
  generalize dH 4 40 _ _=a4 at *
  generalize dH 5 4 _ _=a5 at *
  simp only [List.length_append,List.length_singleton,List.append_assoc]
  and_intros <;> first | omega | rfl
 ·rw [show aGy (cs,ns,os,fs,ls,ks)=[] from if_pos (Int.ofNat.inj he)]
  generalize dH 1 6 _ _=a1 at *
  generalize dH 2 6 _ _=a2 at *
  generalize dH 3 12 _ _=a3 at *
  generalize dH 4 40 _ _=a4 at *
  generalize dH 5 4 _ _=a5 at *
  simp only [List.length_append,List.nil_append,List.append_assoc]
  and_intros <;> first | omega | rfl
end Go.Eng.Sv
