/- PeSv3j -/
import Derived.Test.YtlobbofhlcjlmaaGreatDoorZ22
import Derived.Test.YtlobbofhlcjlmaaGreatDoorSvDist
import Derived.Test.YtlobbofhlcjlmaaGreatDoorSv2j
set_option linter.unusedSimpArgs false
set_option linter.unusedVariables false
set_option maxRecDepth 100000
noncomputable section
namespace Go.Eng.Sv
open Go.Proofs
abbrev M:Ty:=.sl R
def upN (k n:Int):Prop:=0≤k∧k≤n
def fewC (n:Net):Bool:=fewLen n && n.2.2.2.1.all fun o=>decide (o.2.2.2.2.2.2.length≤30)
def numP (n:Net) (k i:Int):Prop:=fewC n=true∧1≤k∧k≤5∧0≤i∧i < (namesF n k).length
def goodAt (n:Net) (k i:Int):Bool:=(goodsF n k).getD i.toNat false
def namesTo (n:Net) (k i:Int):List ByteArray:=(namesF n k).take i.toNat
def rFaultsTo (n:Net) (k i:Int):List (Int×Int×Int):=faultsTo n k ++ kindTo k (namesF n k) (goodsF n k) i
def nUp (n:Net) (k i:Int):Prop:=0≤i∧i≤(namesF n k).length∧i≤limitF k
def kUp (k:Int):Prop:=1≤k∧k≤6
def calsTo (cs:List (Int×List Bool×List Int)) (k:Int):Prop:=0≤k∧k≤cs.length∧(cs.take k.toNat).all (fun c=>smallF c.2.1 c.2.2)=true
def offsTo (fs:List Off) (k:Int):Prop:=0≤k∧k≤fs.length∧(fs.take k.toNat).all (fun o=>decide (o.2.2.2.2.2.2.length≤30))=true
def shortF (l:List ByteArray):Bool:=l.all fun s=>decide (s.size≤40)
def kindsTo (n:Net) (k:Int):Prop:=1≤k∧k≤6∧∀ j:Int,1≤j→j < k→shortF (namesF n j)=true
def namTo (l:List ByteArray) (i:Int):Prop:=0≤i∧i≤l.length∧shortF (l.take i.toNat)=true
def fewF (n:Net):Bool:=fewLen n && (n.1.all fun c=>smallF c.2.1 c.2.2) && (n.2.2.2.1.all fun o=>decide (o.2.2.2.2.2.2.length≤30)) && shortF (namesF n 1) && shortF (namesF n 2) && shortF (namesF n 3) && shortF (namesF n 4) && shortF (namesF n 5)
def sameR (a b:List (List Int)):Bool:=a == b
def sameRTo (a b:List (List Int)) (k:Int):Prop:=0≤k∧k≤a.length∧a.length=b.length∧a.length≤1000000∧a.take k.toNat=b.take k.toNat
def sameCTo (a b:List (List Int)) (i k:Int):Prop:=0≤k∧k≤(a.getD i.toNat []).length∧(a.getD i.toNat []).length=(b.getD i.toNat []).length∧(a.getD i.toNat []).length≤1000000∧(a.getD i.toNat []).take k.toNat=(b.getD i.toNat []).take k.toNat
def mild (a:List (List Int)):Prop:=a.length≤1000000∧∀ r ∈ a,r.length≤1000000
def noF (n:Net):Bool:=(faultsF n).isEmpty
def K8:Kt:=kOr 81 (freshK [.row N] (fun _=>True) (fun (n,_)=>.buf 0 (D.len (faultsF n))) fun (n,_)=>.buf 118 Fa (faultsF n) []) K7
def nmBuf (n:Net) (k:Int) (loop slot:Nat) (st:St) (xs:List ByteArray):Option Spec:=some { α:=Int,inv:=fun i=>upN i (D.ilen (namesF n k)),st:=fun i=>putM (put st [(slot,.dat I i),(5,.buf 100 (D.len (namesTo n k i)))]) 100 (.buf 9 S (namesTo n k i) []),μ:=fun i=>D.nat (D.sub (D.ilen (namesF n k)) i) }
def namesA (n:Net):Ann:=⟨fun id st=>match id with
 | 5=>nmBuf n 1 5 6 st []
 | 12=>nmBuf n 2 12 7 st []
 | 17=>nmBuf n 3 17 8 st []
 | 22=>nmBuf n 4 22 9 st []
 | 27=>nmBuf n 5 27 10 st []
 | _=>none,fun _ _=>none,fun _ _=>none⟩
theorem vc_names (k:Int) (cs:LC) (ns os:LB) (fs:List Off) (ls:List Line) (ks:List Cla) (hvc :
 let c1:=(cs,ns,os,fs,ls,ks);
 let c2:=D.eq k (1:Int);
 let c3:=D.ilen (namesF c1 (1:Int));
 let c4:=[ByteArray.mk (D.nil UInt8).toArray];
 let c5:=D.len c4;
 let c6:=namesF c1 k;
 let c7:=D.eq k (2:Int);
 let c8:=D.ilen (namesF c1 (2:Int));
 let c9:=D.eq k (3:Int);
 let c10:=D.ilen (namesF c1 (3:Int));
 let c11:=D.ilen fs;
 let c12:=(ByteArray.mk (D.nil UInt8).toArray,(0:Int),(0:Int),(0:Int),(0:Int),(0:Int),D.nil ByteArray);
 let c13:=D.eq k (4:Int);
 let c14:=D.ilen (namesF c1 (4:Int));
 let c15:=D.ilen ls;
 let c16:=((0:Int),(0:Int));
 let c17:=(ByteArray.mk (D.nil UInt8).toArray,(0:Int),(0:Int),(0:Int),c16);
 let c18:=D.eq k (5:Int);
 let c19:=D.ilen (namesF c1 (5:Int));
 let c20:=D.ilen ks;
 let c21:=(ByteArray.mk (D.nil UInt8).toArray,c16);true=true∧(fewLen c1=true→(c2=true→(∃ x,
 let c22:=namesTo c1 (1:Int) x;upN x c3∧cs=cs∧ns=ns∧os=os∧fs=fs∧ls=ls∧ks=ks∧k=k∧c1=c1∧Value.slice none (0) (0) =
 Value.slice none (0) (0)∧D.len c22=0∧c22=D.nil ByteArray∧(0:Int)=x∧k=k∧c2=c2∧c2=c2∧c22=D.nil ByteArray∧True)∧∀ (x:Int),
 let c23:=D.lt x (D.ilen cs);
 let c24:=D.lt x (D.ilen ns);
 let c25:=namesTo c1 (1:Int) x;
 let c26:=D.len c25;
 let c27:=[D.get ns (D.nat x) (ByteArray.mk (D.nil UInt8).toArray)];
 let c28:=D.nadd c26 (D.len c27);
 let c29:=D.add x (1:Int);
 let c30:=D.nadd c26 c5;upN x c3→(c23=true→(c24=true→D.ile (0:Int) x∧D.ilt x (D.ilen ns)∧c26=c26∧D.nle (D.nmul c28 (16)) (140737488355328)
 ∧ D.nle c28 (9223372036854775807)∧inR IntKind.i64 c29∧∃ y,
 let c31:=namesTo c1 (1:Int) y;upN y c3∧(cs=cs∧ns=ns∧os=os∧fs=fs∧ls=ls∧ks=ks∧k=k∧c1=c1∧Value.slice none (0) (0) =
 Value.slice none (0) (0)∧c28=D.len c31∧c29=y∧k=k∧c2=c2∧c2=c2∧D.app c25 c27=c31∧True)∧D.nlt (D.nat (D.sub c3 y)) (D.nat (D.sub c3
 x)))∧(c24=false→c26=c26∧D.nle (D.nmul c30 (16)) (140737488355328)∧D.nle c30 (9223372036854775807)∧inR IntKind.i64 c29∧∃ y,
 let c32:=namesTo c1 (1:Int) y;upN y c3∧(cs=cs∧ns=ns∧os=os∧fs=fs∧ls=ls∧ks=ks∧k=k∧c1=c1∧Value.slice none (0) (0) =
 Value.slice none (0) (0)∧c30=D.len c32∧c29=y∧k=k∧c2=c2∧c2=c2∧D.app c25 c4=c32∧True)∧D.nlt (D.nat (D.sub c3 y)) (D.nat (D.sub c3
 x))))∧(c23=false→c26=c26∧c25=c6∧True))∧(c2=false→(c7=true→(∃ x,
 let c33:=namesTo c1 (2:Int) x;upN x c8∧cs=cs∧ns=ns∧os=os∧fs=fs∧ls=ls∧ks=ks∧k=k∧c1=c1∧Value.slice none (0) (0) =
 Value.slice none (0) (0)∧D.len c33=0∧c33=D.nil ByteArray∧(0:Int)=x∧k=k∧c2=c2∧c2=c2∧c7=c7∧c7=c7∧c33=D.nil ByteArray ∧
 True)∧∀ (x:Int),
 let c34:=D.lt x (D.ilen os);
 let c35:=namesTo c1 (2:Int) x;
 let c36:=D.len c35;
 let c37:=[D.get os (D.nat x) (ByteArray.mk (D.nil UInt8).toArray)];
 let c38:=D.nadd c36 (D.len c37);
 let c39:=D.add x (1:Int);upN x c8→(c34=true→D.ile (0:Int) x∧D.ilt x (D.ilen os)∧c36=c36∧D.nle (D.nmul c38 (16)) (140737488355328)∧D.nle
 c38 (9223372036854775807)∧inR IntKind.i64 c39∧∃ y,
 let c40:=namesTo c1 (2:Int) y;upN y c8∧(cs=cs∧ns=ns∧os=os∧fs=fs∧ls=ls∧ks=ks∧k=k∧c1=c1∧Value.slice none (0) (0) =
 Value.slice none (0) (0)∧c38=D.len c40∧c39=y∧k=k∧c2=c2∧c2=c2∧c7=c7∧c7=c7∧D.app c35 c37=c40∧True)∧D.nlt (D.nat (D.sub c8 y))
 (D.nat (D.sub c8 x)))∧(c34=false→c36=c36∧c35=c6∧True))∧(c7=false→(c9=true→(∃ x,
 let c41:=namesTo c1 (3:Int) x;upN x c10∧cs=cs∧ns=ns∧os=os∧fs=fs∧ls=ls∧ks=ks∧k=k∧c1=c1∧Value.slice none (0) (0) =
 Value.slice none (0) (0)∧D.len c41=0∧c41=D.nil ByteArray∧(0:Int)=x∧k=k∧c2=c2∧c2=c2∧c7=c7∧c7=c7∧c9=c9∧c9=c9∧c41 =
 D.nil ByteArray∧True)∧∀ (x:Int),
 let c42:=namesTo c1 (3:Int) x;
 let c43:=D.len c42;
 let c44:=[(D.get fs (D.nat x) c12).fst];
 let c45:=D.nadd c43 (D.len c44);
 let c46:=D.add x (1:Int);upN x c10→(D.lt x c11=true→D.ile (0:Int) x∧D.ilt x c11∧c43=c43∧D.nle (D.nmul c45 (16)) (140737488355328)∧D.nle
 c45 (9223372036854775807)∧inR IntKind.i64 c46∧∃ y,
 let c47:=namesTo c1 (3:Int) y;upN y c10∧(cs=cs∧ns=ns∧os=os∧fs=fs∧ls=ls∧ks=ks∧k=k∧c1=c1∧Value.slice none (0) (0) =
 Value.slice none (0) (0)∧c45=D.len c47∧c46=y∧k=k∧c2=c2∧c2=c2∧c7=c7∧c7=c7∧c9=c9∧c9=c9∧D.app c42 c44=c47∧True)∧D.nlt
 (D.nat (D.sub c10 y)) (D.nat (D.sub c10 x)))∧(D.lt x c11=false→c43=c43∧c42=c6∧True))∧(c9=false→(c13=true→(∃ x,
 let c48:=namesTo c1 (4:Int) x;upN x c14∧cs=cs∧ns=ns∧os=os∧fs=fs∧ls=ls∧ks=ks∧k=k∧c1=c1∧Value.slice none (0) (0) =
 Value.slice none (0) (0)∧D.len c48=0∧c48=D.nil ByteArray∧(0:Int)=x∧k=k∧c2=c2∧c2=c2∧c7=c7∧c7=c7∧c9=c9∧c9=c9∧c13 =
 c13∧c13=c13∧c48=D.nil ByteArray∧True)∧∀ (x:Int),
 let c49:=namesTo c1 (4:Int) x;
 let c50:=D.len c49;
 let c51:=[(D.get ls (D.nat x) c17).fst];
 let c52:=D.nadd c50 (D.len c51);
 let c53:=D.add x (1:Int);upN x c14→(D.lt x c15=true→D.ile (0:Int) x∧D.ilt x c15∧c50=c50∧D.nle (D.nmul c52 (16)) (140737488355328)∧D.nle
 c52 (9223372036854775807)∧inR IntKind.i64 c53∧∃ y,
 let c54:=namesTo c1 (4:Int) y;upN y c14∧(cs=cs∧ns=ns∧os=os∧fs=fs∧ls=ls∧ks=ks∧k=k∧c1=c1∧Value.slice none (0) (0) =
 Value.slice none (0) (0)∧c52=D.len c54∧c53=y∧k=k∧c2=c2∧c2=c2∧c7=c7∧c7=c7∧c9=c9∧c9=c9∧c13=c13∧c13=c13∧D.app c49
 c51=c54∧True)∧D.nlt (D.nat (D.sub c14 y)) (D.nat (D.sub c14 x)))∧(D.lt x c15=false→c50=c50∧c49=c6∧True))∧(c13=false→(c18=true→(∃
 x,
 let c55:=namesTo c1 (5:Int) x;upN x c19∧cs=cs∧ns=ns∧os=os∧fs=fs∧ls=ls∧ks=ks∧k=k∧c1=c1∧Value.slice none (0) (0) =
 Value.slice none (0) (0)∧D.len c55=0∧c55=D.nil ByteArray∧(0:Int)=x∧k=k∧c2=c2∧c2=c2∧c7=c7∧c7=c7∧c9=c9∧c9=c9∧c13 =
 c13∧c13=c13∧c18=c18∧c18=c18∧c55=D.nil ByteArray∧True)∧∀ (x:Int),
 let c56:=namesTo c1 (5:Int) x;
 let c57:=D.len c56;
 let c58:=[(D.get ks (D.nat x) c21).fst];
 let c59:=D.nadd c57 (D.len c58);
 let c60:=D.add x (1:Int);upN x c19→(D.lt x c20=true→D.ile (0:Int) x∧D.ilt x c20∧c57=c57∧D.nle (D.nmul c59 (16)) (140737488355328)∧D.nle
 c59 (9223372036854775807)∧inR IntKind.i64 c60∧∃ y,
 let c61:=namesTo c1 (5:Int) y;upN y c19∧(cs=cs∧ns=ns∧os=os∧fs=fs∧ls=ls∧ks=ks∧k=k∧c1=c1∧Value.slice none (0) (0) =
 Value.slice none (0) (0)∧c59=D.len c61∧c60=y∧k=k∧c2=c2∧c2=c2∧c7=c7∧c7=c7∧c9=c9∧c9=c9∧c13=c13∧c13=c13∧c18=c18 ∧
 c18=c18∧D.app c56 c58=c61∧True)∧D.nlt (D.nat (D.sub c19 y)) (D.nat (D.sub c19 x)))∧(D.lt x c20=false→c57=c57∧c56=c6∧True))∧(c18 =
 false→c6=D.nil ByteArray∧True))))))) :
  evF (mkc K8) (namesA (cs,ns,os,fs,ls,ks)) 94 [net cs ns os fs ls ks,.dat I k] [] ⟨fewLen (cs,ns,os,fs,ls,ks)=true,.dat (.sl S) (namesF (cs,ns,os,fs,ls,ks) k),[]⟩:=@of_eq _ _ (by kernel_rfl) hvc
theorem vc_numbers (k i:Int) (cs:LC) (ns os:LB) (fs:List Off) (ls:List Line) (ks:List Cla) (hvc :
 let c1:=(cs,ns,os,fs,ls,ks);
 let c2:=D.eq k (1:Int);
 let c3:=D.get cs (D.nat i) ((0:Int),D.nil Bool,D.nil Int);
 let c4:=c3.snd;
 let c5:=goodAt c1 k i;
 let c6:=D.eq k (3:Int);
 let c7:=D.get fs (D.nat i) (ByteArray.mk (D.nil UInt8).toArray,(0:Int),(0:Int),(0:Int),(0:Int),(0:Int),D.nil ByteArray);
 let c8:=c7.snd;
 let c9:=c8.snd;
 let c10:=c9.snd;
 let c11:=c10.snd;
 let c12:=c11.snd;
 let c13:=(c7.fst,c8.fst,c9.fst,c10.fst,c11.fst,c12.fst,c12.snd);
 let c14:=D.eq k (4:Int);
 let c15:=((0:Int),(0:Int));
 let c16:=D.get ls (D.nat i) (ByteArray.mk (D.nil UInt8).toArray,(0:Int),(0:Int),(0:Int),c15);
 let c17:=c16.snd;
 let c18:=c17.snd;
 let c19:=c18.snd;
 let c20:=c19.snd;
 let c21:=D.eq k (5:Int);
 let c22:=(D.get ks (D.nat i) (ByteArray.mk (D.nil UInt8).toArray,c15)).snd;
 let c23:=fromF c22.fst (0:Int) (1439:Int);true=true∧(numP c1 k i→(c2=true→D.ile (0:Int) i∧D.ilt i (D.ilen cs)∧True∧validF c3.fst c4.fst
 c4.snd=c5∧True)∧(c2=false→(c6=true→D.ile (0:Int) i∧D.ilt i (D.ilen fs)∧officeP c1 c13∧goodOff c1 c13=c5∧True)∧(c6=false→(c14 =
 true→D.ile (0:Int) i∧D.ilt i (D.ilen ls)∧fewLen c1=true∧goodLin c1 (c16.fst,c17.fst,c18.fst,c19.fst,c20.fst,c20.snd)=c5∧True)∧(c14 =
 false→(c21=true→D.ile (0:Int) i∧D.ilt i (D.ilen ks)∧True∧(c23=true→c23=true→c23=true)∧(c23=true→c23=true→c23=true)∧(c23 =
 true→c23=true→c23=true)∧(c23=true→D.ile (0:Int) i)∧(c23=true→D.ilt i (D.ilen ks))∧(c23=true→c23=true→c23=true)∧(c23=true
 → c23=true→c23=true)∧(c23=true→c23=true→c23=true)∧(c23=true→True)∧(D.and true c23=true→c23=true)∧D.cnd c23 (fromF c22.snd (0
 : Int) (1439:Int)) false=c5∧True)∧(c21=false→true=c5∧True)))))) :
  evF (mkc K8) noAnn 126 [net cs ns os fs ls ks,.dat I k,.dat I i] [] ⟨numP (cs,ns,os,fs,ls,ks) k i,.dat .bool (goodAt (cs,ns,os,fs,ls,ks) k i),[]⟩:=@of_eq _ _ (by kernel_rfl) hvc
def sameRA (a b:List (List Int)):Ann:=⟨fun id st=>match id with
 | 4=>some { α:=Int,inv:=fun k=>sameRTo a b k,st:=fun k=>put st [(5,.dat I k)],μ:=fun k=>D.nat (D.sub (D.ilen a) k) }
 | 9=>match st.sig.T 5 with
  | .dat (.int .i64) i=>some { α:=Int,inv:=fun k=>sameCTo a b i k,st:=fun k=>put st [(6,.dat I k)],μ:=fun k=>D.nat (D.sub (D.ilen (D.get a (D.nat i) [])) k) }
  | _=>none
 | _=>none,fun _ _=>none,fun _ _=>none⟩
def K9:Kt:=kOr 94 (dataK [.row N,.val I] (fun (n,_,_)=>fewLen n=true) fun (n,k,_)=>.dat (.sl S) (namesF n k)) <|
 kOr 126 (dataK [.row N,.val I,.val I] (fun (n,k,i,_)=>numP n k i) fun (n,k,i,_)=>.dat .bool (goodAt n k i)) <|
 K8
def errnoA (l:List ByteArray) (i:Int):Ann:=⟨fun id st=>match id with
 | 5=>some { α:=Int,inv:=fun k=>twTo l i k,st:=fun k=>put st [(10,.dat I k)],μ:=fun k=>D.nat (D.sub i k) }
 | _=>none,fun _ _=>none,fun _ _=>none⟩
theorem vc_errno (k i:Int) (cs:LC) (ns os:LB) (fs:List Off) (ls:List Line) (ks:List Cla) (hvc :
 let c1:=(cs,ns,os,fs,ls,ks);
 let c2:=namesF c1 k;
 let c3:=D.ilen c2;
 let c4:=D.get c2 (D.nat i) (ByteArray.mk (D.nil UInt8).toArray);
 let c5:=isNameF c4;
 let c6:=D.not c5;
 let c7:=errF c2 (goodsF c1 k) i;
 let c8:=D.not (goodAt c1 k i);true=true∧(numP c1 k i→D.ile (0:Int) i∧D.ilt i c3∧True∧(c6=true→(1:Int)=c7∧True)∧(c6=false→(∃ x,
 twTo c2 i x∧cs=cs∧ns=ns∧os=os∧fs=fs∧ls=ls∧ks=ks∧k=k∧c2=c2∧i=i∧c1=c1∧c5=c5∧(0:Int)=x∧c2=c2∧i=i∧c4 =
 c4∧c4=c4∧c5=c5∧c5=c5∧c6=c6∧True)∧∀ (x:Int),
 let c9:=D.sEq (D.get c2 (D.nat x) (ByteArray.mk (D.nil UInt8).toArray)) c4;
 let c10:=D.add x (1:Int);twTo c2 i x→(D.lt x i=true→D.ile (0:Int) x∧D.ilt x c3∧D.ile (0:Int) i∧D.ilt i c3∧(c9=true→(4:Int)=c7 ∧
 True)∧(c9=false→inR IntKind.i64 c10∧∃ y,twTo c2 i y∧(cs=cs∧ns=ns∧os=os∧fs=fs∧ls=ls∧ks=ks∧k=k∧c2=c2∧i=i∧c1=c1 ∧
 c5=c5∧c10=y∧c2=c2∧i=i∧c4=c4∧c4=c4∧c5=c5∧c5=c5∧c6=c6∧True)∧D.nlt (D.nat (D.sub i y)) (D.nat (D.sub i x))))∧(D.lt x i =
 false→numP c1 k i∧(c8=true→(1:Int)=c7∧True)∧(c8=false→(0:Int)=c7∧True))))) :
  evF (mkc K9) (errnoA (namesF (cs,ns,os,fs,ls,ks) k) i) 96 [net cs ns os fs ls ks,.dat I k,.dat (.sl S) (namesF (cs,ns,os,fs,ls,ks) k),.dat I i] [] ⟨numP (cs,ns,os,fs,ls,ks) k i,.dat I (errF (namesF (cs,ns,os,fs,ls,ks) k) (goodsF (cs,ns,os,fs,ls,ks) k) i),[]⟩:=@of_eq _ _ (by kernel_rfl) hvc
def fewA (n:Net):Ann:=⟨fun id st=>match id with
 | 4=>some { α:=Int,inv:=fun k=>calsTo n.1 k,st:=fun k=>put st [(3,.dat I k)],μ:=fun k=>D.nat (D.sub (D.ilen n.1) k) }
 | 9=>some { α:=Int,inv:=fun k=>offsTo n.2.2.2.1 k,st:=fun k=>put st [(4,.dat I k)],μ:=fun k=>D.nat (D.sub (D.ilen n.2.2.2.1) k) }
 | 14=>some { α:=Int,inv:=fun k=>kindsTo n k,st:=fun k=>put st [(5,.dat I k)],μ:=fun k=>D.nat (D.sub 6 k) }
 | 18=>match st.sig.T 5 with
  | .dat (.int .i64) k=>some { α:=Int,inv:=fun i=>namTo (namesF n k) i,st:=fun i=>put st [(7,.dat I i)],μ:=fun i=>D.nat (D.sub (D.ilen (namesF n k)) i) }
  | _=>none
 | _=>none,fun _ _=>none,fun _ _=>none⟩
theorem vc_few (cs:LC) (ns os:LB) (fs:List Off) (ls:List Line) (ks:List Cla) (hvc :
 let c1:=D.ilen cs;
 let c2:=D.gt c1 (10:Int);
 let c3:=D.not c2;
 let c4:=D.cnd c2 true (D.gt (D.ilen ns) (10:Int));
 let c5:=D.not c4;
 let c6:=D.cnd c4 true (D.gt (D.ilen os) (10:Int));
 let c7:=D.not c6;
 let c8:=D.ilen fs;
 let c9:=D.cnd c6 true (D.gt c8 (16:Int));
 let c10:=D.not c9;
 let c11:=D.cnd c9 true (D.gt (D.ilen ls) (50:Int));
 let c12:=D.not c11;
 let c13:=D.cnd c11 true (D.gt (D.ilen ks) (8:Int));
 let c14:=(fs,ls,ks);
 let c15:=(cs,ns,os,c14);
 let c16:=fewF c15;true=true∧(True→(c3=true→c3=true→c3=true)∧(c3=true→c3=true→c3=true)∧(c3=true→c3=true→c3=true) ∧
 (D.and true c3=true→c3=true)∧(c5=true→c5=true→c5=true)∧(c5=true→c5=true→c5=true)∧(c5=true→c5=true→c5=true)∧(D.and
 true c5=true→c5=true)∧(c7=true→c7=true→c7=true)∧(c7=true→c7=true→c7=true)∧(c7=true→c7=true→c7=true)∧(D.and true c7
 = true→c7=true)∧(c10=true→c10=true→c10=true)∧(c10=true→c10=true→c10=true)∧(c10=true→c10=true→c10=true)∧(D.and true
 c10=true→c10=true)∧(c12=true→c12=true→c12=true)∧(c12=true→c12=true→c12=true)∧(c12=true→c12=true→c12=true)∧(D.and
 true c12=true→c12=true)∧(c13=true→false=c16∧True)∧(c13=false→(∃ x,calsTo cs x∧cs=cs∧ns=ns∧os=os∧fs=fs∧ls=ls∧ks =
 ks∧c15=c15∧(0:Int)=x∧c15=c15∧cs=cs∧c1=c1∧c2=c2∧c2=c2∧c4=c4∧c4=c4∧c6=c6∧c6=c6∧c9=c9∧c9=c9∧c11=c11 ∧
 c11=c11∧c13=c13∧True)∧∀ (x:Int),
 let c17:=(D.get cs (D.nat x) ((0:Int),D.nil Bool,D.nil Int)).snd;
 let c18:=D.not (smallF c17.fst c17.snd);
 let c19:=D.add x (1:Int);calsTo cs x→(D.lt x c1=true→D.ile (0:Int) x∧D.ilt x c1∧True∧(c18=true→false=c16∧True)∧(c18=false→inR
 IntKind.i64 c19∧∃ y,calsTo cs y∧(cs=cs∧ns=ns∧os=os∧fs=fs∧ls=ls∧ks=ks∧c15=c15∧c19=y∧c15=c15∧cs=cs∧c1=c1∧c2=c2
 ∧ c2=c2∧c4=c4∧c4=c4∧c6=c6∧c6=c6∧c9=c9∧c9=c9∧c11=c11∧c11=c11∧c13=c13∧True)∧D.nlt (D.nat (D.sub c1 y)) (D.nat (D.sub c1
 x))))∧(D.lt x c1=false→(∃ x_3,offsTo fs x_3∧cs=cs∧ns=ns∧os=os∧fs=fs∧ls=ls∧ks=ks∧c15=c15∧x=x∧(0:Int)=x_3∧c15 =
 c15∧cs=cs∧c1=c1∧c2=c2∧c2=c2∧c4=c4∧c4=c4∧c6=c6∧c6=c6∧c9=c9∧c9=c9∧c11=c11∧c11=c11∧c13=c13∧x=x∧c15=c15
 ∧ cs=cs∧c1=c1∧D.lt x c1=D.lt x c1∧True)∧∀ (x_3:Int),
 let c20:=D.gt (D.ilen (D.get fs (D.nat x_3) (ByteArray.mk (D.nil UInt8).toArray,(0:Int),(0:Int),(0:Int),(0:Int),(0:Int),D.nil
 ByteArray)).snd.snd.snd.snd.snd.snd) (30:Int);
 let c21:=D.add x_3 (1:Int);offsTo fs x_3→(D.lt x_3 c8=true→D.ile (0:Int) x_3∧D.ilt x_3 c8∧(c20=true→false=c16∧True)∧(c20=false →
 inR IntKind.i64 c21∧∃ y,offsTo fs y∧(cs=cs∧ns=ns∧os=os∧fs=fs∧ls=ls∧ks=ks∧c15=c15∧x=x∧c21=y∧c15=c15∧cs=cs∧c1 =
 c1∧c2=c2∧c2=c2∧c4=c4∧c4=c4∧c6=c6∧c6=c6∧c9=c9∧c9=c9∧c11=c11∧c11=c11∧c13=c13∧x=x∧c15=c15∧cs=cs∧c1=c1
 ∧ D.lt x c1=D.lt x c1∧True)∧D.nlt (D.nat (D.sub c8 y)) (D.nat (D.sub c8 x_3))))∧(D.lt x_3 c8=false→(∃ x_6,kindsTo c15 x_6∧cs=cs∧ns=ns∧os
 = os∧fs=fs∧ls=ls∧ks=ks∧c15=c15∧x=x∧x_3=x_3∧(1:Int)=x_6∧c15=c15∧cs=cs∧c1=c1∧c2=c2∧c2=c2∧c4=c4∧c4=c4 ∧
 c6=c6∧c6=c6∧c9=c9∧c9=c9∧c11=c11∧c11=c11∧c13=c13∧x=x∧c15=c15∧cs=cs∧c1=c1∧D.lt x c1=D.lt x c1∧x_3=x_3∧c14 =
 c14∧fs=fs∧c8=c8∧D.lt x_3 c8=D.lt x_3 c8∧True)∧∀ (x_6:Int),
 let c22:=D.le x_6 (5:Int);
 let c23:=D.ilen (namesF c15 x_6);
 let c24:=D.add x_6 (1:Int);kindsTo c15 x_6→(c22=true→fewLen c15=true∧(∃ x_9,namTo (namesF c15 x_6) x_9∧cs=cs∧ns=ns∧os=os∧fs=fs ∧
 ls=ls∧ks=ks∧c15=c15∧x=x∧x_3=x_3∧x_6=x_6∧namesF c15 x_6=namesF c15 x_6∧(0:Int)=x_9∧c15=c15∧cs=cs∧c1=c1∧c2=c2 ∧
 c2=c2∧c4=c4∧c4=c4∧c6=c6∧c6=c6∧c9=c9∧c9=c9∧c11=c11∧c11=c11∧c13=c13∧x=x∧c15=c15∧cs=cs∧c1=c1∧D.lt x c1 =
 D.lt x c1∧x_3=x_3∧c14=c14∧fs=fs∧c8=c8∧D.lt x_3 c8=D.lt x_3 c8∧x_6=x_6∧c22=c22∧cs=cs∧ns=ns∧os=os∧fs=fs∧ls=ls ∧
 ks=ks∧x_6=x_6∧namesF c15 x_6=namesF c15 x_6∧True)∧∀ (x_9:Int),
 let c25:=D.gt (D.slen (D.get (namesF c15 x_6) (D.nat x_9) (ByteArray.mk (D.nil UInt8).toArray))) (40:Int);
 let c26:=D.add x_9 (1:Int);namTo (namesF c15 x_6) x_9→(D.lt x_9 c23=true→D.ile (0:Int) x_9∧D.ilt x_9 c23∧(c25=true→false=c16∧True) ∧
 (c25=false→inR IntKind.i64 c26∧∃ y,namTo (namesF c15 x_6) y∧(cs=cs∧ns=ns∧os=os∧fs=fs∧ls=ls∧ks=ks∧c15=c15∧x=x∧x_3=x_3
 ∧ x_6=x_6∧namesF c15 x_6=namesF c15 x_6∧c26=y∧c15=c15∧cs=cs∧c1=c1∧c2=c2∧c2=c2∧c4=c4∧c4=c4∧c6=c6∧c6=c6∧c9=c9 ∧
 c9=c9∧c11=c11∧c11=c11∧c13=c13∧x=x∧c15=c15∧cs=cs∧c1=c1∧D.lt x c1=D.lt x c1∧x_3=x_3∧c14=c14∧fs=fs∧c8=c8∧D.lt
 x_3 c8=D.lt x_3 c8∧x_6=x_6∧c22=c22∧cs=cs∧ns=ns∧os=os∧fs=fs∧ls=ls∧ks=ks∧x_6=x_6∧namesF c15 x_6=namesF c15 x_6∧True)
 ∧ D.nlt (D.nat (D.sub c23 y)) (D.nat (D.sub c23 x_9))))∧(D.lt x_9 c23=false→inR IntKind.i64 c24∧∃ y,kindsTo c15 y∧(cs=cs∧ns=ns∧os=os∧fs
 = fs∧ls=ls∧ks=ks∧c15=c15∧x=x∧x_3=x_3∧c24=y∧c15=c15∧cs=cs∧c1=c1∧c2=c2∧c2=c2∧c4=c4∧c4=c4∧c6=c6∧c6=c6
 ∧ c9=c9∧c9=c9∧c11=c11∧c11=c11∧c13=c13∧x=x∧c15=c15∧cs=cs∧c1=c1∧D.lt x c1=D.lt x c1∧x_3=x_3∧c14=c14∧fs=fs∧c8
 = c8∧D.lt x_3 c8=D.lt x_3 c8∧True)∧D.nlt (D.nat (D.sub (6:Int) y)) (D.nat (D.sub (6:Int) x_6))))∧(c22=false→true=c16∧True)))))) :
  evF (mkc K9) (fewA (cs,ns,os,fs,ls,ks)) 57 [net cs ns os fs ls ks] [] ⟨True,.dat .bool (fewF (cs,ns,os,fs,ls,ks)),[]⟩:=@of_eq _ _ (by kernel_rfl) hvc
def K10:Kt:=kOr 96 (dataK [.row N,.val I,.val (.sl S),.val I] (fun (n,k,l,i,_)=>numP n k i∧l=namesF n k) fun (n,k,_,i,_)=>.dat I (errF (namesF n k) (goodsF n k) i)) <|
 kOr 57 (dataK [.row N] (fun _=>True) fun (n,_)=>.dat .bool (fewF n)) K9
def rFaultsA (n:Net):Ann:=⟨fun id st=>match id with
 | 5=>some { α:=Int,inv:=fun k=>kUp k,st:=fun k=>putM (put st [(4,.dat I k),(3,.buf 0 (D.len (faultsTo n k)))]) 0 (.buf 118 Fa (faultsTo n k) []),μ:=fun k=>D.nat (D.sub 6 k) }
 | 9=>match st.sig.T 4 with
  | .dat (.int .i64) k=>some { α:=Int,inv:=fun i=>nUp n k i,st:=fun i=>putM (put st [(6,.dat I i),(3,.buf 0 (D.len (rFaultsTo n k i)))]) 0 (.buf 118 Fa (rFaultsTo n k i) []),μ:=fun i=>D.nat (D.sub (D.ilen (namesF n k)) i) }
  | _=>none
 | _=>none,fun _ _=>none,fun _ _=>none⟩
set_option maxHeartbeats 4000000 in
theorem vc_rfaults (cs:LC) (ns os:LB) (fs:List Off) (ls:List Line) (ks:List Cla) (hvc :
 let c1:=(ns,os,fs,ls,ks);
 let c2:=(cs,c1);
 let c3:=D.ilen cs;
 let c4:=D.ne (D.ilen ns) c3;
 let c5:=[((1:Int),(-1:Int),(1:Int))];
 let c6:=D.len c5;
 let c7:=faultsF c2;true=true∧(fewC c2=true→(c4=true→D.nle (D.nmul c6 (24)) (140737488355328)∧D.nle c6 (9223372036854775807)∧(∃ x,kUp x∧cs
 = cs∧ns=ns∧os=os∧fs=fs∧ls=ls∧ks=ks∧c2=c2∧Value.slice none (0) (0)=Value.slice none (0) (0)∧c6=D.len (faultsTo c2 x)∧(1:Int)
 = x∧c1=c1∧ns=ns∧D.ilen ns=D.ilen ns∧c2=c2∧cs=cs∧c3=c3∧c4=c4∧Value.slice none (0) (0)=Value.slice none (0) (0)∧(1:Int)=(1
 : Int)∧(-1:Int)=(-1:Int)∧(1:Int)=(1:Int)∧c5=c5∧c6=c6∧c5=faultsTo c2 x∧True)∧∀ (x:Int),
 let c8:=D.le x (5:Int);
 let c9:=D.len (faultsTo c2 x);
 let c10:=D.ilen (namesF c2 x);
 let c11:=D.gt c10 (limitF x);
 let c12:=[(x,limitF x,(2:Int))];
 let c13:=D.len c12;
 let c14:=D.add x (1:Int);kUp x→(c8=true→fewLen c2=true∧(∃ x_3,nUp c2 x x_3∧cs=cs∧ns=ns∧os=os∧fs=fs∧ls=ls∧ks=ks∧c2=c2
 ∧ Value.slice none (0) (0)=Value.slice none (0) (0)∧c9=D.len (rFaultsTo c2 x x_3)∧x=x∧namesF c2 x=namesF c2 x∧(0:Int)=x_3∧c1=c1∧ns =
 ns∧D.ilen ns=D.ilen ns∧c2=c2∧cs=cs∧c3=c3∧c4=c4∧Value.slice none (0) (0)=Value.slice none (0) (0)∧(1:Int)=(1:Int)∧(-1:Int) =
 (-1:Int)∧(1:Int)=(1:Int)∧c5=c5∧c6=c6∧x=x∧c8=c8∧cs=cs∧ns=ns∧os=os∧fs=fs∧ls=ls∧ks=ks∧x=x∧namesF c2 x =
 namesF c2 x∧faultsTo c2 x=rFaultsTo c2 x x_3∧True)∧∀ (x_3:Int),
 let c15:=D.cnd (D.lt x_3 c10) (D.lt x_3 (limitF x)) false;
 let c16:=errF (namesF c2 x) (goodsF c2 x) x_3;
 let c17:=D.ne c16 (0:Int);
 let c18:=D.len (rFaultsTo c2 x x_3);
 let c19:=[(x,x_3,c16)];
 let c20:=D.nadd c18 (D.len c19);
 let c21:=D.add x_3 (1:Int);
 let c22:=D.nadd c18 c13;nUp c2 x x_3→(D.lt x_3 c10=true→D.lt x_3 c10=true→D.lt x_3 c10=true)∧(D.lt x_3 c10=true→True)∧(D.lt x_3 c10 =
 true→D.lt x_3 c10=true→D.lt x_3 c10=true)∧(D.lt x_3 c10=true→D.lt x_3 c10=true→D.lt x_3 c10=true)∧(D.and true (D.lt x_3 c10)=true →
 D.lt x_3 c10=true)∧(c15=true→(numP c2 x x_3∧namesF c2 x=namesF c2 x)∧(c17=true→c18=c18∧D.nle (D.nmul c20 (24)) (140737488355328)∧D.nle
 c20 (9223372036854775807)∧inR IntKind.i64 c21∧∃ y,nUp c2 x y∧(cs=cs∧ns=ns∧os=os∧fs=fs∧ls=ls∧ks=ks∧c2=c2∧Value.slice none (0)
 (0)=Value.slice none (0) (0)∧c20=D.len (rFaultsTo c2 x y)∧x=x∧namesF c2 x=namesF c2 x∧c21=y∧c1=c1∧ns=ns∧D.ilen ns=D.ilen ns∧c2
 = c2∧cs=cs∧c3=c3∧c4=c4∧Value.slice none (0) (0)=Value.slice none (0) (0)∧(1:Int)=(1:Int)∧(-1:Int)=(-1:Int)∧(1:Int)=(1 :
 Int)∧c5=c5∧c6=c6∧x=x∧c8=c8∧cs=cs∧ns=ns∧os=os∧fs=fs∧ls=ls∧ks=ks∧x=x∧namesF c2 x=namesF c2 x∧D.app (rFaultsTo
 c2 x x_3) c19=rFaultsTo c2 x y∧True)∧D.nlt (D.nat (D.sub c10 y)) (D.nat (D.sub c10 x_3)))∧(c17=false→inR IntKind.i64 c21∧∃ y,nUp c2 x y∧(cs =
 cs∧ns=ns∧os=os∧fs=fs∧ls=ls∧ks=ks∧c2=c2∧Value.slice none (0) (0)=Value.slice none (0) (0)∧c18=D.len (rFaultsTo c2 x y)∧x=x ∧
 namesF c2 x=namesF c2 x∧c21=y∧c1=c1∧ns=ns∧D.ilen ns=D.ilen ns∧c2=c2∧cs=cs∧c3=c3∧c4=c4∧Value.slice none (0) (0) =
 Value.slice none (0) (0)∧(1:Int)=(1:Int)∧(-1:Int)=(-1:Int)∧(1:Int)=(1:Int)∧c5=c5∧c6=c6∧x=x∧c8=c8∧cs=cs∧ns=ns ∧
 os=os∧fs=fs∧ls=ls∧ks=ks∧x=x∧namesF c2 x=namesF c2 x∧rFaultsTo c2 x x_3=rFaultsTo c2 x y∧True)∧D.nlt (D.nat (D.sub c10 y)) (D.nat
 (D.sub c10 x_3))))∧(c15=false→True∧(c11=true→True∧c18=c18∧D.nle (D.nmul c22 (24)) (140737488355328)∧D.nle c22 (9223372036854775807)∧inR
 IntKind.i64 c14∧∃ y,kUp y∧(cs=cs∧ns=ns∧os=os∧fs=fs∧ls=ls∧ks=ks∧c2=c2∧Value.slice none (0) (0)=Value.slice none (0) (0)∧c22
 = D.len (faultsTo c2 y)∧c14=y∧c1=c1∧ns=ns∧D.ilen ns=D.ilen ns∧c2=c2∧cs=cs∧c3=c3∧c4=c4∧Value.slice none (0) (0)=Value.slice
 none (0) (0)∧(1:Int)=(1:Int)∧(-1:Int)=(-1:Int)∧(1:Int)=(1:Int)∧c5=c5∧c6=c6∧D.app (rFaultsTo c2 x x_3) c12=faultsTo c2 y ∧
 True)∧D.nlt (D.nat (D.sub (6:Int) y)) (D.nat (D.sub (6:Int) x)))∧(c11=false→inR IntKind.i64 c14∧∃ y,kUp y∧(cs=cs∧ns=ns∧os=os∧fs =
 fs∧ls=ls∧ks=ks∧c2=c2∧Value.slice none (0) (0)=Value.slice none (0) (0)∧c18=D.len (faultsTo c2 y)∧c14=y∧c1=c1∧ns=ns∧D.ilen ns
 = D.ilen ns∧c2=c2∧cs=cs∧c3=c3∧c4=c4∧Value.slice none (0) (0)=Value.slice none (0) (0)∧(1:Int)=(1:Int)∧(-1:Int)=(-1:Int) ∧
 (1:Int)=(1:Int)∧c5=c5∧c6=c6∧rFaultsTo c2 x x_3=faultsTo c2 y∧True)∧D.nlt (D.nat (D.sub (6:Int) y)) (D.nat (D.sub (6:Int) x)))))∧(c8
 = false→c9=D.len c7∧faultsTo c2 x=c7∧True))∧(c4=false→(∃ x,kUp x∧cs=cs∧ns=ns∧os=os∧fs=fs∧ls=ls∧ks=ks∧c2=c2 ∧
 Value.slice none (0) (0)=Value.slice none (0) (0)∧D.len (faultsTo c2 x)=0∧faultsTo c2 x=D.nil (Int×Int×Int)∧(1:Int)=x∧c1=c1∧ns=ns ∧
 D.ilen ns=D.ilen ns∧c2=c2∧cs=cs∧c3=c3∧c4=c4∧faultsTo c2 x=D.nil (Int×Int×Int)∧True)∧∀ (x:Int),
 let c23:=D.le x (5:Int);
 let c24:=D.len (faultsTo c2 x);
 let c25:=D.ilen (namesF c2 x);
 let c26:=D.gt c25 (limitF x);
 let c27:=[(x,limitF x,(2:Int))];
 let c28:=D.len c27;
 let c29:=D.add x (1:Int);kUp x→(c23=true→fewLen c2=true∧(∃ x_3,nUp c2 x x_3∧cs=cs∧ns=ns∧os=os∧fs=fs∧ls=ls∧ks=ks∧c2 =
 c2∧Value.slice none (0) (0)=Value.slice none (0) (0)∧c24=D.len (rFaultsTo c2 x x_3)∧x=x∧namesF c2 x=namesF c2 x∧(0:Int)=x_3∧c1=c1 ∧
 ns=ns∧D.ilen ns=D.ilen ns∧c2=c2∧cs=cs∧c3=c3∧c4=c4∧x=x∧c23=c23∧cs=cs∧ns=ns∧os=os∧fs=fs∧ls=ls∧ks=ks∧x=x
 ∧ namesF c2 x=namesF c2 x∧faultsTo c2 x=rFaultsTo c2 x x_3∧True)∧∀ (x_3:Int),
 let c30:=D.cnd (D.lt x_3 c25) (D.lt x_3 (limitF x)) false;
 let c31:=errF (namesF c2 x) (goodsF c2 x) x_3;
 let c32:=D.ne c31 (0:Int);
 let c33:=D.len (rFaultsTo c2 x x_3);
 let c34:=[(x,x_3,c31)];
 let c35:=D.nadd c33 (D.len c34);
 let c36:=D.add x_3 (1:Int);
 let c37:=D.nadd c33 c28;nUp c2 x x_3→(D.lt x_3 c25=true→D.lt x_3 c25=true→D.lt x_3 c25=true)∧(D.lt x_3 c25=true→True)∧(D.lt x_3 c25 =
 true→D.lt x_3 c25=true→D.lt x_3 c25=true)∧(D.lt x_3 c25=true→D.lt x_3 c25=true→D.lt x_3 c25=true)∧(D.and true (D.lt x_3 c25)=true →
 D.lt x_3 c25=true)∧(c30=true→(numP c2 x x_3∧namesF c2 x=namesF c2 x)∧(c32=true→c33=c33∧D.nle (D.nmul c35 (24)) (140737488355328)∧D.nle
 c35 (9223372036854775807)∧inR IntKind.i64 c36∧∃ y,nUp c2 x y∧(cs=cs∧ns=ns∧os=os∧fs=fs∧ls=ls∧ks=ks∧c2=c2∧Value.slice none (0)
 (0)=Value.slice none (0) (0)∧c35=D.len (rFaultsTo c2 x y)∧x=x∧namesF c2 x=namesF c2 x∧c36=y∧c1=c1∧ns=ns∧D.ilen ns=D.ilen ns∧c2
 = c2∧cs=cs∧c3=c3∧c4=c4∧x=x∧c23=c23∧cs=cs∧ns=ns∧os=os∧fs=fs∧ls=ls∧ks=ks∧x=x∧namesF c2 x=namesF c2 x∧D.app
 (rFaultsTo c2 x x_3) c34=rFaultsTo c2 x y∧True)∧D.nlt (D.nat (D.sub c25 y)) (D.nat (D.sub c25 x_3)))∧(c32=false→inR IntKind.i64 c36∧∃ y,nUp c2 x
 y∧(cs=cs∧ns=ns∧os=os∧fs=fs∧ls=ls∧ks=ks∧c2=c2∧Value.slice none (0) (0)=Value.slice none (0) (0)∧c33=D.len (rFaultsTo c2 x y)
 ∧ x=x∧namesF c2 x=namesF c2 x∧c36=y∧c1=c1∧ns=ns∧D.ilen ns=D.ilen ns∧c2=c2∧cs=cs∧c3=c3∧c4=c4∧x=x∧c23=c23∧cs=cs
 ∧ ns=ns∧os=os∧fs=fs∧ls=ls∧ks=ks∧x=x∧namesF c2 x=namesF c2 x∧rFaultsTo c2 x x_3=rFaultsTo c2 x y∧True)∧D.nlt (D.nat (D.sub c25
 y)) (D.nat (D.sub c25 x_3))))∧(c30=false→True∧(c26=true→True∧c33=c33∧D.nle (D.nmul c37 (24)) (140737488355328)∧D.nle c37
 (9223372036854775807)∧inR IntKind.i64 c29∧∃ y,kUp y∧(cs=cs∧ns=ns∧os=os∧fs=fs∧ls=ls∧ks=ks∧c2=c2∧Value.slice none (0) (0) =
 Value.slice none (0) (0)∧c37=D.len (faultsTo c2 y)∧c29=y∧c1=c1∧ns=ns∧D.ilen ns=D.ilen ns∧c2=c2∧cs=cs∧c3=c3∧c4=c4∧D.app
 (rFaultsTo c2 x x_3) c27=faultsTo c2 y∧True)∧D.nlt (D.nat (D.sub (6:Int) y)) (D.nat (D.sub (6:Int) x)))∧(c26=false→inR IntKind.i64 c29∧∃ y,
 kUp y∧(cs=cs∧ns=ns∧os=os∧fs=fs∧ls=ls∧ks=ks∧c2=c2∧Value.slice none (0) (0)=Value.slice none (0) (0)∧c33=D.len (faultsTo c2
 y)∧c29=y∧c1=c1∧ns=ns∧D.ilen ns=D.ilen ns∧c2=c2∧cs=cs∧c3=c3∧c4=c4∧rFaultsTo c2 x x_3=faultsTo c2 y∧True)∧D.nlt (D.nat
 (D.sub (6:Int) y)) (D.nat (D.sub (6:Int) x)))))∧(c23=false→c24=D.len c7∧faultsTo c2 x=c7∧True)))) :
  evF (mkc K10) (rFaultsA (cs,ns,os,fs,ls,ks)) 58 [net cs ns os fs ls ks] [] ⟨fewC (cs,ns,os,fs,ls,ks)=true,.buf 0 (D.len (faultsF (cs,ns,os,fs,ls,ks))),[(0,.buf 118 Fa (faultsF (cs,ns,os,fs,ls,ks)) [])]⟩:=@of_eq _ _ (by kernel_rfl) hvc
def K11:Kt:=kOr 58 (freshK [.row N] (fun (n,_)=>fewC n=true) (fun (n,_)=>.buf 0 (D.len (faultsF n))) fun (n,_)=>.buf 118 Fa (faultsF n) []) K10
theorem vc_consistent (cs:LC) (ns os:LB) (fs:List Off) (ls:List Line) (ks:List Cla) (hvc :
 let c1:=(cs,ns,os,fs,ls,ks);
 let c2:=D.len (faultsF c1);true=true∧(fewC c1=true→fewC c1=true∧c2=c2∧D.eq (Int.ofNat c2) (0:Int)=noF c1∧True)) :
  evF (mkc K11) noAnn 97 [net cs ns os fs ls ks] [] ⟨fewC (cs,ns,os,fs,ls,ks)=true,.dat .bool (noF (cs,ns,os,fs,ls,ks)),[]⟩:=@of_eq _ _ (by kernel_rfl) hvc
def K12:Kt:=kOr 97 (dataK [.row N] (fun (n,_)=>fewC n=true) fun (n,_)=>.dat .bool (noF n)) K11
theorem KS8:KSound Tryz.prog G0 K8:=kOr_ok (freshK_ok fun ((cs,ns,os,fs,ls,ks),_)=>t_incons cs ns os fs ls ks) KS7
theorem namesTo_zero (n:Net) (k:Int):namesTo n k 0=[]:=rfl
theorem namesTo_len {n:Net} {k i:Int} (h0:0≤i) (h1:i≤(namesF n k).length):(namesTo n k i).length=i.toNat:=by
 unfold namesTo;rw [List.length_take];omega
theorem namesTo_next {n:Net} {k i:Int} (h0:0≤i) (h1:i < (namesF n k).length):namesTo n k (i + 1)=namesTo n k i ++ [(namesF n k).getD i.toNat ⟨#[]⟩]:=by
 unfold namesTo
 rw [show (i + 1).toNat=i.toNat + 1 by omega,List.take_add_one,List.getD_eq_getElem?_getD,List.getElem?_eq_getElem (show i.toNat < (namesF n k).length by omega)]
 rfl
theorem namesTo_end {n:Net} {k i:Int} (h1:i≤(namesF n k).length) (h2:¬ i < (namesF n k).length):namesTo n k i=namesF n k:=by
 unfold namesTo;exact List.take_of_length_le (by omega)
theorem nm_blk {n:Net} {k:Int} {m:Nat} {el:Int→ByteArray} (hl:(namesF n k).length=m) (hm:m≤100) (he:∀ x,0≤x→x < (m:Int)→(namesF n k).getD x.toNat ⟨#[]⟩=el x) {R:List ByteArray} (hR:R=namesF n k) :
  (∃ x,upN x (namesF n k).length∧(namesTo n k x).length=0∧namesTo n k x=[]∧0=x∧namesTo n k x=[]) ∧
   ∀ (x:Int),upN x (namesF n k).length →
    (x < (m:Int)→0≤x∧x < (m:Int)∧((namesTo n k x).length + [el x].length) * 16≤140737488355328∧(namesTo n k x).length + [el x].length≤9223372036854775807∧inR IntKind.i64 (x + 1) ∧
     ∃ y,upN y (namesF n k).length∧((namesTo n k x).length + [el x].length=(namesTo n k y).length∧x + 1=y∧namesTo n k x ++ [el x]=namesTo n k y)∧(((namesF n k).length:Int) - y).toNat < (((namesF n k).length:Int) - x).toNat) ∧
    (¬x < (m:Int)→namesTo n k x=R):=by
 refine ⟨⟨0,⟨Int.le_refl _,Int.natCast_nonneg _⟩,rfl,rfl,rfl,rfl⟩,fun x ⟨h0,h1⟩=>⟨fun hlt=>?_,fun hge=>by rw [hR];exact namesTo_end h1 (by omega)⟩⟩
 have e1:=namesTo_len h0 h1
 have e2:=namesTo_next h0 (show x < ((namesF n k).length:Int) by omega)
 rw [he x h0 hlt] at e2
 refine ⟨h0,hlt,by simp only [List.length_singleton];omega,by simp only [List.length_singleton];omega,⟨by omega,by omega⟩,x + 1,⟨by omega,by omega⟩,⟨by rw [e2,List.length_append],rfl,e2.symm⟩,by omega⟩
theorem few_lens (cs:LC) (ns os:LB) (fs:List Off) (ls:List Line) (ks:List Cla) (hp:fewLen (cs,ns,os,fs,ls,ks)=true):cs.length≤10∧ns.length≤10∧os.length≤10∧fs.length≤16∧ls.length≤50∧ks.length≤8:=of_decide_eq_true hp
theorem t_names (k:Int) (cs:LC) (ns os:LB) (fs:List Off) (ls:List Line) (ks:List Cla):SoundC Tryz.prog G0 94 [net cs ns os fs ls ks,.dat I k] [] ⟨fewLen (cs,ns,os,fs,ls,ks)=true,.dat (.sl S) (namesF (cs,ns,os,fs,ls,ks) k),[]⟩:=by
 refine sound_of_ev (c:=mkc K8) KS8 KI0s hm (vc_names k cs ns os fs ls ks ⟨rfl,fun hp=>?_⟩)
 obtain ⟨l1,l2,l3,l4,l5,l6⟩:=few_lens cs ns os fs ls ks hp
 simp only [eq_self,true_and,and_true,D.nil,D.eq,D.lt,D.ilen,D.ile,D.ilt,D.nle,D.nlt,D.sub,D.add,D.nat,D.len,D.nadd,D.nmul,D.get,D.app,decide_eq_true_eq,decide_eq_false_iff_not,beq_iff_eq,beq_eq_false_iff_ne]
 refine ⟨fun hk=>?_,fun h1=>⟨fun hk=>?_,fun h2=>⟨fun hk=>?_,fun h3=>⟨fun hk=>?_,fun h4=>⟨fun hk=>?_,fun h5=>?_⟩⟩⟩⟩⟩
 ·subst hk
  have hl:(namesF (cs,ns,os,fs,ls,ks) 1).length=cs.length:=calNames_length cs ns
  obtain ⟨b1,b2⟩:=nm_blk (n:=(cs,ns,os,fs,ls,ks)) (k:=1) (el:=fun x=>ns.getD x.toNat ⟨#[]⟩) (R:=namesF (cs,ns,os,fs,ls,ks) 1) hl (by omega) (fun x h0 h1=>calNames_at h0 h1) rfl
  refine ⟨b1,fun x hx=>⟨fun hlt=>⟨fun hn=>⟨hx.1,hn,((b2 x hx).1 hlt).2.2⟩,fun hn=>?_⟩,(b2 x hx).2⟩⟩
  have e:ns.getD x.toNat ⟨#[]⟩=⟨#[]⟩:=by rw [List.getD_eq_getElem?_getD,List.getElem?_eq_none (by have:=hx.1;omega)];rfl
  have:=((b2 x hx).1 hlt).2.2
  simp only [e] at this
  exact this
 ·subst hk
  exact nm_blk (n:=(cs,ns,os,fs,ls,ks)) (k:=2) (m:=os.length) (el:=fun x=>os.getD x.toNat ⟨#[]⟩) rfl (by omega) (fun x _ _=>rfl) rfl
 ·subst hk
  exact nm_blk (n:=(cs,ns,os,fs,ls,ks)) (k:=3) (m:=fs.length) (el:=fun x=>(fs.getD x.toNat (⟨#[]⟩,0,0,0,0,0,[])).1) (map_length _ fs) (by omega) (fun x h0 h1=>nm_at _ h0 h1) rfl
 ·subst hk
  exact nm_blk (n:=(cs,ns,os,fs,ls,ks)) (k:=4) (m:=ls.length) (el:=fun x=>(ls.getD x.toNat (⟨#[]⟩,0,0,0,0,0)).1) (map_length _ ls) (by omega) (fun x h0 h1=>nm_at _ h0 h1) rfl
 ·subst hk
  exact nm_blk (n:=(cs,ns,os,fs,ls,ks)) (k:=5) (m:=ks.length) (el:=fun x=>(ks.getD x.toNat (⟨#[]⟩,0,0)).1) (map_length _ ks) (by omega) (fun x h0 h1=>nm_at _ h0 h1) rfl
 ·unfold namesF
  rw [if_neg h1,if_neg h2,if_neg h3,if_neg h4,if_neg h5]
theorem fewC_iff {n:Net}:fewC n=true↔fewLen n=true∧∀ o ∈ n.2.2.2.1,o.2.2.2.2.2.2.length≤30:=by
 unfold fewC
 rw [Bool.and_eq_true,List.all_eq_true]
 simp only [decide_eq_true_eq]
theorem getD_mem {α:Type} {l:List α} {i:Nat} {d:α} (h:i < l.length):l.getD i d ∈ l:=by
 rw [List.getD_eq_getElem?_getD,List.getElem?_eq_getElem h]
 exact List.getElem_mem h
theorem t_numbers (k i:Int) (cs:LC) (ns os:LB) (fs:List Off) (ls:List Line) (ks:List Cla):SoundC Tryz.prog G0 126 [net cs ns os fs ls ks,.dat I k,.dat I i] [] ⟨numP (cs,ns,os,fs,ls,ks) k i,.dat .bool (goodAt (cs,ns,os,fs,ls,ks) k i),[]⟩:=by
 refine sound_of_ev (c:=mkc K8) KS8 KI0s hm (vc_numbers k i cs ns os fs ls ks ⟨rfl,fun ⟨hp1,hp2,hp3,hp4,hp5⟩=>?_⟩)
 obtain ⟨q1,q2⟩:=fewC_iff.1 hp1
 simp only [cnd_and,D.and,Bool.true_and,true_and,and_true,imp_self,implies_true,D.nil,D.eq,D.ilen,D.ile,D.ilt,D.nat,D.get,beq_iff_eq,beq_eq_false_iff_ne]
 refine ⟨fun hk=>?_,fun h1=>⟨fun hk=>?_,fun h3=>⟨fun hk=>?_,fun h4=>⟨fun hk=>?_,fun h5=>?_⟩⟩⟩⟩
 ·subst hk
  have hi:i < (cs.length:Int):=by rw [show (namesF (cs,ns,os,fs,ls,ks) 1).length=cs.length from calNames_length cs ns] at hp5;exact hp5
  exact ⟨hp4,hi,(map_getD (fun c:Int×List Bool×List Int=>validF c.1 c.2.1 c.2.2) cs _ _ _ (by omega)).symm⟩
 ·subst hk
  have hi:i < (fs.length:Int):=by rw [show (namesF (cs,ns,os,fs,ls,ks) 3).length=fs.length from map_length _ fs] at hp5;exact hp5
  exact ⟨hp4,hi,⟨q1,q2 _ (getD_mem (by show i.toNat < fs.length;omega))⟩,(map_getD (goodOff (cs,ns,os,fs,ls,ks)) fs _ _ _ (by omega)).symm⟩
 ·subst hk
  have hi:i < (ls.length:Int):=by rw [show (namesF (cs,ns,os,fs,ls,ks) 4).length=ls.length from map_length _ ls] at hp5;exact hp5
  exact ⟨hp4,hi,q1,(map_getD (goodLin (cs,ns,os,fs,ls,ks)) ls _ _ _ (by omega)).symm⟩
 ·subst hk
  have hi:i < (ks.length:Int):=by rw [show (namesF (cs,ns,os,fs,ls,ks) 5).length=ks.length from map_length _ ks] at hp5;exact hp5
  exact ⟨hp4,hi,fun _=>hp4,fun _=>hi,(map_getD goodCla ks _ _ _ (by omega)).symm⟩
 ·have:k=2:=by omega
  subst this
  have hi:i < (os.length:Int):=hp5
  exact (map_getD (fun _:ByteArray=>true) os _ ⟨#[]⟩ _ (by omega)).symm
theorem take_eq_next {α:Type} {a b:List α} {k:Nat} {d:α} (h:a.take k=b.take k) (ha:k < a.length) (hb:k < b.length) (he:a.getD k d=b.getD k d):a.take (k + 1)=b.take (k + 1):=by
 rw [List.getD_eq_getElem?_getD,List.getD_eq_getElem?_getD,List.getElem?_eq_getElem ha,List.getElem?_eq_getElem hb] at he
 have he':a[k]=b[k]:=he
 rw [List.take_add_one,List.take_add_one,List.getElem?_eq_getElem ha,List.getElem?_eq_getElem hb,h,he']
theorem sameR_no {a b:List (List Int)} (h:a≠b):false=sameR a b:=by unfold sameR;exact (beq_eq_false_iff_ne.2 h).symm
theorem KS9:KSound Tryz.prog G0 K9 :=
 kOr_ok (dataK_ok fun ((cs,ns,os,fs,ls,ks),k,_)=>t_names k cs ns os fs ls ks) <| kOr_ok (dataK_ok fun ((cs,ns,os,fs,ls,ks),k,i,_)=>t_numbers k i cs ns os fs ls ks) <|
 KS8
theorem numP_len {n:Net} {k i:Int} (h:numP n k i):i < (namesF n k).length∧(namesF n k).length≤100:=by
 obtain ⟨h1,h2,h3,h4,h5⟩:=h
 obtain ⟨q,_⟩:=fewC_iff.1 h1
 obtain ⟨cs,ns,os,fs,ls,ks⟩:=n
 obtain ⟨l1,l2,l3,l4,l5,l6⟩:=few_lens cs ns os fs ls ks q
 refine ⟨h5,?_⟩
 have hc:k=1∨k=2∨k=3∨k=4∨k=5:=by omega
 rcases hc with rfl | rfl | rfl | rfl | rfl
 ·rw [show (namesF (cs,ns,os,fs,ls,ks) 1).length=cs.length from calNames_length cs ns];omega
 ·show os.length≤100;omega
 ·rw [show (namesF (cs,ns,os,fs,ls,ks) 3).length=fs.length from map_length _ fs];omega
 ·rw [show (namesF (cs,ns,os,fs,ls,ks) 4).length=ls.length from map_length _ ls];omega
 ·rw [show (namesF (cs,ns,os,fs,ls,ks) 5).length=ks.length from map_length _ ks];omega
theorem t_errno (k i:Int) (cs:LC) (ns os:LB) (fs:List Off) (ls:List Line) (ks:List Cla):SoundC Tryz.prog G0 96 [net cs ns os fs ls ks,.dat I k,.dat (.sl S) (namesF (cs,ns,os,fs,ls,ks) k),.dat I i] [] ⟨numP (cs,ns,os,fs,ls,ks) k i,.dat I (errF (namesF (cs,ns,os,fs,ls,ks) k) (goodsF (cs,ns,os,fs,ls,ks) k) i),[]⟩:=by
 refine sound_of_ev (c:=mkc K9) KS9 KI0s hm (vc_errno k i cs ns os fs ls ks ⟨rfl,fun hp=>?_⟩)
 obtain ⟨hi,hl⟩:=numP_len hp
 have h0:0≤i:=hp.2.2.2.1
 simp only [D.not,eq_self,true_and,and_true,Bool.not_eq_true',Bool.not_eq_false',exists_eq_right',D.nil,D.lt,D.ilen,D.ile,D.ilt,D.nlt,D.sub,D.add,D.nat,D.get,decide_eq_true_eq,decide_eq_false_iff_not,beq_iff_eq,beq_eq_false_iff_ne]
 refine ⟨h0,hi,fun hn=>?_,fun hn=>⟨twTo_zero h0,fun x hx=>⟨fun hlt=>⟨hx.1,by omega,h0,hi,fun he=>?_,fun hne=>⟨⟨by have:=hx.1;omega,by omega⟩,x + 1,twTo_next hx hlt hi hne,rfl,by have:=hx.1;omega⟩⟩,fun hge=>⟨hp,fun hg=>?_,fun hg=>?_⟩⟩⟩⟩
 ·have e:rule1 (namesF (cs,ns,os,fs,ls,ks) k) i=1:=if_neg (by unfold nmAt;rw [hn];decide)
  unfold errF;rw [if_pos (by rw [e];decide),e]
 ·have e:rule1 (namesF (cs,ns,os,fs,ls,ks) k) i=0:=if_pos hn
  have e2:=tw_is hx hlt hi he
  unfold errF;rw [if_neg (by rw [e];decide),if_pos (by rw [← e2];decide),e2]
 ·have e:rule1 (namesF (cs,ns,os,fs,ls,ks) k) i=0:=if_pos hn
  have e2:=twTo_end hx hge
  unfold errF;rw [if_neg (by rw [e];decide),if_neg (by rw [← e2];decide)]
  unfold rule3;rw [if_neg (by intro g;rw [show goodAt (cs,ns,os,fs,ls,ks) k i=_ from g] at hg;cases hg)]
 ·have e:rule1 (namesF (cs,ns,os,fs,ls,ks) k) i=0:=if_pos hn
  have e2:=twTo_end hx hge
  unfold errF;rw [if_neg (by rw [e];decide),if_neg (by rw [← e2];decide)]
  unfold goodAt at hg
  unfold rule3;rw [if_pos hg]
theorem few_no {n:Net} (h:fewF n=true→False):false=fewF n:=by
 cases e:fewF n with
 | false=>rfl
 | true=>exact (h e).elim
theorem fewF_iff {n:Net}:fewF n=true↔fewLen n=true∧(n.1.all fun c=>smallF c.2.1 c.2.2)=true∧(n.2.2.2.1.all fun o=>decide (o.2.2.2.2.2.2.length≤30))=true∧∀ j:Int,1≤j→j < 6→shortF (namesF n j)=true:=by
 unfold fewF
 simp only [Bool.and_eq_true,and_assoc]
 constructor
 ·rintro ⟨h1,h2,h3,h4,h5,h6,h7,h8⟩
  refine ⟨h1,h2,h3,fun j j1 j2=>?_⟩
  have hc:j=1∨j=2∨j=3∨j=4∨j=5:=by omega
  rcases hc with rfl | rfl | rfl | rfl | rfl <;> assumption
 ·rintro ⟨h1,h2,h3,h4⟩
  exact ⟨h1,h2,h3,h4 1 (by decide) (by decide),h4 2 (by decide) (by decide),h4 3 (by decide) (by decide),h4 4 (by decide) (by decide),h4 5 (by decide) (by decide)⟩
theorem t_few (cs:LC) (ns os:LB) (fs:List Off) (ls:List Line) (ks:List Cla):SoundC Tryz.prog G0 57 [net cs ns os fs ls ks] [] ⟨True,.dat .bool (fewF (cs,ns,os,fs,ls,ks)),[]⟩:=by
 refine sound_of_ev (c:=mkc K9) KS9 KI0s hm (vc_few cs ns os fs ls ks ⟨rfl,fun hp=>?_⟩)
 simp only [cnd_or,D.and,D.not,Bool.true_and,eq_self,true_and,and_true,imp_self,implies_true,Bool.not_eq_true',Bool.or_eq_true,Bool.or_eq_false_iff,Bool.not_eq_false',exists_eq_right',D.nil,D.lt,D.gt,D.le,D.ilen,D.slen,D.ile,D.ilt,D.nlt,D.sub,D.add,D.nat,D.get,decide_eq_true_eq,decide_eq_false_iff_not]
 refine ⟨fun h=>few_no fun g=>?_,fun h=>?_⟩
 ·obtain ⟨l1,l2,l3,l4,l5,l6⟩:=few_lens cs ns os fs ls ks (fewF_iff.1 g).1
  omega
 have hl:fewLen (cs,ns,os,fs,ls,ks)=true:=decide_eq_true (by show cs.length≤10∧ns.length≤10∧os.length≤10∧fs.length≤16∧ls.length≤50∧ks.length≤8;omega)
 refine ⟨⟨Int.le_refl _,Int.natCast_nonneg _,by simp⟩,fun x ⟨x0,x1,x2⟩=>⟨fun hlt=>⟨x0,hlt,fun hb=>few_no fun g=>?_,fun hg=>⟨⟨by omega,by omega⟩,x + 1,⟨by omega,by omega,?_⟩,rfl,by omega⟩⟩,fun hge=>?_⟩⟩
 ·have:=all_not (l:=cs) (p:=fun c=>smallF c.2.1 c.2.2) (d:=(0,[],[])) (k:=x.toNat) (by omega) hb
  rw [(fewF_iff.1 g).2.1] at this;cases this
 ·rw [show (x + 1).toNat=x.toNat + 1 by omega]
  exact allTo_next (d:=(0,[],[])) x2 (by omega) hg
 have hcs:(cs.all fun c=>smallF c.2.1 c.2.2)=true:=by rwa [List.take_of_length_le (by omega)] at x2
 refine ⟨⟨Int.le_refl _,Int.natCast_nonneg _,by simp⟩,fun z ⟨z0,z1,z2⟩=>⟨fun hlt=>⟨z0,hlt,fun hb=>few_no fun g=>?_,fun hg=>⟨⟨by omega,by omega⟩,z + 1,⟨by omega,by omega,?_⟩,rfl,by omega⟩⟩,fun hge=>?_⟩⟩
 ·have:=all_not (l:=fs) (p:=fun o=>decide (o.2.2.2.2.2.2.length≤30)) (d:=(⟨#[]⟩,0,0,0,0,0,[])) (k:=z.toNat) (by omega) (decide_eq_false (by omega))
  rw [(fewF_iff.1 g).2.2.1] at this;cases this
 ·rw [show (z + 1).toNat=z.toNat + 1 by omega]
  exact allTo_next (d:=(⟨#[]⟩,0,0,0,0,0,[])) z2 (by omega) (decide_eq_true (by omega))
 have hfs:(fs.all fun o=>decide (o.2.2.2.2.2.2.length≤30))=true:=by rwa [List.take_of_length_le (by omega)] at z2
 refine ⟨⟨Int.le_refl _,by decide,fun j h1 h2=>by omega⟩,fun k ⟨k0,k1,k2⟩=>⟨fun hk=>?_,fun hk=>?_⟩⟩
 ·have hlen:(namesF (cs,ns,os,fs,ls,ks) k).length≤100:=by
   by_cases hz:(namesF (cs,ns,os,fs,ls,ks) k).length=0
   ·omega
   ·exact (numP_len (n:=(cs,ns,os,fs,ls,ks)) (k:=k) (i:=0) ⟨by unfold fewC;rw [hl];exact hfs,k0,hk,Int.le_refl _,by omega⟩).2
  refine ⟨hl,⟨Int.le_refl _,Int.natCast_nonneg _,by simp [shortF]⟩,fun i ⟨i0,i1,i2⟩=>⟨fun hlt=>⟨i0,hlt,fun hb=>few_no fun g=>?_,fun hg=>⟨⟨by omega,by omega⟩,i + 1,⟨by omega,by omega,?_⟩,rfl,by omega⟩⟩,fun hge=>⟨⟨by omega,by omega⟩,k + 1,⟨by omega,by omega,fun j h1 h2=>?_⟩,rfl,by omega⟩⟩⟩
  ·have:=all_not (l:=namesF (cs,ns,os,fs,ls,ks) k) (p:=fun s=>decide (s.size≤40)) (d:=⟨#[]⟩) (k:=i.toNat) (by omega) (decide_eq_false (by omega))
   have h2:=(fewF_iff.1 g).2.2.2 k k0 (by omega)
   unfold shortF at h2
   rw [h2] at this;cases this
  ·rw [show (i + 1).toNat=i.toNat + 1 by omega]
   exact allTo_next (d:=⟨#[]⟩) i2 (by omega) (decide_eq_true (by omega))
  ·by_cases e:j=k
   ·subst e
    rwa [List.take_of_length_le (by omega)] at i2
   ·exact k2 j h1 (by omega)
 ·exact (fewF_iff.2 ⟨hl,hcs,hfs,fun j h1 h2=>k2 j h1 (by omega)⟩).symm
theorem KS10:KSound Tryz.prog G0 K10 :=
 kOr_ok (dataK_ok fun ((cs,ns,os,fs,ls,ks),k,l,i,_)=>SoundC.of_pre fun (h:numP (cs,ns,os,fs,ls,ks) k i∧l=namesF (cs,ns,os,fs,ls,ks) k)=>by obtain ⟨h,rfl⟩:=h;exact (t_errno k i cs ns os fs ls ks).weaken fun _=>h) <|
 kOr_ok (dataK_ok fun ((cs,ns,os,fs,ls,ks),_)=>t_few cs ns os fs ls ks) KS9
theorem limitF_le (k:Int):4≤limitF k∧limitF k≤40:=by unfold limitF;split <;> (try split) <;> (try split) <;> omega
theorem faultsTo_next {n:Net} {k:Int} (h:1≤k):faultsTo n (k + 1)=faultsTo n k ++ kindF k (limitF k) (namesF n k) (goodsF n k):=by
 unfold faultsTo
 rw [show (k + 1).toNat - 1=(k.toNat - 1) + 1 by omega,List.range_succ,List.flatMap_append,← List.append_assoc]
 congr 1
 simp only [List.flatMap_cons,List.flatMap_nil,List.append_nil]
 rw [show ((k.toNat - 1:Nat):Int) + 1=k by omega]
theorem faultsTo_len (n:Net):∀ (j:Nat),(faultsTo n (j + 1)).length≤1 + 41 * j
 | 0=>by
  have e:faultsTo n ((0:Nat) + 1)=headF n:=by unfold faultsTo;simp
  rw [e];unfold headF;split <;> simp
 | j + 1=>by
  have ih:=faultsTo_len n j
  have e:=faultsTo_next (n:=n) (k:=(j:Int) + 1) (by omega)
  have h1:=(limitF_le ((j:Int) + 1)).1
  have h2:=(limitF_le ((j:Int) + 1)).2
  have:=kindF_len ((j:Int) + 1) (limitF ((j:Int) + 1)) (namesF n ((j:Int) + 1)) (goodsF n ((j:Int) + 1)) (by omega)
  rw [show (((j + 1:Nat):Int) + 1)=(j:Int) + 1 + 1 by omega,e,List.length_append]
  omega
theorem faultsTo_len' {n:Net} {k:Int} (h1:1≤k) (h2:k≤6):(faultsTo n k).length≤250:=by
 have:=faultsTo_len n (k.toNat - 1)
 rw [show ((k.toNat - 1:Nat):Int) + 1=k by omega] at this
 omega
theorem rF_zero (n:Net) (k:Int):rFaultsTo n k 0=faultsTo n k:=by unfold rFaultsTo;rw [kindTo_zero,List.append_nil]
theorem rF_err {n:Net} {k i:Int} (h0:0≤i) (he:errF (namesF n k) (goodsF n k) i≠0):rFaultsTo n k (i + 1)=rFaultsTo n k i ++ [(k,i,errF (namesF n k) (goodsF n k) i)]:=by
 unfold rFaultsTo;rw [kindTo_err h0 he,List.append_assoc]
theorem rF_ok {n:Net} {k i:Int} (h0:0≤i) (he:errF (namesF n k) (goodsF n k) i=0):rFaultsTo n k (i + 1)=rFaultsTo n k i:=by
 unfold rFaultsTo;rw [kindTo_ok h0 he]
theorem rF_over {n:Net} {k i:Int} (h1:1≤k) (hi:i=min ((namesF n k).length:Int) (limitF k)) (h:((namesF n k).length:Int) > limitF k):rFaultsTo n k i ++ [(k,limitF k,2)]=faultsTo n (k + 1):=by
 rw [faultsTo_next h1]
 unfold rFaultsTo kindF overF
 rw [if_pos (by omega),← hi,List.append_assoc]
theorem rF_in {n:Net} {k i:Int} (h1:1≤k) (hi:i=min ((namesF n k).length:Int) (limitF k)) (h:¬ ((namesF n k).length:Int) > limitF k):rFaultsTo n k i=faultsTo n (k + 1):=by
 rw [faultsTo_next h1]
 unfold rFaultsTo kindF overF
 rw [if_neg (by omega),← hi,List.append_nil]
theorem rF_len {n:Net} {k i:Int} (h1:1≤k) (h2:k≤6) (h3:i≤limitF k):(rFaultsTo n k i).length≤300:=by
 have:=faultsTo_len' (n:=n) h1 h2
 have:=kindTo_len k (namesF n k) (goodsF n k) i
 have:=(limitF_le k).2
 unfold rFaultsTo
 rw [List.length_append]
 omega
theorem t_rfaults (cs:LC) (ns os:LB) (fs:List Off) (ls:List Line) (ks:List Cla):SoundC Tryz.prog G0 58 [net cs ns os fs ls ks] [] ⟨fewC (cs,ns,os,fs,ls,ks)=true,.buf 0 (D.len (faultsF (cs,ns,os,fs,ls,ks))),[(0,.buf 118 Fa (faultsF (cs,ns,os,fs,ls,ks)) [])]⟩:=by
 refine sound_of_ev (c:=mkc K10) KS10 KI0s hm (vc_rfaults cs ns os fs ls ks ⟨rfl,fun hp=>?_⟩)
 have hl:=(fewC_iff.1 hp).1
 have hd1:ns.length≠cs.length→faultsTo (cs,ns,os,fs,ls,ks) 1=[(1,-1,1)]:=fun h=>by
  have e:faultsTo (cs,ns,os,fs,ls,ks) 1=headF (cs,ns,os,fs,ls,ks) ++ []:=rfl
  rw [e,List.append_nil];exact if_neg h
 have hd0:ns.length=cs.length→faultsTo (cs,ns,os,fs,ls,ks) 1=[]:=fun h=>by
  have e:faultsTo (cs,ns,os,fs,ls,ks) 1=headF (cs,ns,os,fs,ls,ks) ++ []:=rfl
  rw [e,List.append_nil];exact if_pos h
 have fin:∀ (x:Int),kUp x→¬ x≤5→faultsTo (cs,ns,os,fs,ls,ks) x=faultsF (cs,ns,os,fs,ls,ks):=fun x hx h=>by
  have:x=6:=by have:=hx.2;omega
  subst this;rfl
 simp only [cnd_and,D.and,Bool.true_and,eq_self,true_and,and_true,imp_self,implies_true,Bool.and_eq_true,Bool.and_eq_false_imp,D.nil,D.ne,D.lt,D.gt,D.le,D.ilen,D.nle,D.nlt,D.sub,D.add,D.nat,D.len,D.nadd,D.nmul,D.app,decide_eq_true_eq,decide_eq_false_iff_not,bne_iff_ne,bne_eq_false_iff_eq]
 have body:∀ (x:Int),kUp x→(x≤5→fewLen (cs,ns,os,fs,ls,ks)=true∧(∃ z,nUp (cs,ns,os,fs,ls,ks) x z∧(faultsTo (cs,ns,os,fs,ls,ks) x).length=(rFaultsTo (cs,ns,os,fs,ls,ks) x z).length∧0=z∧faultsTo (cs,ns,os,fs,ls,ks) x=rFaultsTo (cs,ns,os,fs,ls,ks) x z) ∧
   ∀ (z:Int),nUp (cs,ns,os,fs,ls,ks) x z→(z < ((namesF (cs,ns,os,fs,ls,ks) x).length:Int)∧z < limitF x→numP (cs,ns,os,fs,ls,ks) x z ∧
     (errF (namesF (cs,ns,os,fs,ls,ks) x) (goodsF (cs,ns,os,fs,ls,ks) x) z≠0→((rFaultsTo (cs,ns,os,fs,ls,ks) x z).length + [(x,z,errF (namesF (cs,ns,os,fs,ls,ks) x) (goodsF (cs,ns,os,fs,ls,ks) x) z)].length) * 24≤140737488355328∧(rFaultsTo (cs,ns,os,fs,ls,ks) x z).length + [(x,z,errF (namesF (cs,ns,os,fs,ls,ks) x) (goodsF (cs,ns,os,fs,ls,ks) x) z)].length≤9223372036854775807 ∧
       inR IntKind.i64 (z + 1)∧∃ y,nUp (cs,ns,os,fs,ls,ks) x y∧((rFaultsTo (cs,ns,os,fs,ls,ks) x z).length + [(x,z,errF (namesF (cs,ns,os,fs,ls,ks) x) (goodsF (cs,ns,os,fs,ls,ks) x) z)].length=(rFaultsTo (cs,ns,os,fs,ls,ks) x y).length∧z + 1=y∧rFaultsTo (cs,ns,os,fs,ls,ks) x z ++ [(x,z,errF (namesF (cs,ns,os,fs,ls,ks) x) (goodsF (cs,ns,os,fs,ls,ks) x) z)]=rFaultsTo (cs,ns,os,fs,ls,ks) x y) ∧
        (((namesF (cs,ns,os,fs,ls,ks) x).length:Int) - y).toNat < (((namesF (cs,ns,os,fs,ls,ks) x).length:Int) - z).toNat) ∧
     (errF (namesF (cs,ns,os,fs,ls,ks) x) (goodsF (cs,ns,os,fs,ls,ks) x) z=0→inR IntKind.i64 (z + 1)∧∃ y,nUp (cs,ns,os,fs,ls,ks) x y∧((rFaultsTo (cs,ns,os,fs,ls,ks) x z).length=(rFaultsTo (cs,ns,os,fs,ls,ks) x y).length∧z + 1=y∧rFaultsTo (cs,ns,os,fs,ls,ks) x z=rFaultsTo (cs,ns,os,fs,ls,ks) x y)∧(((namesF (cs,ns,os,fs,ls,ks) x).length:Int) - y).toNat < (((namesF (cs,ns,os,fs,ls,ks) x).length:Int) - z).toNat)) ∧
    ((z < ((namesF (cs,ns,os,fs,ls,ks) x).length:Int)→¬z < limitF x) →
     (((namesF (cs,ns,os,fs,ls,ks) x).length:Int) > limitF x→((rFaultsTo (cs,ns,os,fs,ls,ks) x z).length + [(x,limitF x,(2:Int))].length) * 24≤140737488355328∧(rFaultsTo (cs,ns,os,fs,ls,ks) x z).length + [(x,limitF x,(2:Int))].length≤9223372036854775807 ∧
       inR IntKind.i64 (x + 1)∧∃ y,kUp y∧((rFaultsTo (cs,ns,os,fs,ls,ks) x z).length + [(x,limitF x,(2:Int))].length=(faultsTo (cs,ns,os,fs,ls,ks) y).length∧x + 1=y∧rFaultsTo (cs,ns,os,fs,ls,ks) x z ++ [(x,limitF x,2)]=faultsTo (cs,ns,os,fs,ls,ks) y)∧(6 - y).toNat < (6 - x).toNat) ∧
     (¬((namesF (cs,ns,os,fs,ls,ks) x).length:Int) > limitF x→inR IntKind.i64 (x + 1)∧∃ y,kUp y∧((rFaultsTo (cs,ns,os,fs,ls,ks) x z).length=(faultsTo (cs,ns,os,fs,ls,ks) y).length∧x + 1=y∧rFaultsTo (cs,ns,os,fs,ls,ks) x z=faultsTo (cs,ns,os,fs,ls,ks) y)∧(6 - y).toNat < (6 - x).toNat))) ∧
   (¬x≤5→(faultsTo (cs,ns,os,fs,ls,ks) x).length=(faultsF (cs,ns,os,fs,ls,ks)).length∧faultsTo (cs,ns,os,fs,ls,ks) x=faultsF (cs,ns,os,fs,ls,ks)):=by
  intro x hx
  have hlim:=limitF_le x
  refine ⟨fun hx5=>⟨hl,⟨0,⟨Int.le_refl _,Int.natCast_nonneg _,by omega⟩,by rw [rF_zero],rfl,(rF_zero _ _).symm⟩,fun z ⟨z0,z1,z2⟩=>⟨fun ⟨hz1,hz2⟩=>?_,fun hz=>?_⟩⟩,fun h=>⟨by rw [fin x hx h],fin x hx h⟩⟩
  ·have hlen:=rF_len (n:=(cs,ns,os,fs,ls,ks)) hx.1 hx.2 z2
   refine ⟨⟨hp,hx.1,hx5,z0,hz1⟩,fun he=>?_,fun he=>?_⟩
   ·have e:=rF_err z0 he
    exact ⟨by simp only [List.length_singleton];omega,by simp only [List.length_singleton];omega,⟨by omega,by omega⟩,z + 1,⟨by omega,by omega,by omega⟩,⟨by rw [e,List.length_append],rfl,e.symm⟩,by omega⟩
   ·have e:=rF_ok z0 he
    exact ⟨⟨by omega,by omega⟩,z + 1,⟨by omega,by omega,by omega⟩,⟨by rw [e],rfl,e.symm⟩,by omega⟩
  ·have hlen:=rF_len (n:=(cs,ns,os,fs,ls,ks)) hx.1 hx.2 z2
   have hmin:z=min ((namesF (cs,ns,os,fs,ls,ks) x).length:Int) (limitF x):=by
    by_cases g:z < ((namesF (cs,ns,os,fs,ls,ks) x).length:Int)
    ·have:=hz g;omega
    ·omega
   have hx1:=hx.1
   refine ⟨fun h=>?_,fun h=>?_⟩
   ·have e:=rF_over hx.1 hmin h
    exact ⟨by simp only [List.length_singleton];omega,by simp only [List.length_singleton];omega,⟨by omega,by omega⟩,x + 1,⟨by omega,by omega⟩,⟨by rw [← e,List.length_append],rfl,e⟩,by omega⟩
   ·have e:=rF_in hx.1 hmin h
    exact ⟨⟨by omega,by omega⟩,x + 1,⟨by omega,by omega⟩,⟨by rw [e],rfl,e⟩,by omega⟩
 refine ⟨fun hne=>⟨by decide,by decide,⟨1,⟨by decide,by decide⟩,?_,rfl,?_⟩,body⟩,fun he=>⟨⟨1,⟨by decide,by decide⟩,?_,?_,rfl,?_⟩,body⟩⟩
 ·rw [hd1 (by omega)]
 ·rw [hd1 (by omega)]
 ·rw [hd0 (by omega)];rfl
 ·rw [hd0 (by omega)]
 ·rw [hd0 (by omega)]
theorem KS11:KSound Tryz.prog G0 K11:=kOr_ok (freshK_ok fun ((cs,ns,os,fs,ls,ks),_)=>t_rfaults cs ns os fs ls ks) KS10
theorem t_consistent (cs:LC) (ns os:LB) (fs:List Off) (ls:List Line) (ks:List Cla):SoundC Tryz.prog G0 97 [net cs ns os fs ls ks] [] ⟨fewC (cs,ns,os,fs,ls,ks)=true,.dat .bool (noF (cs,ns,os,fs,ls,ks)),[]⟩:=by
 refine sound_of_ev (c:=mkc K11) KS11 KI0s hm (vc_consistent cs ns os fs ls ks ⟨rfl,fun hp=>?_⟩)
 simp only [eq_self,true_and,and_true,Int.ofNat_eq_natCast,D.eq,D.len]
 refine ⟨hp,?_⟩
 unfold noF
 cases faultsF (cs,ns,os,fs,ls,ks) with
 | nil=>rfl
 | cons a l=>simp;omega
theorem KS12:KSound Tryz.prog G0 K12:=kOr_ok (dataK_ok fun ((cs,ns,os,fs,ls,ks),_)=>t_consistent cs ns os fs ls ks) KS11
end Go.Eng.Sv
