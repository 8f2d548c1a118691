/- PeSv4j -/
import Derived.Test.YtlobbofhlcjlmaaGreatDoorZ22
import Derived.Test.YtlobbofhlcjlmaaGreatDoorSv3j
set_option linter.unusedSimpArgs false
set_option linter.unusedVariables false
set_option maxRecDepth 100000
noncomputable section
namespace Go.Eng.Sv
open Go.Proofs
def relP (a b:Int) (xs:List Int):Prop:=0≤a∧a < 12∧0≤b∧b < 12∧xs.length=144
def relaxD (xs:List Int) (a b len:Int):List Int:=relaxF xs a b len
def initD (k:Int):List Int:=(List.range 144).map fun i=>if i < k.toNat then (if i / 12=i % 12 then 0 else -1) else 0
def linesD (ls:List Line) (k:Int):List Int:=(ls.take k.toNat).foldl (fun xs l=>relaxF xs (lFrom l) (lTo l) (lTravel l)) initF
def fwD (ls:List Line) (o a b:Int):List Int:=fwN ls (o * 144 + a * 12 + b).toNat
def relaxedD (ls:List Line):List Int:=relaxedF ls
def noP (n:Net):Prop:=noF n=true
def dist2 (n:Net):List (List Int):=if noF n then distF n.2.2.2.1.length n.2.2.2.2.1 else []
def rowsD (m:Int) (ls:List Line) (k:Int):List (List Int):=(List.range m.toNat).map fun a=>if a < k.toNat then distRow m.toNat ls a else []
def reach1 (m:Nat) (ls:List Line) (b:Nat):Bool:=(List.range m).any fun a=>decide (cell (relaxedF ls) a b=-1)
def reachTo (m:Int) (ls:List Line) (k:Int):List (Int×Int×Int):=(List.range k.toNat).filterMap fun b:Nat=>if reach1 m.toNat ls b then some (3,(b:Int),111) else none
def checkF (n:Net):List (Int×Int×Int):=if noF n then reachTo n.2.2.2.1.length n.2.2.2.2.1 n.2.2.2.1.length else faultsF n
def missTo (m:Int) (ls:List Line) (b k:Int):Prop:=0≤k∧k≤m∧(List.range k.toNat).all (fun a=>decide (cell (relaxedF ls) a b.toNat≠-1))=true
def distTo (m:Int) (ls:List Line) (k:Int):List (List Int):=(List.range k.toNat).map (distRow m.toNat ls)
def negD (m k:Int):List Int:=(List.range m.toNat).map fun i=>if i < k.toNat then -1 else 0
def bfD (ls:List Line) (m a r i:Int):List Int:=(ls.take i.toNat).foldl bfStep (bfN ls m.toNat a.toNat r.toNat)
def cutTo (d:List (List Int)) (b k:Int):Bool:=(List.range k.toNat).any fun a=>decide ((d.getD a []).getD b.toNat 0 < 0)
def soundF (n:Net):Bool:=(checkF n).isEmpty
abbrev cx:List (Int×List Bool×List Int):=[(0,[true,true,true,true,true,false,false],[])]
abbrev nx:List ByteArray:=[⟨#[99]⟩]
abbrev ox:List ByteArray:=[⟨#[112]⟩,⟨#[113]⟩]
theorem vc_relax (a b len:Int) (xs:List Int) (hvc :
 let c1:=relaxD xs a b len;
 let c2:=D.at2 (D.at2 (0) (12) a) (1) b;
 let c3:=D.get xs c2 (0:Int);
 let c4:=D.eq c3 (-1:Int);
 let c5:=D.not c4;
 let c6:=D.cnd c4 true (D.lt len c3);true=true∧(relP a b xs→D.len xs=D.len c1∧D.len xs=144∧D.ile (0:Int) a∧D.ilt a (D.ofN (12))∧D.nle
 (D.at2 (0) (12) (D.ofN (12))) (144)∧D.len xs=144∧D.ile (0:Int) b∧D.ilt b (D.ofN (12))∧D.nle (D.at2 (D.at2 (0) (12) a) (1) (D.ofN (12))) (144) ∧
 D.len xs=144∧(c5=true→c5=true→c5=true)∧(c5=true→D.len xs=144)∧(c5=true→D.ile (0:Int) a)∧(c5=true→D.ilt a (D.ofN (12))) ∧
 (c5=true→D.nle (D.at2 (0) (12) (D.ofN (12))) (144))∧(c5=true→c5=true→c5=true)∧(c5=true→c5=true→c5=true)∧(c5=true→D.len xs =
 144)∧(c5=true→D.ile (0:Int) b)∧(c5=true→D.ilt b (D.ofN (12)))∧(c5=true→D.nle (D.at2 (D.at2 (0) (12) a) (1) (D.ofN (12))) (144))∧(c5 =
 true→c5=true→c5=true)∧(c5=true→D.len xs=144)∧(c5=true→c5=true→c5=true)∧(c5=true→c5=true→c5=true)∧(D.and true c5 =
 true→c5=true)∧(c6=true→D.len xs=144∧D.ile (0:Int) a∧D.ilt a (D.ofN (12))∧D.nle (D.at2 (0) (12) (D.ofN (12))) (144)∧D.len xs=144∧D.ile
 (0:Int) b∧D.ilt b (D.ofN (12))∧D.nle (D.at2 (D.at2 (0) (12) a) (1) (D.ofN (12))) (144)∧D.len xs=144∧D.set xs c2 len=c1∧D.len xs=D.len xs ∧
 True)∧(c6=false→xs=c1∧D.len xs=D.len xs∧True))) :
  evF (mkc K12) noAnn 121 [.dat I a,.dat I b,.dat I len,.ptr 1 144 0 0] [(1,.buf 137 I xs [])] ⟨relP a b xs,.tup [],[(1,.buf 137 I (relaxD xs a b len) [])]⟩:=@of_eq _ _ (by kernel_rfl) hvc
def kRelax (args:List AV) (m:Mem):Option CRes:=match args,m with
 | [.dat (.int .i64) a,.dat (.int .i64) b,.dat (.int .i64) len,.ptr 1 g 0 0],[(1,.buf el (.int .i64) xs [])]=>if g=144∧el=137 then some ⟨relP a b xs,.tup [],[(1,.buf 137 I (relaxD xs a b len) [])]⟩ else none
 | _,_=>none
def K13:Kt:=kOr 121 kRelax K12
def relaxedA (ls:List Line):Ann:=⟨fun id s=>match id with
 | 3=>some { α:=Int,inv:=fun k=>upN k 12,st:=fun k=>putM (put s [(12,.dat I k)]) 1 (.buf 137 I (initD (D.mul 12 k)) []),μ:=fun k=>D.nat (D.sub 12 k) }
 | 6=>match s.sig.T 12 with
  | .dat (.int .i64) a=>some { α:=Int,inv:=fun k=>upN k 12,st:=fun k=>putM (put s [(15,.dat I k)]) 1 (.buf 137 I (initD (D.add (D.mul 12 a) k)) []),μ:=fun k=>D.nat (D.sub 12 k) }
  | _=>none
 | 14=>some { α:=Int,inv:=fun k=>upN k (D.ilen ls),st:=fun k=>putM (put s [(31,.dat I k)]) 1 (.buf 137 I (linesD ls k) []),μ:=fun k=>D.nat (D.sub (D.ilen ls) k) }
 | 19=>some { α:=Int,inv:=fun k=>upN k 12,st:=fun k=>putM (put s [(44,.dat I k)]) 1 (.buf 137 I (fwD ls k 0 0) []),μ:=fun k=>D.nat (D.sub 12 k) }
 | 22=>match s.sig.T 44 with
  | .dat (.int .i64) o=>some { α:=Int,inv:=fun k=>upN k 12,st:=fun k=>putM (put s [(47,.dat I k)]) 1 (.buf 137 I (fwD ls o k 0) []),μ:=fun k=>D.nat (D.sub 12 k) }
  | _=>none
 | 25=>match s.sig.T 44,s.sig.T 47 with
  | .dat (.int .i64) o,.dat (.int .i64) a=>some { α:=Int,inv:=fun k=>upN k 12,st:=fun k=>putM (put s [(50,.dat I k)]) 1 (.buf 137 I (fwD ls o a k) []),μ:=fun k=>D.nat (D.sub 12 k) }
  | _,_=>none
 | _=>none,fun _ _=>none,fun _ _=>none⟩
set_option maxHeartbeats 4000000 in
theorem vc_relaxed (cs:LC) (ns os:LB) (fs:List Off) (ls:List Line) (ks:List Cla) (hvc :
 let c1:=(ls,ks);
 let c2:=(cs,ns,os,fs,c1);
 let c3:=D.reps (144) (0:Int);
 let c4:=D.ilen ls;
 let c5:=(ByteArray.mk (D.nil UInt8).toArray,(0:Int),(0:Int),(0:Int),(0:Int),(0:Int));true=true∧(noP c2→(∃ x,upN x (12:Int)∧cs=cs
 ∧ ns=ns∧os=os∧fs=fs∧ls=ls∧ks=ks∧c2=c2∧144=144∧0=0∧0=0∧144=144∧0=0∧0=0∧(0:Int)=x∧c3=c3∧c3=initD
 (D.mul (12:Int) x)∧True)∧∀ (x:Int),
 let c6:=D.lt x (12:Int);
 let c7:=D.mul (12:Int) x;
 let c8:=initD c7;
 let c9:=D.add x (1:Int);upN x (12:Int)→(c6=true→(∃ x_3,upN x_3 (12:Int)∧cs=cs∧ns=ns∧os=os∧fs=fs∧ls=ls∧ks=ks∧c2=c2 ∧
 144=144∧0=0∧0=0∧144=144∧0=0∧0=0∧x=x∧x=x∧c6=c6∧x=x∧(0:Int)=x_3∧c3=c3∧c8=initD (D.add c7 x_3)∧True)∧∀
 (x_3:Int),
 let c10:=D.lt x_3 (12:Int);
 let c11:=D.add x_3 (1:Int);upN x_3 (12:Int)→(c10=true→(D.ne x x_3=true→D.len (initD (D.add c7 x_3))=144∧D.ile (0:Int) x∧D.ilt x (D.ofN
 (12))∧D.nle (D.at2 (0) (12) (D.ofN (12))) (144)∧D.len (initD (D.add c7 x_3))=144∧D.ile (0:Int) x_3∧D.ilt x_3 (D.ofN (12))∧D.nle (D.at2 (D.at2 (0)
 (12) x) (1) (D.ofN (12))) (144)∧D.len (initD (D.add c7 x_3))=144∧inR IntKind.i64 c11∧∃ y,upN y (12:Int)∧(cs=cs∧ns=ns∧os=os∧fs=fs ∧
 ls=ls∧ks=ks∧c2=c2∧144=144∧0=0∧0=0∧144=144∧0=0∧0=0∧x=x∧x=x∧c6=c6∧x=x∧c11=y∧c3=c3∧D.set (initD (D.add
 c7 x_3)) (D.at2 (D.at2 (0) (12) x) (1) x_3) (-1:Int)=initD (D.add c7 y)∧True)∧D.nlt (D.nat (D.sub (12:Int) y)) (D.nat (D.sub (12:Int) x_3))) ∧
 (D.ne x x_3=false→inR IntKind.i64 c11∧∃ y,upN y (12:Int)∧(cs=cs∧ns=ns∧os=os∧fs=fs∧ls=ls∧ks=ks∧c2=c2∧144=144∧0=0 ∧
 0=0∧144=144∧0=0∧0=0∧x=x∧x=x∧c6=c6∧x=x∧c11=y∧c3=c3∧initD (D.add c7 x_3)=initD (D.add c7 y)∧True)∧D.nlt (D.nat
 (D.sub (12:Int) y)) (D.nat (D.sub (12:Int) x_3))))∧(c10=false→inR IntKind.i64 c9∧∃ y,upN y (12:Int)∧(cs=cs∧ns=ns∧os=os∧fs=fs ∧
 ls=ls∧ks=ks∧c2=c2∧144=144∧0=0∧0=0∧144=144∧0=0∧0=0∧c9=y∧c3=c3∧initD (D.add c7 x_3)=initD (D.mul (12:Int) y) ∧
 True)∧D.nlt (D.nat (D.sub (12:Int) y)) (D.nat (D.sub (12:Int) x))))∧(c6=false→(∃ x_3,upN x_3 c4∧cs=cs∧ns=ns∧os=os∧fs=fs∧ls=ls
 ∧ ks=ks∧c2=c2∧144=144∧0=0∧0=0∧144=144∧0=0∧0=0∧144=144∧0=0∧0=0∧x=x∧c6=c6∧144=144∧0=0∧0=0∧c1=c1
 ∧ ls=ls∧c4=c4∧(0:Int)=x_3∧c3=c3∧c8=linesD ls x_3∧True)∧∀ (x_3:Int),
 let c12:=(D.get ls (D.nat x_3) c5).snd;
 let c13:=c12.fst;
 let c14:=c12.snd;
 let c15:=c14.fst;
 let c16:=relaxD (linesD ls x_3) c13 c15 c14.snd.snd.fst;
 let c17:=D.add x_3 (1:Int);upN x_3 c4→(D.lt x_3 c4=true→D.ile (0:Int) x_3∧D.ilt x_3 c4∧1=1∧0=0∧1=1∧1=1∧0=0∧1=1∧1=1 ∧
 0=0∧1=1∧1=1∧0=0∧relP c13 c15 (linesD ls x_3)∧D.len (linesD ls x_3)=D.len c16∧inR IntKind.i64 c17∧∃ y,upN y c4∧(cs=cs∧ns=ns ∧
 os=os∧fs=fs∧ls=ls∧ks=ks∧c2=c2∧144=144∧0=0∧0=0∧144=144∧0=0∧0=0∧144=144∧0=0∧0=0∧x=x∧c6=c6∧144 =
 144∧0=0∧0=0∧c1=c1∧ls=ls∧c4=c4∧c17=y∧c3=c3∧c16=linesD ls y∧True)∧D.nlt (D.nat (D.sub c4 y)) (D.nat (D.sub c4 x_3)))∧(D.lt
 x_3 c4=false→(∃ x_6,upN x_6 (12:Int)∧cs=cs∧ns=ns∧os=os∧fs=fs∧ls=ls∧ks=ks∧c2=c2∧144=144∧0=0∧0=0∧144=144∧0 =
 0∧0=0∧144=144∧0=0∧0=0∧x=x∧c6=c6∧144=144∧0=0∧0=0∧c1=c1∧ls=ls∧c4=c4∧x_3=x_3∧D.lt x_3 c4=D.lt x_3 c4∧(0
 : Int)=x_6∧c3=c3∧linesD ls x_3=fwD ls x_6 (0:Int) (0:Int)∧True)∧∀ (x_6:Int),
 let c18:=D.lt x_6 (12:Int);
 let c19:=fwD ls x_6 (0:Int) (0:Int);
 let c20:=D.add x_6 (1:Int);upN x_6 (12:Int)→(c18=true→(∃ x_9,upN x_9 (12:Int)∧cs=cs∧ns=ns∧os=os∧fs=fs∧ls=ls∧ks=ks∧c2 =
 c2∧144=144∧0=0∧0=0∧144=144∧0=0∧0=0∧144=144∧0=0∧0=0∧x_6=x_6∧x=x∧c6=c6∧144=144∧0=0∧0=0∧c1=c1∧ls
 = ls∧c4=c4∧x_3=x_3∧D.lt x_3 c4=D.lt x_3 c4∧x_6=x_6∧c18=c18∧x_6=x_6∧(0:Int)=x_9∧c3=c3∧c19=fwD ls x_6 x_9 (0:Int)∧True)
 ∧ ∀ (x_9:Int),
 let c21:=D.lt x_9 (12:Int);
 let c22:=fwD ls x_6 x_9 (0:Int);
 let c23:=D.at2 (D.at2 (0) (12) x_9) (1) x_6;
 let c24:=D.add x_9 (1:Int);upN x_9 (12:Int)→(c21=true→(∃ x_12,upN x_12 (12:Int)∧cs=cs∧ns=ns∧os=os∧fs=fs∧ls=ls∧ks=ks∧c2
 = c2∧144=144∧0=0∧0=0∧144=144∧0=0∧0=0∧144=144∧0=0∧0=0∧x_6=x_6∧x_9=x_9∧x=x∧c6=c6∧144=144∧0=0∧0=0
 ∧ c1=c1∧ls=ls∧c4=c4∧x_3=x_3∧D.lt x_3 c4=D.lt x_3 c4∧x_6=x_6∧c18=c18∧x_6=x_6∧x_9=x_9∧c21=c21∧x_9=x_9∧(0:Int) =
 x_12∧c3=c3∧c22=fwD ls x_6 x_9 x_12∧True)∧∀ (x_12:Int),
 let c25:=D.lt x_12 (12:Int);
 let c26:=fwD ls x_6 x_9 x_12;
 let c27:=D.len c26;
 let c28:=D.get c26 c23 (0:Int);
 let c29:=D.ne c28 (-1:Int);
 let c30:=D.get c26 (D.at2 (D.at2 (0) (12) x_6) (1) x_12) (0:Int);
 let c31:=D.cnd c29 (D.ne c30 (-1:Int)) false;
 let c32:=D.add c28 c30;
 let c33:=relaxD c26 x_9 x_12 c32;
 let c34:=D.add x_12 (1:Int);upN x_12 (12:Int)→(c25=true→c27=144∧D.ile (0:Int) x_9∧D.ilt x_9 (D.ofN (12))∧D.nle (D.at2 (0) (12) (D.ofN
 (12))) (144)∧c27=144∧D.ile (0:Int) x_6∧D.ilt x_6 (D.ofN (12))∧D.nle (D.at2 (D.at2 (0) (12) x_9) (1) (D.ofN (12))) (144)∧c27=144∧(c29=true →
 c29=true→c29=true)∧(c29=true→c27=144)∧(c29=true→D.ile (0:Int) x_6)∧(c29=true→D.ilt x_6 (D.ofN (12)))∧(c29=true→D.nle (D.at2
 (0) (12) (D.ofN (12))) (144))∧(c29=true→c29=true→c29=true)∧(c29=true→c29=true→c29=true)∧(c29=true→c27=144)∧(c29=true →
 D.ile (0:Int) x_12)∧(c29=true→D.ilt x_12 (D.ofN (12)))∧(c29=true→D.nle (D.at2 (D.at2 (0) (12) x_6) (1) (D.ofN (12))) (144))∧(c29=true→c29 =
 true→c29=true)∧(c29=true→c27=144)∧(c29=true→c29=true→c29=true)∧(D.and true c29=true→c29=true)∧(c31=true→c27=144∧D.ile
 (0:Int) x_9∧D.ilt x_9 (D.ofN (12))∧D.nle (D.at2 (0) (12) (D.ofN (12))) (144)∧c27=144∧D.ile (0:Int) x_6∧D.ilt x_6 (D.ofN (12))∧D.nle (D.at2
 (D.at2 (0) (12) x_9) (1) (D.ofN (12))) (144)∧c27=144∧c27=144∧D.ile (0:Int) x_6∧D.ilt x_6 (D.ofN (12))∧D.nle (D.at2 (0) (12) (D.ofN (12))) (144)
 ∧ c27=144∧D.ile (0:Int) x_12∧D.ilt x_12 (D.ofN (12))∧D.nle (D.at2 (D.at2 (0) (12) x_6) (1) (D.ofN (12))) (144)∧c27=144∧inR IntKind.i64 c32 ∧
 relP x_9 x_12 c26∧c27=D.len c33∧inR IntKind.i64 c34∧∃ y,upN y (12:Int)∧(cs=cs∧ns=ns∧os=os∧fs=fs∧ls=ls∧ks=ks∧c2=c2∧144
 = 144∧0=0∧0=0∧144=144∧0=0∧0=0∧144=144∧0=0∧0=0∧x_6=x_6∧x_9=x_9∧x=x∧c6=c6∧144=144∧0=0∧0=0∧c1=c1 ∧
 ls=ls∧c4=c4∧x_3=x_3∧D.lt x_3 c4=D.lt x_3 c4∧x_6=x_6∧c18=c18∧x_6=x_6∧x_9=x_9∧c21=c21∧x_9=x_9∧c34=y∧c3=c3∧c33 =
 fwD ls x_6 x_9 y∧True)∧D.nlt (D.nat (D.sub (12:Int) y)) (D.nat (D.sub (12:Int) x_12)))∧(c31=false→inR IntKind.i64 c34∧∃ y,upN y (12:Int) ∧
 (cs=cs∧ns=ns∧os=os∧fs=fs∧ls=ls∧ks=ks∧c2=c2∧144=144∧0=0∧0=0∧144=144∧0=0∧0=0∧144=144∧0=0∧0=0∧x_6
 = x_6∧x_9=x_9∧x=x∧c6=c6∧144=144∧0=0∧0=0∧c1=c1∧ls=ls∧c4=c4∧x_3=x_3∧D.lt x_3 c4=D.lt x_3 c4∧x_6=x_6∧c18=c18 ∧
 x_6=x_6∧x_9=x_9∧c21=c21∧x_9=x_9∧c34=y∧c3=c3∧c26=fwD ls x_6 x_9 y∧True)∧D.nlt (D.nat (D.sub (12:Int) y)) (D.nat (D.sub (12 :
 Int) x_12))))∧(c25=false→inR IntKind.i64 c24∧∃ y,upN y (12:Int)∧(cs=cs∧ns=ns∧os=os∧fs=fs∧ls=ls∧ks=ks∧c2=c2∧144=144 ∧
 0=0∧0=0∧144=144∧0=0∧0=0∧144=144∧0=0∧0=0∧x_6=x_6∧x=x∧c6=c6∧144=144∧0=0∧0=0∧c1=c1∧ls=ls∧c4=c4 ∧
 x_3=x_3∧D.lt x_3 c4=D.lt x_3 c4∧x_6=x_6∧c18=c18∧x_6=x_6∧c24=y∧c3=c3∧c26=fwD ls x_6 y (0:Int)∧True)∧D.nlt (D.nat (D.sub (12
 : Int) y)) (D.nat (D.sub (12:Int) x_9))))∧(c21=false→inR IntKind.i64 c20∧∃ y,upN y (12:Int)∧(cs=cs∧ns=ns∧os=os∧fs=fs∧ls=ls ∧
 ks=ks∧c2=c2∧144=144∧0=0∧0=0∧144=144∧0=0∧0=0∧144=144∧0=0∧0=0∧x=x∧c6=c6∧144=144∧0=0∧0=0∧c1=c1 ∧
 ls=ls∧c4=c4∧x_3=x_3∧D.lt x_3 c4=D.lt x_3 c4∧c20=y∧c3=c3∧c22=fwD ls y (0:Int) (0:Int)∧True)∧D.nlt (D.nat (D.sub (12:Int) y))
 (D.nat (D.sub (12:Int) x_6))))∧(c18=false→D.len c19=144∧0=0∧D.len c19=144∧D.len c3=144∧0=0∧D.len c3=144∧D.len c19=144∧D.len
 c19=144∧0=0∧D.len c19=144∧c19=relaxedD ls∧True))))) :
  evF (mkc K13) (relaxedA ls) 82 [net cs ns os fs ls ks] [] ⟨noP (cs,ns,os,fs,ls,ks),.av I (relaxedD ls),[]⟩:=@of_eq _ _ (by kernel_rfl) hvc
def K14:Kt:=kOr 82 (dataK [.row N] (fun (n,_)=>noP n) fun (n,_)=>.av I (relaxedD n.2.2.2.2.1)) K13
def checkNA (fs:List Off) (ls:List Line):Ann:=⟨fun id s=>match id with
 | 6=>some { α:=Int,inv:=fun k=>upN k (D.ilen fs),st:=fun k=>putM (put s [(18,.dat I k),(3,.buf 0 (D.len (reachTo (D.ilen fs) ls k)))]) 0 (.buf 118 Fa (reachTo (D.ilen fs) ls k) []),μ:=fun k=>D.nat (D.sub (D.ilen fs) k) }
 | 9=>match s.sig.T 18 with
  | .dat (.int .i64) b=>some { α:=Int,inv:=fun k=>missTo (D.ilen fs) ls b k,st:=fun k=>put s [(24,.dat I k),(3,.buf 0 (D.len (reachTo (D.ilen fs) ls b)))],μ:=fun k=>D.nat (D.sub (D.ilen fs) k) }
  | _=>none
 | _=>none,fun _ _=>none,fun _ _=>none⟩
theorem vc_check (cs:LC) (ns os:LB) (fs:List Off) (ls:List Line) (ks:List Cla) (hvc :
 let c1:=(fs,ls,ks);
 let c2:=(cs,ns,os,c1);
 let c3:=faultsF c2;
 let c4:=D.len c3;
 let c5:=Int.ofNat c4;
 let c6:=D.gt c5 (0:Int);
 let c7:=checkF c2;
 let c8:=D.ilen fs;true=true∧(True→True∧c4=c4∧(c6=true→c4=c4∧c3=c7∧True)∧(c6=false→noP c2∧D.len (D.reps (144) (0:Int))=144
 ∧ 0=0∧D.len (D.reps (144) (0:Int))=144∧D.len (relaxedD ls)=144∧(∃ x,upN x c8∧cs=cs∧ns=ns∧os=os∧fs=fs∧ls=ls∧ks=ks∧c2 =
 c2∧Value.slice none (0) (0)=Value.slice none (0) (0)∧c4=D.len (reachTo c8 ls x)∧144=144∧0=0∧0=0∧cs=cs∧ns=ns∧os=os∧fs=fs ∧
 ls=ls∧ks=ks∧c4=c4∧c4=c4∧c5=c5∧c6=c6∧cs=cs∧ns=ns∧os=os∧fs=fs∧ls=ls∧ks=ks∧relaxedD ls=relaxedD ls∧c1=c1 ∧
 fs=fs∧c8=c8∧(0:Int)=x∧c3=reachTo c8 ls x∧relaxedD ls=relaxedD ls∧True)∧∀ (x:Int),
 let c9:=D.len (reachTo c8 ls x);
 let c10:=[((3:Int),x,(111:Int))];
 let c11:=D.nadd c9 (D.len c10);
 let c12:=D.add x (1:Int);upN x c8→(D.lt x c8=true→(∃ x_3,missTo c8 ls x x_3∧cs=cs∧ns=ns∧os=os∧fs=fs∧ls=ls∧ks=ks∧c2=c2 ∧
 Value.slice none (0) (0)=Value.slice none (0) (0)∧c9=c9∧144=144∧0=0∧0=0∧x=x∧cs=cs∧ns=ns∧os=os∧fs=fs∧ls=ls∧ks=ks ∧
 c4=c4∧c4=c4∧c5=c5∧c6=c6∧cs=cs∧ns=ns∧os=os∧fs=fs∧ls=ls∧ks=ks∧relaxedD ls=relaxedD ls∧c1=c1∧fs=fs∧c8=c8∧x
 = x∧D.lt x c8=D.lt x c8∧x=x∧c1=c1∧fs=fs∧c8=c8∧(0:Int)=x_3∧reachTo c8 ls x=reachTo c8 ls x∧relaxedD ls=relaxedD ls∧True)∧∀
 (x_3:Int),
 let c13:=D.eq (D.get (relaxedD ls) (D.at2 (D.at2 (0) (12) x_3) (1) x) (0:Int)) (-1:Int);
 let c14:=D.add x_3 (1:Int);missTo c8 ls x x_3→(D.lt x_3 c8=true→D.len (relaxedD ls)=144∧D.ile (0:Int) x_3∧D.ilt x_3 (D.ofN (12))∧D.nle
 (D.at2 (0) (12) (D.ofN (12))) (144)∧D.len (relaxedD ls)=144∧D.ile (0:Int) x∧D.ilt x (D.ofN (12))∧D.nle (D.at2 (D.at2 (0) (12) x_3) (1) (D.ofN
 (12))) (144)∧D.len (relaxedD ls)=144∧(c13=true→c9=c9∧D.nle (D.nmul c11 (24)) (140737488355328)∧D.nle c11 (9223372036854775807)∧inR
 IntKind.i64 c12∧∃ y,upN y c8∧(cs=cs∧ns=ns∧os=os∧fs=fs∧ls=ls∧ks=ks∧c2=c2∧Value.slice none (0) (0)=Value.slice none (0) (0) ∧
 c11=D.len (reachTo c8 ls y)∧144=144∧0=0∧0=0∧cs=cs∧ns=ns∧os=os∧fs=fs∧ls=ls∧ks=ks∧c4=c4∧c4=c4∧c5=c5∧c6=c6 ∧
 cs=cs∧ns=ns∧os=os∧fs=fs∧ls=ls∧ks=ks∧relaxedD ls=relaxedD ls∧c1=c1∧fs=fs∧c8=c8∧c12=y∧D.app (reachTo c8 ls x) c10 =
 reachTo c8 ls y∧relaxedD ls=relaxedD ls∧True)∧D.nlt (D.nat (D.sub c8 y)) (D.nat (D.sub c8 x)))∧(c13=false→inR IntKind.i64 c14∧∃ y,missTo c8 ls
 x y∧(cs=cs∧ns=ns∧os=os∧fs=fs∧ls=ls∧ks=ks∧c2=c2∧Value.slice none (0) (0)=Value.slice none (0) (0)∧c9=c9∧144=144∧0=0
 ∧ 0=0∧x=x∧cs=cs∧ns=ns∧os=os∧fs=fs∧ls=ls∧ks=ks∧c4=c4∧c4=c4∧c5=c5∧c6=c6∧cs=cs∧ns=ns∧os=os∧fs=fs ∧
 ls=ls∧ks=ks∧relaxedD ls=relaxedD ls∧c1=c1∧fs=fs∧c8=c8∧x=x∧D.lt x c8=D.lt x c8∧x=x∧c1=c1∧fs=fs∧c8=c8∧c14=y ∧
 reachTo c8 ls x=reachTo c8 ls x∧relaxedD ls=relaxedD ls∧True)∧D.nlt (D.nat (D.sub c8 y)) (D.nat (D.sub c8 x_3))))∧(D.lt x_3 c8=false→inR
 IntKind.i64 c12∧∃ y,upN y c8∧(cs=cs∧ns=ns∧os=os∧fs=fs∧ls=ls∧ks=ks∧c2=c2∧Value.slice none (0) (0)=Value.slice none (0) (0) ∧
 c9=D.len (reachTo c8 ls y)∧144=144∧0=0∧0=0∧cs=cs∧ns=ns∧os=os∧fs=fs∧ls=ls∧ks=ks∧c4=c4∧c4=c4∧c5=c5∧c6=c6 ∧
 cs=cs∧ns=ns∧os=os∧fs=fs∧ls=ls∧ks=ks∧relaxedD ls=relaxedD ls∧c1=c1∧fs=fs∧c8=c8∧c12=y∧reachTo c8 ls x=reachTo c8 ls
 y∧relaxedD ls=relaxedD ls∧True)∧D.nlt (D.nat (D.sub c8 y)) (D.nat (D.sub c8 x))))∧(D.lt x c8=false→c9=c9∧reachTo c8 ls x=c7∧True)))) :
  evF (mkc K14) (checkNA fs ls) 50 [net cs ns os fs ls ks] [] ⟨True,.dat (.sl Fa) (checkF (cs,ns,os,fs,ls,ks)),[]⟩:=@of_eq _ _ (by kernel_rfl) hvc
def rDistA (fs:List Off) (ls:List Line):Ann:=⟨fun id s=>match id with
 | 5=>some { α:=Int,inv:=fun k=>upN k (D.ilen fs),st:=fun k=>putM (put s [(4,.dat I k),(3,.buf 100 (D.len (distTo (D.ilen fs) ls k)))]) 100 (.buf 30 R (distTo (D.ilen fs) ls k) []),μ:=fun k=>D.nat (D.sub (D.ilen fs) k) }
 | 9=>some { α:=Int,inv:=fun k=>upN k (D.ilen fs),st:=fun k=>putM (put s [(6,.dat I k)]) 0 (.buf 3 I (negD (D.ilen fs) k) []),μ:=fun k=>D.nat (D.sub (D.ilen fs) k) }
 | 14=>match s.sig.T 4 with
  | .dat (.int .i64) a=>some { α:=Int,inv:=fun k=>upN k (D.ilen fs),st:=fun k=>putM (put s [(7,.dat I k)]) 0 (.buf 3 I (bfD ls (D.ilen fs) a k 0) []),μ:=fun k=>D.nat (D.sub (D.ilen fs) k) }
  | _=>none
 | 17=>match s.sig.T 4,s.sig.T 7 with
  | .dat (.int .i64) a,.dat (.int .i64) r=>some { α:=Int,inv:=fun k=>upN k (D.ilen ls),st:=fun k=>putM (put s [(8,.dat I k)]) 0 (.buf 3 I (bfD ls (D.ilen fs) a r k) []),μ:=fun k=>D.nat (D.sub (D.ilen ls) k) }
  | _,_=>none
 | _=>none,fun id s=>match id with
 | 22=>some (put (frz [0] s) [(35,.top)])
 | _=>none,fun _ _=>none⟩
set_option maxHeartbeats 4000000 in
theorem vc_rdist (cs:LC) (ns os:LB) (fs:List Off) (ls:List Line) (ks:List Cla) (hvc :
 let c1:=(fs,ls,ks);
 let c2:=(cs,ns,os,c1);
 let c3:=noF c2;
 let c4:=D.not c3;
 let c5:=dist2 c2;
 let c6:=D.ilen fs;
 let c7:=D.nat c6;
 let c8:=Int.ofNat c7;
 let c9:=D.ilen ls;
 let c10:=(ByteArray.mk (D.nil UInt8).toArray,(0:Int),(0:Int),(0:Int),(0:Int),(0:Int));true=true∧(fewC c2=true→fewC c2=true∧(c4 =
 true→c5=D.nil (List Int)∧True)∧(c4=false→(∃ x,upN x c6∧cs=cs∧ns=ns∧os=os∧fs=fs∧ls=ls∧ks=ks∧c2=c2∧Value.slice none
 (0) (0)=Value.slice none (0) (0)∧D.len (distTo c6 ls x)=0∧distTo c6 ls x=D.nil (List Int)∧(0:Int)=x∧cs=cs∧ns=ns∧os=os∧fs=fs ∧
 ls=ls∧ks=ks∧c3=c3∧c4=c4∧distTo c6 ls x=D.nil (List Int)∧True)∧∀ (x:Int),
 let c11:=D.len (distTo c6 ls x);
 let c12:=D.add x (1:Int);upN x c6→(D.lt x c6=true→D.ile (0:Int) c6∧D.ile (D.mul (D.ofN (8)) c6) (281474976710656:Int)∧D.ile c6
 (9223372036854775807:Int)∧(∃ x_3,upN x_3 c6∧cs=cs∧ns=ns∧os=os∧fs=fs∧ls=ls∧ks=ks∧c2=c2∧Value.slice none (0) (0)=Value.slice
 none (0) (0)∧c11=c11∧x=x∧c7=c7∧(0:Int)=x_3∧cs=cs∧ns=ns∧os=os∧fs=fs∧ls=ls∧ks=ks∧c3=c3∧c4=c4∧x=x∧c1=c1
 ∧ fs=fs∧c6=c6∧D.lt x c6=D.lt x c6∧c1=c1∧fs=fs∧c6=c6∧c7=c7∧distTo c6 ls x=distTo c6 ls x∧D.rep c6 (0:Int)=negD c6 x_3 ∧
 True)∧∀ (x_3:Int),
 let c13:=D.len (negD c6 x_3);
 let c14:=D.ofN c13;
 let c15:=D.add x_3 (1:Int);upN x_3 c6→c13=c7∧(D.lt x_3 c8=true→c13=c7∧D.ile (0:Int) x_3∧D.ilt x_3 c14∧c13=c7∧inR IntKind.i64 c15 ∧
 ∃ y,upN y c6∧(cs=cs∧ns=ns∧os=os∧fs=fs∧ls=ls∧ks=ks∧c2=c2∧Value.slice none (0) (0)=Value.slice none (0) (0)∧c11=c11∧x=x
 ∧ c7=c7∧c15=y∧cs=cs∧ns=ns∧os=os∧fs=fs∧ls=ls∧ks=ks∧c3=c3∧c4=c4∧x=x∧c1=c1∧fs=fs∧c6=c6∧D.lt x c6=D.lt x
 c6∧c1=c1∧fs=fs∧c6=c6∧c7=c7∧distTo c6 ls x=distTo c6 ls x∧D.set (negD c6 x_3) (D.nat x_3) (-1:Int)=negD c6 y∧True)∧D.nlt (D.nat
 (D.sub c6 y)) (D.nat (D.sub c6 x_3)))∧(D.lt x_3 c8=false→c13=c7∧D.ile (0:Int) x∧D.ilt x c14∧c13=c7∧(∃ x_6,upN x_6 c6∧cs=cs∧ns=ns ∧
 os=os∧fs=fs∧ls=ls∧ks=ks∧c2=c2∧Value.slice none (0) (0)=Value.slice none (0) (0)∧c11=c11∧x=x∧c7=c7∧x_3=x_3∧(0:Int) =
 x_6∧cs=cs∧ns=ns∧os=os∧fs=fs∧ls=ls∧ks=ks∧c3=c3∧c4=c4∧x=x∧c1=c1∧fs=fs∧c6=c6∧D.lt x c6=D.lt x c6∧c1=c1 ∧
 fs=fs∧c6=c6∧c7=c7∧x_3=x_3∧c7=c7∧c8=c8∧D.lt x_3 c8=D.lt x_3 c8∧c7=c7∧x=x∧c7=c7∧D.nat x=D.nat x∧0=0∧distTo c6 ls
 x=distTo c6 ls x∧D.set (negD c6 x_3) (D.nat x) (0:Int)=bfD ls c6 x x_6 (0:Int)∧True)∧∀ (x_6:Int),
 let c16:=bfD ls c6 x x_6 (0:Int);
 let c17:=D.add x_6 (1:Int);
 let c18:=[c16];
 let c19:=D.nadd c11 (D.len c18);upN x_6 c6→D.len c16=c7∧(D.lt x_6 c8=true→(∃ x_9,upN x_9 c9∧cs=cs∧ns=ns∧os=os∧fs=fs∧ls=ls∧ks
 = ks∧c2=c2∧Value.slice none (0) (0)=Value.slice none (0) (0)∧c11=c11∧x=x∧c7=c7∧x_3=x_3∧x_6=x_6∧(0:Int)=x_9∧cs=cs∧ns =
 ns∧os=os∧fs=fs∧ls=ls∧ks=ks∧c3=c3∧c4=c4∧x=x∧c1=c1∧fs=fs∧c6=c6∧D.lt x c6=D.lt x c6∧c1=c1∧fs=fs∧c6=c6∧c7
 = c7∧x_3=x_3∧c7=c7∧c8=c8∧D.lt x_3 c8=D.lt x_3 c8∧c7=c7∧x=x∧c7=c7∧D.nat x=D.nat x∧0=0∧x_6=x_6∧c7=c7∧c8=c8∧D.lt
 x_6 c8=D.lt x_6 c8∧distTo c6 ls x=distTo c6 ls x∧c16=bfD ls c6 x x_6 x_9∧True)∧∀ (x_9:Int),
 let c20:=bfD ls c6 x x_6 x_9;
 let c21:=D.len c20;
 let c22:=(D.get ls (D.nat x_9) c10).snd;
 let c23:=c22.fst;
 let c24:=D.ofN c21;
 let c25:=D.get c20 (D.nat c23) (0:Int);
 let c26:=D.ge c25 (0:Int);
 let c27:=c22.snd;
 let c28:=c27.fst;
 let c29:=D.nat c28;
 let c30:=D.get c20 c29 (0:Int);
 let c31:=D.lt c30 (0:Int);
 let c32:=D.add c25 c27.snd.snd.fst;
 let c33:=D.cnd c26 (D.cnd c31 true (D.gt c30 c32)) false;
 let c34:=D.add x_9 (1:Int);upN x_9 c9→(D.lt x_9 c9=true→D.ile (0:Int) x_9∧D.ilt x_9 c9∧1=1∧0=0∧1=1∧1=1∧0=0∧c21=c7∧D.ile
 (0:Int) c23∧D.ilt c23 c24∧c21=c7∧(c26=true→1=1)∧(c26=true→c26=true→c26=true)∧(c26=true→1=1)∧(c26=true→0=0)∧(c26 =
 true→c26=true→c26=true)∧(c26=true→c26=true→c26=true)∧(c26=true→c21=c7)∧(c26=true→D.ile (0:Int) c28)∧(c26=true→D.ilt
 c28 c24)∧(c26=true→c26=true→c26=true)∧(c26=true→c21=c7)∧(c26=true→c26=true→c26=true)∧(c26=true→c26=true→c26=true) ∧
 (D.and c26 (D.not c31)=true→1=1)∧(D.and c26 (D.not c31)=true→D.and c26 (D.not c31)=true→D.and c26 (D.not c31)=true)∧(D.and c26 (D.not c31)
 = true→1=1)∧(D.and c26 (D.not c31)=true→0=0)∧(D.and c26 (D.not c31)=true→D.and c26 (D.not c31)=true→D.and c26 (D.not c31)=true) ∧
 (D.and c26 (D.not c31)=true→D.and c26 (D.not c31)=true→D.and c26 (D.not c31)=true)∧(D.and c26 (D.not c31)=true→c21=c7)∧(D.and c26 (D.not
 c31)=true→D.ile (0:Int) c28)∧(D.and c26 (D.not c31)=true→D.ilt c28 c24)∧(D.and c26 (D.not c31)=true→D.and c26 (D.not c31)=true→D.and c26
 (D.not c31)=true)∧(D.and c26 (D.not c31)=true→c21=c7)∧(D.and c26 (D.not c31)=true→1=1)∧(D.and c26 (D.not c31)=true→D.and c26 (D.not
 c31)=true→D.and c26 (D.not c31)=true)∧(D.and c26 (D.not c31)=true→1=1)∧(D.and c26 (D.not c31)=true→0=0)∧(D.and c26 (D.not c31)=true →
 D.and c26 (D.not c31)=true→D.and c26 (D.not c31)=true)∧(D.and c26 (D.not c31)=true→D.and c26 (D.not c31)=true→D.and c26 (D.not c31)=true) ∧
 (D.and c26 (D.not c31)=true→c21=c7)∧(D.and c26 (D.not c31)=true→D.ile (0:Int) c23)∧(D.and c26 (D.not c31)=true→D.ilt c23 c24)∧(D.and c26
 (D.not c31)=true→D.and c26 (D.not c31)=true→D.and c26 (D.not c31)=true)∧(D.and c26 (D.not c31)=true→c21=c7)∧(D.and c26 (D.not c31)=true →
 1=1)∧(D.and c26 (D.not c31)=true→D.and c26 (D.not c31)=true→D.and c26 (D.not c31)=true)∧(D.and c26 (D.not c31)=true→1=1)∧(D.and c26
 (D.not c31)=true→0=0)∧(D.and c26 (D.not c31)=true→D.and c26 (D.not c31)=true→D.and c26 (D.not c31)=true)∧(D.and c26 (D.not c31)=true →
 D.and c26 (D.not c31)=true→D.and c26 (D.not c31)=true)∧(D.and c26 (D.not c31)=true→inR IntKind.i64 c32)∧(D.and c26 (D.not c31)=true→D.and c26
 (D.not c31)=true→D.and c26 (D.not c31)=true)∧(D.and c26 (D.not c31)=true→D.and c26 (D.not c31)=true→D.and c26 (D.not c31)=true)∧(c26=true
 → c26=true→c26=true)∧(c26=true→D.and c26 (D.not c31)=true→D.and c26 (D.not c31)=true)∧(D.and true c26=true→c26=true)∧(c33=true →
 1=1∧1=1∧0=0∧1=1∧1=1∧0=0∧c21=c7∧D.ile (0:Int) c23∧D.ilt c23 c24∧c21=c7∧1=1∧1=1∧0=0∧inR IntKind.i64 c32∧c21 =
 c7∧D.ile (0:Int) c28∧D.ilt c28 c24∧c21=c7∧inR IntKind.i64 c34∧∃ y,upN y c9∧(cs=cs∧ns=ns∧os=os∧fs=fs∧ls=ls∧ks=ks∧c2 =
 c2∧Value.slice none (0) (0)=Value.slice none (0) (0)∧c11=c11∧x=x∧c7=c7∧x_3=x_3∧x_6=x_6∧c34=y∧cs=cs∧ns=ns∧os=os∧fs =
 fs∧ls=ls∧ks=ks∧c3=c3∧c4=c4∧x=x∧c1=c1∧fs=fs∧c6=c6∧D.lt x c6=D.lt x c6∧c1=c1∧fs=fs∧c6=c6∧c7=c7∧x_3=x_3 ∧
 c7=c7∧c8=c8∧D.lt x_3 c8=D.lt x_3 c8∧c7=c7∧x=x∧c7=c7∧D.nat x=D.nat x∧0=0∧x_6=x_6∧c7=c7∧c8=c8∧D.lt x_6 c8=D.lt x_6
 c8∧distTo c6 ls x=distTo c6 ls x∧D.set c20 c29 c32=bfD ls c6 x x_6 y∧True)∧D.nlt (D.nat (D.sub c9 y)) (D.nat (D.sub c9 x_9)))∧(c33=false→inR
 IntKind.i64 c34∧∃ y,upN y c9∧(cs=cs∧ns=ns∧os=os∧fs=fs∧ls=ls∧ks=ks∧c2=c2∧Value.slice none (0) (0)=Value.slice none (0) (0) ∧
 c11=c11∧x=x∧c7=c7∧x_3=x_3∧x_6=x_6∧c34=y∧cs=cs∧ns=ns∧os=os∧fs=fs∧ls=ls∧ks=ks∧c3=c3∧c4=c4∧x=x∧c1=c1
 ∧ fs=fs∧c6=c6∧D.lt x c6=D.lt x c6∧c1=c1∧fs=fs∧c6=c6∧c7=c7∧x_3=x_3∧c7=c7∧c8=c8∧D.lt x_3 c8=D.lt x_3 c8∧c7=c7∧x =
 x∧c7=c7∧D.nat x=D.nat x∧0=0∧x_6=x_6∧c7=c7∧c8=c8∧D.lt x_6 c8=D.lt x_6 c8∧distTo c6 ls x=distTo c6 ls x∧c20=bfD ls c6 x x_6 y
 ∧ True)∧D.nlt (D.nat (D.sub c9 y)) (D.nat (D.sub c9 x_9))))∧(D.lt x_9 c9=false→inR IntKind.i64 c17∧∃ y,upN y c6∧(cs=cs∧ns=ns∧os=os∧fs
 = fs∧ls=ls∧ks=ks∧c2=c2∧Value.slice none (0) (0)=Value.slice none (0) (0)∧c11=c11∧x=x∧c7=c7∧x_3=x_3∧c17=y∧cs=cs∧ns =
 ns∧os=os∧fs=fs∧ls=ls∧ks=ks∧c3=c3∧c4=c4∧x=x∧c1=c1∧fs=fs∧c6=c6∧D.lt x c6=D.lt x c6∧c1=c1∧fs=fs∧c6=c6∧c7
 = c7∧x_3=x_3∧c7=c7∧c8=c8∧D.lt x_3 c8=D.lt x_3 c8∧c7=c7∧x=x∧c7=c7∧D.nat x=D.nat x∧0=0∧distTo c6 ls x=distTo c6 ls x ∧
 c20=bfD ls c6 x y (0:Int)∧True)∧D.nlt (D.nat (D.sub c6 y)) (D.nat (D.sub c6 x_6))))∧(D.lt x_6 c8=false→cs=cs∧ns=ns∧os=os∧fs=fs∧ls
 = ls∧ks=ks∧c2=c2∧Value.slice none (0) (0)=Value.slice none (0) (0)∧c11=c11∧x=x∧D.len c16=c7∧c16=c16∧x_3=x_3∧x_6=x_6∧cs =
 cs∧ns=ns∧os=os∧fs=fs∧ls=ls∧ks=ks∧c3=c3∧c4=c4∧x=x∧c1=c1∧fs=fs∧c6=c6∧D.lt x c6=D.lt x c6∧c1=c1∧fs=fs∧c6
 = c6∧D.len c16=c7∧c16=c16∧x_3=x_3∧D.len c16=c7∧c16=c16∧c8=c8∧D.lt x_3 c8=D.lt x_3 c8∧D.len c16=c7∧c16=c16∧x=x∧x_6 =
 x_6∧D.len c16=c7∧c16=c16∧c8=c8∧D.lt x_6 c8=D.lt x_6 c8∧distTo c6 ls x=distTo c6 ls x∧c11=c11∧D.nle (D.nmul c19 (24))
 (140737488355328)∧D.nle c19 (9223372036854775807)∧inR IntKind.i64 c12∧∃ y,upN y c6∧(cs=cs∧ns=ns∧os=os∧fs=fs∧ls=ls∧ks=ks∧c2 =
 c2∧Value.slice none (0) (0)=Value.slice none (0) (0)∧c19=D.len (distTo c6 ls y)∧c12=y∧cs=cs∧ns=ns∧os=os∧fs=fs∧ls=ls∧ks=ks ∧
 c3=c3∧c4=c4∧D.app (distTo c6 ls x) c18=distTo c6 ls y∧True)∧D.nlt (D.nat (D.sub c6 y)) (D.nat (D.sub c6 x)))))∧(D.lt x c6=false→c11=c11 ∧
 distTo c6 ls x=c5∧True)))) :
  evF (mkc K14) (rDistA fs ls) 59 [net cs ns os fs ls ks] [] ⟨fewC (cs,ns,os,fs,ls,ks)=true,.dat M (dist2 (cs,ns,os,fs,ls,ks)),[]⟩:=@of_eq _ _ (by kernel_rfl) hvc
def K15:Kt:=kOr 50 (dataK [.row N] (fun _=>True) fun (n,_)=>.dat (.sl Fa) (checkF n)) <|
 kOr 59 (dataK [.row N] (fun (n,_)=>fewC n=true) fun (n,_)=>.dat M (dist2 n)) <|
 K14
def rCheckA (fs:List Off) (ls:List Line) (d:List (List Int)):Ann:=⟨fun id s=>match id with
 | 6=>some { α:=Int,inv:=fun k=>upN k (D.ilen fs),st:=fun k=>putM (put s [(5,.dat I k),(3,.buf 0 (D.len (reachTo (D.ilen fs) ls k)))]) 0 (.buf 118 Fa (reachTo (D.ilen fs) ls k) []),μ:=fun k=>D.nat (D.sub (D.ilen fs) k) }
 | 10=>match s.sig.T 5 with
  | .dat (.int .i64) b=>some { α:=Int,inv:=fun k=>upN k (D.ilen fs),st:=fun k=>put s [(7,.dat I k),(6,.dat .bool (cutTo d b k))],μ:=fun k=>D.nat (D.sub (D.ilen fs) k) }
  | _=>none
 | _=>none,fun _ _=>none,fun _ _=>none⟩
theorem vc_rcheck (cs:LC) (ns os:LB) (fs:List Off) (ls:List Line) (ks:List Cla) (hvc :
 let c1:=(cs,ns,os,fs,ls,ks);
 let c2:=faultsF c1;
 let c3:=D.len c2;
 let c4:=Int.ofNat c3;
 let c5:=D.gt c4 (0:Int);
 let c6:=checkF c1;
 let c7:=D.ilen fs;
 let c8:=dist2 c1;
 let c9:=D.ilen c8;true=true∧(fewC c1=true→fewC c1=true∧c3=c3∧(c5=true→c3=c3∧c2=c6∧True)∧(c5=false→fewC c1=true∧(∃ x,
 upN x c7∧cs=cs∧ns=ns∧os=os∧fs=fs∧ls=ls∧ks=ks∧c1=c1∧Value.slice none (0) (0)=Value.slice none (0) (0)∧c3=D.len (reachTo c7
 ls x)∧c8=c8∧(0:Int)=x∧cs=cs∧ns=ns∧os=os∧fs=fs∧ls=ls∧ks=ks∧c3=c3∧c3=c3∧c4=c4∧c5=c5∧cs=cs∧ns=ns∧os =
 os∧fs=fs∧ls=ls∧ks=ks∧c8=c8∧c2=reachTo c7 ls x∧True)∧∀ (x:Int),
 let c10:=D.len (reachTo c7 ls x);
 let c11:=[((3:Int),x,(111:Int))];
 let c12:=D.nadd c10 (D.len c11);
 let c13:=D.add x (1:Int);upN x c7→(D.lt x c9=true→(∃ x_3,upN x_3 c7∧cs=cs∧ns=ns∧os=os∧fs=fs∧ls=ls∧ks=ks∧c1=c1 ∧
 Value.slice none (0) (0)=Value.slice none (0) (0)∧c10=c10∧c8=c8∧x=x∧false=cutTo c8 x x_3∧(0:Int)=x_3∧cs=cs∧ns=ns∧os=os∧fs
 = fs∧ls=ls∧ks=ks∧c3=c3∧c3=c3∧c4=c4∧c5=c5∧cs=cs∧ns=ns∧os=os∧fs=fs∧ls=ls∧ks=ks∧c8=c8∧x=x∧c8=c8∧c9 =
 c9∧D.lt x c9=D.lt x c9∧reachTo c7 ls x=reachTo c7 ls x∧True)∧∀ (x_3:Int),
 let c14:=D.not (cutTo c8 x x_3);
 let c15:=D.get c8 (D.nat x_3) (D.nil Int);
 let c16:=D.add x_3 (1:Int);upN x_3 c7→(D.lt x_3 c9=true→(c14=true→c14=true→c14=true)∧(c14=true→c14=true→c14=true)∧(c14=true
 → D.ile (0:Int) x_3)∧(c14=true→D.ilt x_3 c9)∧(c14=true→c14=true→c14=true)∧(c14=true→c14=true→c14=true)∧(c14=true→c14 =
 true→c14=true)∧(c14=true→D.ile (0:Int) x)∧(c14=true→D.ilt x (D.ilen c15))∧(c14=true→c14=true→c14=true)∧(c14=true→c14=true
 → c14=true)∧(D.and true c14=true→c14=true)∧inR IntKind.i64 c16∧∃ y,upN y c7∧(cs=cs∧ns=ns∧os=os∧fs=fs∧ls=ls∧ks=ks∧c1 =
 c1∧Value.slice none (0) (0)=Value.slice none (0) (0)∧c10=c10∧c8=c8∧x=x∧D.cnd (cutTo c8 x x_3) true (D.lt (D.get c15 (D.nat x) (0:Int)) (0 :
 Int))=cutTo c8 x y∧c16=y∧cs=cs∧ns=ns∧os=os∧fs=fs∧ls=ls∧ks=ks∧c3=c3∧c3=c3∧c4=c4∧c5=c5∧cs=cs∧ns=ns∧os =
 os∧fs=fs∧ls=ls∧ks=ks∧c8=c8∧x=x∧c8=c8∧c9=c9∧D.lt x c9=D.lt x c9∧reachTo c7 ls x=reachTo c7 ls x∧True)∧D.nlt (D.nat
 (D.sub c7 y)) (D.nat (D.sub c7 x_3)))∧(D.lt x_3 c9=false→(cutTo c8 x x_3=true→c10=c10∧D.nle (D.nmul c12 (24)) (140737488355328)∧D.nle c12
 (9223372036854775807)∧inR IntKind.i64 c13∧∃ y,upN y c7∧(cs=cs∧ns=ns∧os=os∧fs=fs∧ls=ls∧ks=ks∧c1=c1∧Value.slice none (0) (0) =
 Value.slice none (0) (0)∧c12=D.len (reachTo c7 ls y)∧c8=c8∧c13=y∧cs=cs∧ns=ns∧os=os∧fs=fs∧ls=ls∧ks=ks∧c3=c3∧c3=c3 ∧
 c4=c4∧c5=c5∧cs=cs∧ns=ns∧os=os∧fs=fs∧ls=ls∧ks=ks∧c8=c8∧D.app (reachTo c7 ls x) c11=reachTo c7 ls y∧True)∧D.nlt (D.nat
 (D.sub c7 y)) (D.nat (D.sub c7 x)))∧(cutTo c8 x x_3=false→inR IntKind.i64 c13∧∃ y,upN y c7∧(cs=cs∧ns=ns∧os=os∧fs=fs∧ls=ls∧ks =
 ks∧c1=c1∧Value.slice none (0) (0)=Value.slice none (0) (0)∧c10=D.len (reachTo c7 ls y)∧c8=c8∧c13=y∧cs=cs∧ns=ns∧os=os∧fs=fs
 ∧ ls=ls∧ks=ks∧c3=c3∧c3=c3∧c4=c4∧c5=c5∧cs=cs∧ns=ns∧os=os∧fs=fs∧ls=ls∧ks=ks∧c8=c8∧reachTo c7 ls x=reachTo
 c7 ls y∧True)∧D.nlt (D.nat (D.sub c7 y)) (D.nat (D.sub c7 x)))))∧(D.lt x c9=false→c10=c10∧reachTo c7 ls x=c6∧True)))) :
  evF (mkc K15) (rCheckA fs ls (dist2 (cs,ns,os,fs,ls,ks))) 21 [net cs ns os fs ls ks] [] ⟨fewC (cs,ns,os,fs,ls,ks)=true,.dat (.sl Fa) (checkF (cs,ns,os,fs,ls,ks)),[]⟩:=@of_eq _ _ (by kernel_rfl) hvc
def K16:Kt:=kOr 21 (dataK [.row N] (fun (n,_)=>fewC n=true) fun (n,_)=>.dat (.sl Fa) (checkF n)) K15
theorem noF_iff {n:Net}:noF n=true↔faultsF n=[]:=by unfold noF;rw [List.isEmpty_iff]
theorem kindF_nil {kind lim:Int} {l:List ByteArray} {g:List Bool} (h0:0≤lim) (h:kindF kind lim l g=[]):(l.length:Int)≤lim∧∀ i:Int,0≤i→i < l.length→errF l g i=0:=by
 unfold kindF at h
 obtain ⟨h1,h2⟩:=List.append_eq_nil_iff.1 h
 have hl:(l.length:Int)≤lim:=by
  unfold overF at h2
  split at h2
  ·cases h2
  ·omega
 refine ⟨hl,fun i i0 i1=>?_⟩
 unfold kindTo at h1
 rw [List.filterMap_eq_nil_iff] at h1
 have:=h1 i.toNat (List.mem_range.2 (by omega))
 rw [Int.toNat_of_nonneg i0] at this
 split at this
 ·assumption
 ·cases this
theorem errF_zero {l:List ByteArray} {g:List Bool} {i:Int} (h:errF l g i=0):rule1 l i=0∧rule2 l i=0∧rule3 g i=0:=by
 unfold errF at h
 by_cases h1:rule1 l i=0
 ·rw [if_neg (by simp [h1])] at h
  by_cases h2:rule2 l i=0
  ·rw [if_neg (by simp [h2])] at h;exact ⟨h1,h2,h⟩
  ·rw [if_pos h2] at h;exact (h2 h).elim
 ·rw [if_pos h1] at h;exact (h1 h).elim
theorem rule3_zero {g:List Bool} {i:Int} (h:rule3 g i=0):g.getD i.toNat false=true:=by
 unfold rule3 at h
 cases hg:g.getD i.toNat false with
 | true=>rfl
 | false=>rw [hg] at h;cases h
theorem no_parts (cs:LC) (ns os:LB) (fs:List Off) (ls:List Line) (ks:List Cla) (h:noF (cs,ns,os,fs,ls,ks)=true):ns.length=cs.length∧kindF 1 6 (calNames cs ns) (calGoods cs)=[]∧kindF 2 6 os (opGoods os)=[]∧kindF 3 12 (offNames fs) (offGoods (cs,ns,os,fs,ls,ks))=[]∧kindF 4 40 (linNames ls) (linGoods (cs,ns,os,fs,ls,ks))=[]∧kindF 5 4 (claNames ks) (claGoods ks)=[]:=by
 have:=noF_iff.1 h
 rw [faultsF_eq] at this
 simp only [List.append_eq_nil_iff] at this
 obtain ⟨h0,h1,h2,h3,h4,h5⟩:=this
 refine ⟨?_,h1,h2,h3,h4,h5⟩
 unfold headF at h0
 split at h0
 ·assumption
 ·cases h0
theorem goodLin_spec {n:Net} {l:Line} (h:goodLin n l=true):0≤lFrom l∧lFrom l < n.2.2.2.1.length∧0≤lTo l∧lTo l < n.2.2.2.1.length∧lFrom l≠lTo l∧(0≤lAt l∧lAt l≤1439)∧1≤lTravel l∧lTravel l≤5000:=by
 unfold goodLin idxF fromF at h
 simp only [Bool.and_eq_true,decide_eq_true_eq] at h
 obtain ⟨⟨⟨⟨⟨h1,h2⟩,h3⟩,h4⟩,h5⟩,h6⟩:=h
 exact ⟨h1.1,h1.2,h2.1,h2.2,h3,h4,h5.1,h5.2⟩
theorem lines_ok (cs:LC) (ns os:LB) (fs:List Off) (ls:List Line) (ks:List Cla) (h:noF (cs,ns,os,fs,ls,ks)=true):LinesOk fs.length ls∧ls.length≤40:=by
 obtain ⟨_,_,_,h3,h4,_⟩:=no_parts cs ns os fs ls ks h
 obtain ⟨l3,e3⟩:=kindF_nil (by decide) h3
 obtain ⟨l4,e4⟩:=kindF_nil (by decide) h4
 have n3:(offNames fs).length=fs.length:=map_length _ fs
 have n4:(linNames ls).length=ls.length:=map_length _ ls
 refine ⟨⟨by omega,fun l hl=>?_⟩,by omega⟩
 obtain ⟨i,hi⟩:=List.mem_iff_getElem?.1 hl
 have hlt:i < ls.length:=(List.getElem?_eq_some_iff.1 hi).1
 have:=rule3_zero (errF_zero (e4 i (by omega) (by omega))).2.2
 rw [show (linGoods (cs,ns,os,fs,ls,ks))=ls.map (goodLin (cs,ns,os,fs,ls,ks)) from rfl,map_getD (goodLin (cs,ns,os,fs,ls,ks)) ls (i:Int).toNat l false (by omega),List.getD_eq_getElem?_getD,show (i:Int).toNat=i by omega,hi] at this
 obtain ⟨g1,g2,g3,g4,g5,_,g6,g7⟩:=goodLin_spec this
 exact ⟨g1,g2,g3,g4,g5,g6,g7⟩
theorem relaxD_length (xs:List Int) (a b len:Int):(relaxD xs a b len).length=xs.length:=relaxF_length xs a b len
theorem relaxD_set {xs:List Int} {a b len:Int} (h:xs.getD (a.toNat * 12 + b.toNat) 0=-1∨len < xs.getD (a.toNat * 12 + b.toNat) 0):xs.set (a.toNat * 12 + b.toNat) len=relaxD xs a b len:=by
 unfold relaxD relaxF cell
 rw [show (decide (xs.getD (a.toNat * 12 + b.toNat) 0=-1) || decide (len < xs.getD (a.toNat * 12 + b.toNat) 0))=true by simpa using h];rfl
theorem relaxD_not {xs:List Int} {a b len:Int} (h1:xs.getD (a.toNat * 12 + b.toNat) 0≠-1) (h2:¬ len < xs.getD (a.toNat * 12 + b.toNat) 0):xs=relaxD xs a b len:=by
 unfold relaxD relaxF cell
 rw [show (decide (xs.getD (a.toNat * 12 + b.toNat) 0=-1) || decide (len < xs.getD (a.toNat * 12 + b.toNat) 0))=false by rw [Bool.or_eq_false_iff];exact ⟨decide_eq_false h1,decide_eq_false h2⟩];rfl
theorem t_relax (a b len:Int) (xs:List Int):SoundC Tryz.prog G0 121 [.dat I a,.dat I b,.dat I len,.ptr 1 144 0 0] [(1,.buf 137 I xs [])] ⟨relP a b xs,.tup [],[(1,.buf 137 I (relaxD xs a b len) [])]⟩:=by
 refine sound_of_ev (c:=mkc K12) KS12 KI0s hm (vc_relax a b len xs ⟨rfl,fun ⟨a0,a1,b0,b1,hl⟩=>?_⟩)
 have e:=relaxD_length xs a b len
 simp only [cnd_or,D.and,D.not,Bool.true_and,eq_self,true_and,and_true,imp_self,implies_true,Bool.not_eq_true',Bool.or_eq_true,Bool.or_eq_false_iff,Int.toNat_natCast,Nat.zero_add,Nat.mul_one,D.eq,D.lt,D.ile,D.ilt,D.nle,D.ofN,D.len,D.get,D.set,D.at2,decide_eq_true_eq,decide_eq_false_iff_not,beq_iff_eq,beq_eq_false_iff_ne]
 and_intros
 all_goals try (intros;omega)
 ·intro h
  and_intros
  all_goals try omega
  exact relaxD_set h
 ·rintro ⟨h1,h2⟩
  exact relaxD_not h1 h2
theorem kRelax_ok:∀ args m c,kRelax args m=some c→SoundC Tryz.prog G0 121 args m c:=by
 intro args m c h
 unfold kRelax at h
 split at h
 ·split at h
  ·rename_i e
   obtain ⟨rfl,rfl⟩:=e
   cases h
   exact t_relax _ _ _ _
  ·cases h
 ·cases h
theorem KS13:KSound Tryz.prog G0 K13:=kOr_ok kRelax_ok KS12
theorem initD_length (k:Int):(initD k).length=144:=by unfold initD;rw [List.length_map,List.length_range]
theorem initD_zero:List.replicate 144 0=initD 0:=by
 unfold initD
 apply List.ext_getElem?
 intro i
 rw [List.getElem?_replicate,List.getElem?_map]
 by_cases h:i < 144
 ·rw [if_pos h,List.getElem?_range h];simp
 ·rw [if_neg h,List.getElem?_eq_none (by rw [List.length_range];omega)];rfl
theorem initD_set {x y:Int} (hx:0≤x) (hx1:x < 12) (hy:0≤y) (hy1:y < 12) (hne:x≠y):(initD (12 * x + y)).set (x.toNat * 12 + y.toNat) (-1)=initD (12 * x + (y + 1)):=by
 apply List.ext_getElem?
 intro i
 rw [List.getElem?_set,initD_length]
 unfold initD
 rw [List.getElem?_map,List.getElem?_map]
 by_cases h:i < 144
 ·rw [List.getElem?_range h]
  simp only [Option.map_some]
  by_cases e:x.toNat * 12 + y.toNat=i
  ·subst e
   rw [if_pos rfl,if_pos h,if_pos (by omega),if_neg (by omega)]
  ·rw [if_neg e]
   congr 1
   by_cases g:i < (12 * x + y).toNat
   ·have g':i < (12 * x + (y + 1)).toNat:=by omega
    rw [if_pos g,if_pos g']
   ·have g':¬ i < (12 * x + (y + 1)).toNat:=by omega
    rw [if_neg g,if_neg g']
 ·rw [if_neg (by omega),List.getElem?_eq_none (by rw [List.length_range];omega)];rfl
theorem initD_skip {x:Int} (hx:0≤x) (hx1:x < 12):initD (12 * x + x)=initD (12 * x + (x + 1)):=by
 unfold initD
 apply List.map_congr_left
 intro i hi
 have:=List.mem_range.1 hi
 by_cases g:i < (12 * x + x).toNat
 ·have g':i < (12 * x + (x + 1)).toNat:=by omega
  rw [if_pos g,if_pos g']
 ·rw [if_neg g]
  split
  ·rw [if_pos (by omega)]
  ·rfl
theorem initD_end (ls:List Line):initD (12 * 12)=linesD ls 0:=by
 unfold linesD initD initF
 rw [show (Int.toNat 0)=0 from rfl,List.take_zero,List.foldl_nil]
 apply List.map_congr_left
 intro i hi
 rw [if_pos (by have:=List.mem_range.1 hi;omega)]
theorem linesD_length (ls:List Line) (k:Int):(linesD ls k).length=144:=linesF_length _
theorem linesD_next {ls:List Line} {k:Int} (h0:0≤k) (h1:k < ls.length) (d:Line):relaxD (linesD ls k) (ls.getD k.toNat d).2.1 (ls.getD k.toNat d).2.2.1 (ls.getD k.toNat d).2.2.2.2.1=linesD ls (k + 1):=by
 unfold linesD
 rw [show (k + 1).toNat=k.toNat + 1 by omega,List.take_add_one,List.getD_eq_getElem?_getD,List.getElem?_eq_getElem (show k.toNat < ls.length by omega),List.foldl_append]
 rfl
theorem linesD_end (ls:List Line) {k:Int} (h:¬ k < ls.length):linesD ls k=fwD ls 0 0 0:=by
 unfold linesD
 rw [List.take_of_length_le (by omega)];rfl
theorem fwD_length (ls:List Line) (o a b:Int):(fwD ls o a b).length=144:=fwN_length ls _
theorem fwD_row {ls:List Line} {o a:Int}:fwD ls o a 12=fwD ls o (a + 1) 0:=by
 unfold fwD;congr 2;omega
theorem fwD_all {ls:List Line} {o:Int}:fwD ls o 12 0=fwD ls (o + 1) 0 0:=by
 unfold fwD;congr 2;omega
theorem fwD_step {ls:List Line} {o a b:Int} (o0:0≤o) (o1:o < 12) (a0:0≤a) (a1:a < 12) (b0:0≤b) (b1:b < 12):fwD ls o a (b + 1)=stepF (fwD ls o a b) (o.toNat * 144 + a.toNat * 12 + b.toNat):=by
 unfold fwD
 rw [show (o * 144 + a * 12 + (b + 1)).toNat=(o.toNat * 144 + a.toNat * 12 + b.toNat) + 1 by omega,show (o * 144 + a * 12 + b).toNat=o.toNat * 144 + a.toNat * 12 + b.toNat by omega,fwN_succ]
theorem fwD_yes {ls:List Line} {o a b:Int} (o0:0≤o) (o1:o < 12) (a0:0≤a) (a1:a < 12) (b0:0≤b) (b1:b < 12)
  (h1:(fwD ls o a b).getD (a.toNat * 12 + o.toNat) 0≠-1) (h2:(fwD ls o a b).getD (o.toNat * 12 + b.toNat) 0≠-1) :
  relaxD (fwD ls o a b) a b ((fwD ls o a b).getD (a.toNat * 12 + o.toNat) 0 + (fwD ls o a b).getD (o.toNat * 12 + b.toNat) 0)=fwD ls o a (b + 1):=by
 rw [fwD_step o0 o1 a0 a1 b0 b1]
 unfold stepF
 rw [show (o.toNat * 144 + a.toNat * 12 + b.toNat) / 12 % 12=a.toNat by omega,show (o.toNat * 144 + a.toNat * 12 + b.toNat) / 144=o.toNat by omega,show (o.toNat * 144 + a.toNat * 12 + b.toNat) % 12=b.toNat by omega]
 unfold cell
 rw [show ((fwD ls o a b).getD (a.toNat * 12 + o.toNat) 0 != -1 && (fwD ls o a b).getD (o.toNat * 12 + b.toNat) 0 != -1)=true by simp only [Bool.and_eq_true,bne_iff_ne];exact ⟨h1,h2⟩,cond_true]
 unfold relaxD
 rw [Int.toNat_of_nonneg a0,Int.toNat_of_nonneg b0]
theorem fwD_no {ls:List Line} {o a b:Int} (o0:0≤o) (o1:o < 12) (a0:0≤a) (a1:a < 12) (b0:0≤b) (b1:b < 12)
  (h:(fwD ls o a b).getD (a.toNat * 12 + o.toNat) 0≠-1→(fwD ls o a b).getD (o.toNat * 12 + b.toNat) 0=-1):fwD ls o a b=fwD ls o a (b + 1):=by
 rw [fwD_step o0 o1 a0 a1 b0 b1]
 unfold stepF
 rw [show (o.toNat * 144 + a.toNat * 12 + b.toNat) / 12 % 12=a.toNat by omega,show (o.toNat * 144 + a.toNat * 12 + b.toNat) / 144=o.toNat by omega,show (o.toNat * 144 + a.toNat * 12 + b.toNat) % 12=b.toNat by omega]
 unfold cell
 rw [show ((fwD ls o a b).getD (a.toNat * 12 + o.toNat) 0 != -1 && (fwD ls o a b).getD (o.toNat * 12 + b.toNat) 0 != -1)=false by
  rw [Bool.and_eq_false_imp];intro g;rw [bne_iff_ne] at g;rw [h g];rfl,cond_false]
theorem t_relaxed (cs:LC) (ns os:LB) (fs:List Off) (ls:List Line) (ks:List Cla):SoundC Tryz.prog G0 82 [net cs ns os fs ls ks] [] ⟨noP (cs,ns,os,fs,ls,ks),.av I (relaxedD ls),[]⟩:=by
 refine sound_of_ev (c:=mkc K13) KS13 KI0s hm (vc_relaxed cs ns os fs ls ks ⟨rfl,fun hp=>?_⟩)
 obtain ⟨ok,hls⟩:=lines_ok cs ns os fs ls ks hp
 simp only [cnd_and,D.and,Bool.true_and,eq_self,true_and,and_true,imp_self,implies_true,Bool.and_eq_true,Bool.and_eq_false_imp,Int.toNat_natCast,Nat.zero_add,Nat.mul_one,D.nil,D.ne,D.lt,D.ilen,D.ile,D.ilt,D.nle,D.nlt,D.sub,D.add,D.mul,D.nat,D.ofN,D.len,D.get,D.set,D.at2,decide_eq_true_eq,decide_eq_false_iff_not,bne_iff_ne,bne_eq_false_iff_eq]
 have z12:upN 0 12:=⟨by decide,by decide⟩
 refine ⟨⟨0,z12,rfl,initD_zero⟩,fun x ⟨x0,x1⟩=>⟨fun hx=>⟨⟨0,z12,rfl,by rw [Int.add_zero]⟩,fun y ⟨y0,y1⟩=>⟨fun hy=>⟨fun hne=>?_,fun he=>?_⟩,fun hy=>?_⟩⟩,fun hx=>?_⟩⟩
 ·have:=initD_length (12 * x + y)
  and_intros
  all_goals try omega
  exact ⟨y + 1,⟨by omega,by omega⟩,⟨rfl,initD_set x0 hx y0 hy hne⟩,by omega⟩
 ·subst he
  exact ⟨⟨by omega,by omega⟩,x + 1,⟨by omega,by omega⟩,⟨rfl,initD_skip x0 hx⟩,by omega⟩
 ·have:y=12:=by omega
  subst this
  exact ⟨⟨by omega,by omega⟩,x + 1,⟨by omega,by omega⟩,⟨rfl,by congr 1;omega⟩,by omega⟩
 have ex:x=12:=by omega
 subst ex
 refine ⟨⟨0,⟨Int.le_refl _,Int.natCast_nonneg _⟩,rfl,initD_end ls⟩,fun k ⟨k0,k1⟩=>⟨fun hk=>?_,fun hk=>?_⟩⟩
 ·have ho:=ok.at_ _ (getD_mem (l:=ls) (i:=k.toNat) (d:=(⟨#[]⟩,0,0,0,0,0)) (by omega))
  have hn:=ok.n12
  unfold lFrom lTo at ho
  have e1:=linesD_length ls k
  refine ⟨k0,hk,⟨by omega,by omega,by omega,by omega,e1⟩,by rw [relaxD_length],⟨by omega,by omega⟩,k + 1,⟨by omega,by omega⟩,⟨rfl,linesD_next k0 hk _⟩,by omega⟩
 refine ⟨⟨0,z12,rfl,linesD_end ls hk⟩,fun o ⟨o0,o1⟩=>⟨fun ho=>⟨⟨0,z12,rfl,rfl⟩,fun a ⟨a0,a1⟩=>⟨fun ha=>⟨⟨0,z12,rfl,rfl⟩,fun b ⟨b0,b1⟩=>⟨fun hb=>?_,fun hb=>?_⟩⟩,fun ha=>?_⟩⟩,fun ho=>?_⟩⟩
 ·have e1:=fwD_length ls o a b
  have bd1:=fwN_bound ok (k:=(o * 144 + a * 12 + b).toNat) (by omega) (a:=a.toNat) (b:=o.toNat) (by omega) (by omega)
  have bd2:=fwN_bound ok (k:=(o * 144 + a * 12 + b).toNat) (by omega) (a:=o.toNat) (b:=b.toNat) (by omega) (by omega)
  have bd1:-1≤(fwD ls o a b).getD (a.toNat * 12 + o.toNat) 0∧(fwD ls o a b).getD (a.toNat * 12 + o.toNat) 0≤20480000:=bd1
  have bd2:-1≤(fwD ls o a b).getD (o.toNat * 12 + b.toNat) 0∧(fwD ls o a b).getD (o.toNat * 12 + b.toNat) 0≤20480000:=bd2
  and_intros
  all_goals try (intros;omega)
  ·rintro ⟨h1,h2⟩
   have e2:=relaxD_length (fwD ls o a b) a b ((fwD ls o a b).getD (a.toNat * 12 + o.toNat) 0 + (fwD ls o a b).getD (o.toNat * 12 + b.toNat) 0)
   have e3:=fwD_yes o0 ho a0 ha b0 hb h1 h2
   and_intros
   all_goals try omega
   exact ⟨b + 1,⟨by omega,by omega⟩,⟨rfl,e3⟩,by omega⟩
  ·intro h
   exact ⟨⟨by omega,by omega⟩,b + 1,⟨by omega,by omega⟩,⟨rfl,fwD_no o0 ho a0 ha b0 hb h⟩,by omega⟩
 ·have:b=12:=by omega
  subst this
  exact ⟨⟨by omega,by omega⟩,a + 1,⟨by omega,by omega⟩,⟨rfl,fwD_row⟩,by omega⟩
 ·have:a=12:=by omega
  subst this
  exact ⟨⟨by omega,by omega⟩,o + 1,⟨by omega,by omega⟩,⟨rfl,fwD_all⟩,by omega⟩
 ·have:o=12:=by omega
  subst this
  have e1:=fwD_length ls 12 0 0
  have e2:(D.reps 144 (0:Int)).length=144:=List.length_replicate
  and_intros
  all_goals try omega
  rfl
theorem KS14:KSound Tryz.prog G0 K14:=kOr_ok (dataK_ok fun ((cs,ns,os,fs,ls,ks),_)=>t_relaxed cs ns os fs ls ks) KS13
end Go.Eng.Sv
