/- PeSv4k -/
import Derived.Test.YtlobbofhlcjlmaaGreatDoorH22
import Derived.Test.YtlobbofhlcjlmaaGreatDoorSv3k
set_option linter.unusedSimpArgs false
set_option linter.unusedVariables false
set_option maxRecDepth 100000
noncomputable section
namespace Go.Eng.Sv
open Go.Proofs
def aRG (a b:Int) (xs:List Int):Prop:=0≤a∧a < 12∧0≤b∧b < 12∧xs.length=144
def nG (xs:List Int) (a b len:Int):List Int:=jG xs a b len
def lG (k:Int):List Int:=(List.range 144).map fun i=>if i < k.toNat then (if i / 12=i % 12 then 0 else -1) else 0
def mO (ls:List Line) (k:Int):List Int:=(ls.take k.toNat).foldl (fun xs l=>jG xs (dQ l) (lTo l) (bP l)) aGu
def fwD (ls:List Line) (o a b:Int):List Int:=fwN ls (o * 144 + a * 12 + b).toNat
def dM (ls:List Line):List Int:=aDg ls
def noP (n:Net):Prop:=noF n=true
def aCC (m:Nat) (ls:List Line) (b:Nat):Bool:=(List.range m).any fun a=>decide (cell (aDg ls) a b=-1)
def dK (m:Int) (ls:List Line) (k:Int):List (Int×Int×Int):=(List.range k.toNat).filterMap fun b:Nat=>if aCC m.toNat ls b then some (3,(b:Int),111) else none
def oO (n:Net):List (Int×Int×Int):=if noF n then dK n.2.2.2.1.length n.2.2.2.2.1 n.2.2.2.1.length else jU n
def aBt (m:Int) (ls:List Line) (b k:Int):Prop:=0≤k∧k≤m∧(List.range k.toNat).all (fun a=>decide (cell (aDg ls) a b.toNat≠-1))=true
def zW (n:Net):Bool:=(oO n).isEmpty
abbrev cx:List (Int×List Bool×List Int):=[(0,[true,true,true,true,true,false,false],[])]
abbrev nx:List ByteArray:=[⟨#[99]⟩]
abbrev ox:List ByteArray:=[⟨#[112]⟩,⟨#[113]⟩]
theorem aMo (a b len:Int) (xs:List Int) (hvc :
 let c1:=nG xs a b len;
 let c2:=D.at2 (D.at2 (0) (12) a) (1) b;
 let c3:=D.get xs c2 (0:Int);
 let c4:=D.eq c3 (-1:Int);
 let c5:=D.not c4;
 let c6:=D.cnd c4 true (D.lt len c3);true=true∧(aRG a b xs→D.nle (D.len xs) (D.len c1)∧D.len xs=144∧D.ile (0:Int) a∧D.ilt a (D.ofN (12)) ∧
 D.nle (D.at2 (0) (12) (D.ofN (12))) (144)∧D.len xs=144∧D.ile (0:Int) b∧D.ilt b (D.ofN (12))∧D.nle (D.at2 (D.at2 (0) (12) a) (1) (D.ofN (12))) (144)
 ∧ D.len xs=144∧(c5=true→c5=true→c5=true)∧(c5=true→D.len xs=144)∧(c5=true→D.ile (0:Int) a)∧(c5=true→D.ilt a (D.ofN (12))) ∧
 (c5=true→D.nle (D.at2 (0) (12) (D.ofN (12))) (144))∧(c5=true→c5=true→c5=true)∧(c5=true→c5=true→c5=true)∧(c5=true→D.len xs =
 144)∧(c5=true→D.ile (0:Int) b)∧(c5=true→D.ilt b (D.ofN (12)))∧(c5=true→D.nle (D.at2 (D.at2 (0) (12) a) (1) (D.ofN (12))) (144))∧(c5 =
 true→c5=true→c5=true)∧(c5=true→D.len xs=144)∧(c5=true→c5=true→c5=true)∧(c5=true→c5=true→c5=true)∧(D.and true c5 =
 true→c5=true)∧(c6=true→D.len xs=144∧D.ile (0:Int) a∧D.ilt a (D.ofN (12))∧D.nle (D.at2 (0) (12) (D.ofN (12))) (144)∧D.len xs=144∧D.ile
 (0:Int) b∧D.ilt b (D.ofN (12))∧D.nle (D.at2 (D.at2 (0) (12) a) (1) (D.ofN (12))) (144)∧D.len xs=144∧D.set xs c2 len=c1∧D.len xs=D.len xs ∧
 True)∧(c6=false→xs=c1∧D.len xs=D.len xs∧True))) :
  evF (mkc K12) bF 121 [.dat I a,.dat I b,.dat I len,.ptr 1 144 0 0] [(1,.buf 137 I xs [])] ⟨aRG a b xs,.tup [],[(1,.buf 137 I (nG xs a b len) [])]⟩:=@of_eq _ _ (by kernel_rfl) hvc
def aKI (args:List AV) (m:Mem):Option pF:=match args,m with
 | [.dat (.int .i64) a,.dat (.int .i64) b,.dat (.int .i64) len,.ptr 1 g 0 0],[(1,.buf el (.int .i64) xs [])]=>if g=144∧el=137 then some ⟨aRG a b xs,.tup [],[(1,.buf 137 I (nG xs a b len) [])]⟩ else none
 | _,_=>none
def K13:Kt:=kOr 121 aKI K12
def aNr (ls:List Line):Ann:=⟨fun id s=>match id with
 | 3=>some { α:=Int,inv:=fun k=>upN k 12,st:=fun k=>aAd (put s [(12,.dat I k)]) 1 (.buf 137 I (lG (D.mul 12 k)) []),μ:=fun k=>D.nat (D.sub 12 k) }
 | 6=>match s.sig.T 12 with
  | .dat (.int .i64) a=>some { α:=Int,inv:=fun k=>upN k 12,st:=fun k=>aAd (put s [(15,.dat I k)]) 1 (.buf 137 I (lG (D.add (D.mul 12 a) k)) []),μ:=fun k=>D.nat (D.sub 12 k) }
  | _=>none
 | 14=>some { α:=Int,inv:=fun k=>upN k (D.ilen ls),st:=fun k=>aAd (put s [(31,.dat I k)]) 1 (.buf 137 I (mO ls k) []),μ:=fun k=>D.nat (D.sub (D.ilen ls) k) }
 | 19=>some { α:=Int,inv:=fun k=>upN k 12,st:=fun k=>aAd (put s [(44,.dat I k)]) 1 (.buf 137 I (fwD ls k 0 0) []),μ:=fun k=>D.nat (D.sub 12 k) }
 | 22=>match s.sig.T 44 with
  | .dat (.int .i64) o=>some { α:=Int,inv:=fun k=>upN k 12,st:=fun k=>aAd (put s [(47,.dat I k)]) 1 (.buf 137 I (fwD ls o k 0) []),μ:=fun k=>D.nat (D.sub 12 k) }
  | _=>none
 | 25=>match s.sig.T 44,s.sig.T 47 with
  | .dat (.int .i64) o,.dat (.int .i64) a=>some { α:=Int,inv:=fun k=>upN k 12,st:=fun k=>aAd (put s [(50,.dat I k)]) 1 (.buf 137 I (fwD ls o a k) []),μ:=fun k=>D.nat (D.sub 12 k) }
  | _,_=>none
 | _=>none,fun _ _=>none,fun _ _=>none⟩
theorem aHZ (cs:LC) (ns os:LB) (fs:List Off) (ls:List Line) (ks:List Cla) (hvc :
 let c1:=(cs,ns,os,fs,ls,ks);
 let c2:=D.aIj (144) (0:Int);
 let c3:=D.ilen ls;
 let c4:=(ByteArray.mk (D.nil UInt8).toArray,(0:Int),(0:Int),(0:Int),(0:Int),(0:Int));true=true∧(noP c1→(∃ x,upN x (12:Int)∧c1=c1
 ∧ 144=144∧0=0∧0=0∧144=144∧0=0∧0=0∧(0:Int)=x∧c2=c2∧c2=lG (D.mul (12:Int) x)∧True)∧∀ (x:Int),
 let c5:=D.lt x (12:Int);
 let c6:=D.mul (12:Int) x;
 let c7:=lG c6;
 let c8:=D.add x (1:Int);upN x (12:Int)→(c5=true→(∃ x_3,upN x_3 (12:Int)∧c1=c1∧144=144∧0=0∧0=0∧144=144∧0=0∧0=0∧x =
 x∧x=x∧(0:Int)=x_3∧c2=c2∧c7=lG (D.add c6 x_3)∧True)∧∀ (x_3:Int),
 let c9:=D.lt x_3 (12:Int);
 let c10:=D.add x_3 (1:Int);upN x_3 (12:Int)→(c9=true→(D.ne x x_3=true→D.len (lG (D.add c6 x_3))=144∧D.ile (0:Int) x∧D.ilt x (D.ofN
 (12))∧D.nle (D.at2 (0) (12) (D.ofN (12))) (144)∧D.len (lG (D.add c6 x_3))=144∧D.ile (0:Int) x_3∧D.ilt x_3 (D.ofN (12))∧D.nle (D.at2 (D.at2 (0)
 (12) x) (1) (D.ofN (12))) (144)∧D.len (lG (D.add c6 x_3))=144∧inR IntKind.i64 c10∧∃ y,upN y (12:Int)∧(c1=c1∧144=144∧0=0∧0=0∧144
 = 144∧0=0∧0=0∧x=x∧x=x∧c10=y∧c2=c2∧D.set (lG (D.add c6 x_3)) (D.at2 (D.at2 (0) (12) x) (1) x_3) (-1:Int)=lG (D.add c6 y) ∧
 True)∧D.nlt (D.nat (D.sub (12:Int) y)) (D.nat (D.sub (12:Int) x_3)))∧(D.ne x x_3=false→inR IntKind.i64 c10∧∃ y,upN y (12:Int)∧(c1=c1∧144
 = 144∧0=0∧0=0∧144=144∧0=0∧0=0∧x=x∧x=x∧c10=y∧c2=c2∧lG (D.add c6 x_3)=lG (D.add c6 y)∧True)∧D.nlt (D.nat (D.sub
 (12:Int) y)) (D.nat (D.sub (12:Int) x_3))))∧(c9=false→inR IntKind.i64 c8∧∃ y,upN y (12:Int)∧(c1=c1∧144=144∧0=0∧0=0∧144=144 ∧
 0=0∧0=0∧c8=y∧c2=c2∧lG (D.add c6 x_3)=lG (D.mul (12:Int) y)∧True)∧D.nlt (D.nat (D.sub (12:Int) y)) (D.nat (D.sub (12:Int)
 x))))∧(c5=false→(∃ x,upN x c3∧144=144∧0=0∧0=0∧144=144∧0=0∧0=0∧144=144∧0=0∧0=0∧ls=ls∧c3=c3∧(0:Int)=x ∧
 c2=c2∧c7=mO ls x∧True)∧∀ (x:Int),
 let c11:=(D.get ls (D.nat x) c4).snd;
 let c12:=c11.fst;
 let c13:=c11.snd;
 let c14:=c13.fst;
 let c15:=nG (mO ls x) c12 c14 c13.snd.snd.fst;
 let c16:=D.add x (1:Int);upN x c3→(D.lt x c3=true→D.ile (0:Int) x∧D.ilt x c3∧1=1∧0=0∧1=1∧1=1∧0=0∧1=1∧1=1∧0=0∧1
 = 1∧1=1∧0=0∧aRG c12 c14 (mO ls x)∧D.nle (D.len (mO ls x)) (D.len c15)∧inR IntKind.i64 c16∧∃ y,upN y c3∧(144=144∧0=0∧0=0 ∧
 144=144∧0=0∧0=0∧144=144∧0=0∧0=0∧ls=ls∧c3=c3∧c16=y∧c2=c2∧c15=mO ls y∧True)∧D.nlt (D.nat (D.sub c3 y)) (D.nat
 (D.sub c3 x)))∧(D.lt x c3=false→(∃ x_4,upN x_4 (12:Int)∧144=144∧0=0∧0=0∧144=144∧0=0∧0=0∧144=144∧0=0∧0=0∧(0 :
 Int)=x_4∧c2=c2∧mO ls x=fwD ls x_4 (0:Int) (0:Int)∧True)∧∀ (x:Int),
 let c17:=D.lt x (12:Int);
 let c18:=fwD ls x (0:Int) (0:Int);
 let c19:=D.add x (1:Int);upN x (12:Int)→(c17=true→(∃ x_6,upN x_6 (12:Int)∧144=144∧0=0∧0=0∧144=144∧0=0∧0=0∧144=144 ∧
 0=0∧0=0∧x=x∧x=x∧(0:Int)=x_6∧c2=c2∧c18=fwD ls x x_6 (0:Int)∧True)∧∀ (x_6:Int),
 let c20:=D.lt x_6 (12:Int);
 let c21:=fwD ls x x_6 (0:Int);
 let c22:=D.at2 (D.at2 (0) (12) x_6) (1) x;
 let c23:=D.add x_6 (1:Int);upN x_6 (12:Int)→(c20=true→(∃ x_9,upN x_9 (12:Int)∧144=144∧0=0∧0=0∧144=144∧0=0∧0=0∧144 =
 144∧0=0∧0=0∧x=x∧x_6=x_6∧x=x∧x_6=x_6∧(0:Int)=x_9∧c2=c2∧c21=fwD ls x x_6 x_9∧True)∧∀ (x_9:Int),
 let c24:=D.lt x_9 (12:Int);
 let c25:=fwD ls x x_6 x_9;
 let c26:=D.len c25;
 let c27:=D.get c25 c22 (0:Int);
 let c28:=D.ne c27 (-1:Int);
 let c29:=D.get c25 (D.at2 (D.at2 (0) (12) x) (1) x_9) (0:Int);
 let c30:=D.cnd c28 (D.ne c29 (-1:Int)) false;
 let c31:=D.add c27 c29;
 let c32:=nG c25 x_6 x_9 c31;
 let c33:=D.add x_9 (1:Int);upN x_9 (12:Int)→(c24=true→c26=144∧D.ile (0:Int) x_6∧D.ilt x_6 (D.ofN (12))∧D.nle (D.at2 (0) (12) (D.ofN
 (12))) (144)∧c26=144∧D.ile (0:Int) x∧D.ilt x (D.ofN (12))∧D.nle (D.at2 (D.at2 (0) (12) x_6) (1) (D.ofN (12))) (144)∧c26=144∧(c28=true→c28
 = true→c28=true)∧(c28=true→c26=144)∧(c28=true→D.ile (0:Int) x)∧(c28=true→D.ilt x (D.ofN (12)))∧(c28=true→D.nle (D.at2 (0) (12)
 (D.ofN (12))) (144))∧(c28=true→c28=true→c28=true)∧(c28=true→c28=true→c28=true)∧(c28=true→c26=144)∧(c28=true→D.ile (0 :
 Int) x_9)∧(c28=true→D.ilt x_9 (D.ofN (12)))∧(c28=true→D.nle (D.at2 (D.at2 (0) (12) x) (1) (D.ofN (12))) (144))∧(c28=true→c28=true→c28 =
 true)∧(c28=true→c26=144)∧(c28=true→c28=true→c28=true)∧(D.and true c28=true→c28=true)∧(c30=true→c26=144∧D.ile (0:Int)
 x_6∧D.ilt x_6 (D.ofN (12))∧D.nle (D.at2 (0) (12) (D.ofN (12))) (144)∧c26=144∧D.ile (0:Int) x∧D.ilt x (D.ofN (12))∧D.nle (D.at2 (D.at2 (0) (12)
 x_6) (1) (D.ofN (12))) (144)∧c26=144∧c26=144∧D.ile (0:Int) x∧D.ilt x (D.ofN (12))∧D.nle (D.at2 (0) (12) (D.ofN (12))) (144)∧c26=144∧D.ile
 (0:Int) x_9∧D.ilt x_9 (D.ofN (12))∧D.nle (D.at2 (D.at2 (0) (12) x) (1) (D.ofN (12))) (144)∧c26=144∧inR IntKind.i64 c31∧aRG x_6 x_9 c25∧D.nle
 c26 (D.len c32)∧inR IntKind.i64 c33∧∃ y,upN y (12:Int)∧(144=144∧0=0∧0=0∧144=144∧0=0∧0=0∧144=144∧0=0∧0=0∧x=x ∧
 x_6=x_6∧x=x∧x_6=x_6∧c33=y∧c2=c2∧c32=fwD ls x x_6 y∧True)∧D.nlt (D.nat (D.sub (12:Int) y)) (D.nat (D.sub (12:Int) x_9)))∧(c30 =
 false→inR IntKind.i64 c33∧∃ y,upN y (12:Int)∧(144=144∧0=0∧0=0∧144=144∧0=0∧0=0∧144=144∧0=0∧0=0∧x=x∧x_6=x_6 ∧
 x=x∧x_6=x_6∧c33=y∧c2=c2∧c25=fwD ls x x_6 y∧True)∧D.nlt (D.nat (D.sub (12:Int) y)) (D.nat (D.sub (12:Int) x_9))))∧(c24=false→inR
 IntKind.i64 c23∧∃ y,upN y (12:Int)∧(144=144∧0=0∧0=0∧144=144∧0=0∧0=0∧144=144∧0=0∧0=0∧x=x∧x=x∧c23=y∧c2 =
 c2∧c25=fwD ls x y (0:Int)∧True)∧D.nlt (D.nat (D.sub (12:Int) y)) (D.nat (D.sub (12:Int) x_6))))∧(c20=false→inR IntKind.i64 c19∧∃ y,upN y
 (12:Int)∧(144=144∧0=0∧0=0∧144=144∧0=0∧0=0∧144=144∧0=0∧0=0∧c19=y∧c2=c2∧c21=fwD ls y (0:Int) (0:Int) ∧
 True)∧D.nlt (D.nat (D.sub (12:Int) y)) (D.nat (D.sub (12:Int) x))))∧(c17=false→D.len c18=144∧0=0∧D.len c18=144∧D.len c2=144∧0=0 ∧
 D.len c2=144∧D.len c18=144∧D.len c18=144∧0=0∧D.len c18=144∧c18=dM ls∧True))))) :
  evF (mkc K13) (lvA [(3,[1,2,3,4,5,6,8,9,10,11,12,15,29,30,31,44,47,50]),(6,[1,2,3,4,5,6,8,9,10,11,12,15,29,30,31,44,47,50]),(14,[2,3,6,8,9,10,11,29,30,31,44,47,50]),(19,[2,3,6,9,10,11,44,47,50]),(22,[2,3,6,9,10,11,44,47,50]),(25,[2,3,6,9,10,11,44,47,50])] (aNr ls)) 82 [net cs ns os fs ls ks] [] ⟨noP (cs,ns,os,fs,ls,ks),.av I (dM ls),[]⟩:=@of_eq _ _ (by kernel_rfl) hvc
def K14:Kt:=kOr 82 (bD [.row N] (fun (n,_)=>noP n) fun (n,_)=>.av I (dM n.2.2.2.2.1)) K13
def aRk (fs:List Off) (ls:List Line):Ann:=⟨fun id s=>match id with
 | 6=>some { α:=Int,inv:=fun k=>upN k (D.ilen fs),st:=fun k=>aAd (put s [(18,.dat I k),(3,.buf 0 (D.len (dK (D.ilen fs) ls k)))]) 0 (.buf 118 Fa (dK (D.ilen fs) ls k) []),μ:=fun k=>D.nat (D.sub (D.ilen fs) k) }
 | 9=>match s.sig.T 18 with
  | .dat (.int .i64) b=>some { α:=Int,inv:=fun k=>aBt (D.ilen fs) ls b k,st:=fun k=>put s [(24,.dat I k),(3,.buf 0 (D.len (dK (D.ilen fs) ls b)))],μ:=fun k=>D.nat (D.sub (D.ilen fs) k) }
  | _=>none
 | _=>none,fun _ _=>none,fun _ _=>none⟩
theorem aMC (cs:LC) (ns os:LB) (fs:List Off) (ls:List Line) (ks:List Cla) (hvc :
 let c1:=(cs,ns,os,fs,ls,ks);
 let c2:=jU c1;
 let c3:=D.len c2;
 let c4:=D.gt (Int.ofNat c3) (0:Int);
 let c5:=oO c1;
 let c6:=D.ilen fs;true=true∧(True→True∧c3=c3∧(c4=true→c3=c3∧c2=c5∧True)∧(c4=false→noP c1∧D.len (D.aIj (144) (0:Int))=144
 ∧ 0=0∧D.len (D.aIj (144) (0:Int))=144∧D.len (dM ls)=144∧(∃ x,upN x c6∧c1=c1∧Value.slice none (0) (0)=Value.slice none (0) (0) ∧
 c3=D.len (dK c6 ls x)∧144=144∧0=0∧0=0∧c6=c6∧(0:Int)=x∧c2=dK c6 ls x∧dM ls=dM ls∧True)∧∀ (x:Int),
 let c7:=D.len (dK c6 ls x);
 let c8:=[((3:Int),x,(111:Int))];
 let c9:=D.fE c7 (D.len c8);
 let c10:=D.add x (1:Int);upN x c6→(D.lt x c6=true→(∃ x_3,aBt c6 ls x x_3∧c1=c1∧Value.slice none (0) (0)=Value.slice none (0) (0)∧c7 =
 c7∧144=144∧0=0∧0=0∧x=x∧c6=c6∧x=x∧c6=c6∧(0:Int)=x_3∧dK c6 ls x=dK c6 ls x∧dM ls=dM ls∧True) ∧
 ∀ (x_3:Int),
 let c11:=D.eq (D.get (dM ls) (D.at2 (D.at2 (0) (12) x_3) (1) x) (0:Int)) (-1:Int);
 let c12:=D.add x_3 (1:Int);aBt c6 ls x x_3→(D.lt x_3 c6=true→D.len (dM ls)=144∧D.ile (0:Int) x_3∧D.ilt x_3 (D.ofN (12))∧D.nle
 (D.at2 (0) (12) (D.ofN (12))) (144)∧D.len (dM ls)=144∧D.ile (0:Int) x∧D.ilt x (D.ofN (12))∧D.nle (D.at2 (D.at2 (0) (12) x_3) (1) (D.ofN
 (12))) (144)∧D.len (dM ls)=144∧(c11=true→c7=c7∧D.nle (D.nI c9 (24)) (140737488355328)∧D.nle c9 (9223372036854775807)∧inR IntKind.i64
 c10∧∃ y,upN y c6∧(c1=c1∧Value.slice none (0) (0)=Value.slice none (0) (0)∧c9=D.len (dK c6 ls y)∧144=144∧0=0∧0=0∧c6=c6∧c10
 = y∧D.app (dK c6 ls x) c8=dK c6 ls y∧dM ls=dM ls∧True)∧D.nlt (D.nat (D.sub c6 y)) (D.nat (D.sub c6 x)))∧(c11=false→inR
 IntKind.i64 c12∧∃ y,aBt c6 ls x y∧(c1=c1∧Value.slice none (0) (0)=Value.slice none (0) (0)∧c7=c7∧144=144∧0=0∧0=0∧x=x∧c6 =
 c6∧x=x∧c6=c6∧c12=y∧dK c6 ls x=dK c6 ls x∧dM ls=dM ls∧True)∧D.nlt (D.nat (D.sub c6 y)) (D.nat (D.sub c6 x_3)))) ∧
 (D.lt x_3 c6=false→inR IntKind.i64 c10∧∃ y,upN y c6∧(c1=c1∧Value.slice none (0) (0)=Value.slice none (0) (0)∧c7=D.len (dK c6 ls y) ∧
 144=144∧0=0∧0=0∧c6=c6∧c10=y∧dK c6 ls x=dK c6 ls y∧dM ls=dM ls∧True)∧D.nlt (D.nat (D.sub c6 y)) (D.nat
 (D.sub c6 x))))∧(D.lt x c6=false→c7=c7∧dK c6 ls x=c5∧True)))) :
  evF (mkc K14) (lvA [(6,[1,2,3,4,5,6,17,18,23,24]),(9,[1,2,3,4,5,6,17,18,23,24])] (aRk fs ls)) 50 [net cs ns os fs ls ks] [] ⟨True,.dat (.sl Fa) (oO (cs,ns,os,fs,ls,ks)),[]⟩:=@of_eq _ _ (by kernel_rfl) hvc
def K15:Kt:=kOr 50 (bD [.row N] (fun _=>True) fun (n,_)=>.dat (.sl Fa) (oO n)) K14
def K16:Kt:=K15
theorem aBr {n:Net}:noF n=true↔jU n=[]:=by unfold noF;rw [List.isEmpty_iff]
theorem aBD {kind lim:Int} {l:List ByteArray} {g:List Bool} (h0:0≤lim) (h:dH kind lim l g=[]):(l.length:Int)≤lim∧∀ i:Int,0≤i→i < l.length→aHG l g i=0:=by
 unfold dH at h
 obtain ⟨h1,h2⟩:=List.append_eq_nil_iff.1 h
 have hl:(l.length:Int)≤lim:=by
  unfold aIq at h2
  split at h2
  ·cases h2
  ·omega
 refine ⟨hl,fun i i0 i1=>?_⟩
 unfold bH at h1
 rw [List.filterMap_eq_nil_iff] at h1
 have:=h1 i.toNat (List.mem_range.2 (by omega))
 rw [Int.toNat_of_nonneg i0] at this
 split at this
 ·assumption
 ·cases this
theorem xU {l:List ByteArray} {g:List Bool} {i:Int} (h:aHG l g i=0):dJ l i=0∧rule2 l i=0∧dR g i=0:=by
 unfold aHG at h
 by_cases h1:dJ l i=0
 ·rw [if_neg (by simp [h1])] at h
  by_cases h2:rule2 l i=0
  ·rw [if_neg (by simp [h2])] at h;exact ⟨h1,h2,h⟩
  ·rw [if_pos h2] at h;exact (h2 h).elim
 ·rw [if_pos h1] at h;exact (h1 h).elim
theorem aCz {g:List Bool} {i:Int} (h:dR g i=0):g.getD i.toNat false=true:=by
 unfold dR at h
 cases hg:g.getD i.toNat false with
 | true=>rfl
 | false=>rw [hg] at h;cases h
theorem pX (cs:LC) (ns os:LB) (fs:List Off) (ls:List Line) (ks:List Cla) (h:noF (cs,ns,os,fs,ls,ks)=true):ns.length=cs.length∧dH 1 6 (aP cs ns) (bY cs)=[]∧dH 2 6 os (dW os)=[]∧dH 3 12 (aS fs) (gY (cs,ns,os,fs,ls,ks))=[]∧dH 4 40 (aT ls) (fZ (cs,ns,os,fs,ls,ks))=[]∧dH 5 4 (aU ks) (cZ ks)=[]:=by
 have:=aBr.1 h
 rw [aCS] at this
 simp only [List.append_eq_nil_iff] at this
 obtain ⟨h0,h1,h2,h3,h4,h5⟩:=this
 refine ⟨?_,h1,h2,h3,h4,h5⟩
 unfold aGy at h0
 split at h0
 ·assumption
 ·cases h0
theorem sF {n:Net} {l:Line} (h:iI n l=true):0≤dQ l∧dQ l < n.2.2.2.1.length∧0≤lTo l∧lTo l < n.2.2.2.1.length∧dQ l≠lTo l∧(0≤lAt l∧lAt l≤1439)∧1≤bP l∧bP l≤5000:=by
 unfold iI mW iW at h
 simp only [Bool.and_eq_true,decide_eq_true_eq] at h
 obtain ⟨⟨⟨⟨⟨h1,h2⟩,h3⟩,h4⟩,h5⟩,h6⟩:=h
 exact ⟨h1.1,h1.2,h2.1,h2.2,h3,h4,h5.1,h5.2⟩
theorem aHs (cs:LC) (ns os:LB) (fs:List Off) (ls:List Line) (ks:List Cla) (h:noF (cs,ns,os,fs,ls,ks)=true):fV fs.length ls∧ls.length≤40:=by
 obtain ⟨_,_,_,h3,h4,_⟩:=pX cs ns os fs ls ks h
 obtain ⟨l3,e3⟩:=aBD (by decide) h3
 obtain ⟨l4,e4⟩:=aBD (by decide) h4
 have n3:(aS fs).length=fs.length:=map_length _ fs
 have n4:(aT ls).length=ls.length:=map_length _ ls
 refine ⟨⟨by omega,fun l hl=>?_⟩,by omega⟩
 obtain ⟨i,hi⟩:=List.mem_iff_getElem?.1 hl
 have hlt:i < ls.length:=(List.getElem?_eq_some_iff.1 hi).1
 have:=aCz (xU (e4 i (by omega) (by omega))).2.2
 rw [show (fZ (cs,ns,os,fs,ls,ks))=ls.map (iI (cs,ns,os,fs,ls,ks)) from rfl,uI (iI (cs,ns,os,fs,ls,ks)) ls (i:Int).toNat l false (by omega),List.getD_eq_getElem?_getD,show (i:Int).toNat=i by omega,hi] at this
 obtain ⟨g1,g2,g3,g4,g5,_,g6,g7⟩:=sF this
 exact ⟨g1,g2,g3,g4,g5,g6,g7⟩
theorem pO (xs:List Int) (a b len:Int):(nG xs a b len).length=xs.length:=lU xs a b len
theorem aIk {xs:List Int} {a b len:Int} (h:xs.getD (a.toNat * 12 + b.toNat) 0=-1∨len < xs.getD (a.toNat * 12 + b.toNat) 0):xs.set (a.toNat * 12 + b.toNat) len=nG xs a b len:=by
 unfold nG jG cell
 rw [show (decide (xs.getD (a.toNat * 12 + b.toNat) 0=-1) || decide (len < xs.getD (a.toNat * 12 + b.toNat) 0))=true by simpa using h];rfl
theorem aIl {xs:List Int} {a b len:Int} (h1:xs.getD (a.toNat * 12 + b.toNat) 0≠-1) (h2:¬ len < xs.getD (a.toNat * 12 + b.toNat) 0):xs=nG xs a b len:=by
 unfold nG jG cell
 rw [show (decide (xs.getD (a.toNat * 12 + b.toNat) 0=-1) || decide (len < xs.getD (a.toNat * 12 + b.toNat) 0))=false by rw [Bool.or_eq_false_iff];exact ⟨decide_eq_false h1,decide_eq_false h2⟩];rfl
theorem aP8 (a b len:Int) (xs:List Int):aC Tryz.prog G0 121 [.dat I a,.dat I b,.dat I len,.ptr 1 144 0 0] [(1,.buf 137 I xs [])] ⟨aRG a b xs,.tup [],[(1,.buf 137 I (nG xs a b len) [])]⟩:=by
 refine aA (c:=mkc K12) aV4 cO hm (aMo a b len xs ⟨rfl,fun ⟨a0,a1,b0,b1,hl⟩=>?_⟩)
 have e:=pO xs a b len
 simp only [oN,D.and,D.not,Bool.true_and,eq_self,true_and,and_true,imp_self,implies_true,Bool.not_eq_true',Bool.or_eq_true,Bool.or_eq_false_iff,Int.toNat_natCast,Nat.zero_add,Nat.mul_one,D.eq,D.lt,D.ile,D.ilt,D.nle,D.ofN,D.len,D.get,D.set,D.at2,decide_eq_true_eq,decide_eq_false_iff_not,beq_iff_eq,beq_eq_false_iff_ne]
 and_intros
 all_goals try (intros;omega)
 ·intro h
  and_intros
  all_goals try omega
  exact aIk h
 ·rintro ⟨h1,h2⟩
  exact aIl h1 h2
theorem aKH:∀ args m c,aKI args m=some c→aC Tryz.prog G0 121 args m c:=by
 intro args m c h
 unfold aKI at h
 split at h
 ·split at h
  ·rename_i e
   obtain ⟨rfl,rfl⟩:=e
   cases h
   exact aP8 _ _ _ _
  ·cases h
 ·cases h
theorem aV3:aQ Tryz.prog G0 K13:=aJ aKH aV4
theorem aAl (k:Int):(lG k).length=144:=by unfold lG;rw [List.length_map,List.length_range]
theorem aIH:List.replicate 144 0=lG 0:=by
 unfold lG
 apply List.ext_getElem?
 intro i
 rw [List.getElem?_replicate,List.getElem?_map]
 by_cases h:i < 144
 ·rw [if_pos h,List.getElem?_range h];simp
 ·rw [if_neg h,List.getElem?_eq_none (by rw [List.length_range];omega)];rfl
theorem aKN {x y:Int} (hx:0≤x) (hx1:x < 12) (hy:0≤y) (hy1:y < 12) (hne:x≠y):(lG (12 * x + y)).set (x.toNat * 12 + y.toNat) (-1)=lG (12 * x + (y + 1)):=by
 apply List.ext_getElem?
 intro i
 rw [List.getElem?_set,aAl]
 unfold lG
 rw [List.getElem?_map,List.getElem?_map]
 by_cases h:i < 144
 ·rw [List.getElem?_range h]
  simp only [Option.map_some]
  by_cases e:x.toNat * 12 + y.toNat=i
  ·subst e
   rw [if_pos rfl,if_pos h,if_pos (by omega),if_neg (by omega)]
  ·rw [if_neg e]
   congr 1
   by_cases g:i < (12 * x + y).toNat
   ·have g':i < (12 * x + (y + 1)).toNat:=by omega
    rw [if_pos g,if_pos g']
   ·have g':¬ i < (12 * x + (y + 1)).toNat:=by omega
    rw [if_neg g,if_neg g']
 ·rw [if_neg (by omega),List.getElem?_eq_none (by rw [List.length_range];omega)];rfl
theorem aII {x:Int} (hx:0≤x) (hx1:x < 12):lG (12 * x + x)=lG (12 * x + (x + 1)):=by
 unfold lG
 apply List.map_congr_left
 intro i hi
 have:=List.mem_range.1 hi
 by_cases g:i < (12 * x + x).toNat
 ·have g':i < (12 * x + (x + 1)).toNat:=by omega
  rw [if_pos g,if_pos g']
 ·rw [if_neg g]
  split
  ·rw [if_pos (by omega)]
  ·rfl
theorem aKO (ls:List Line):lG (12 * 12)=mO ls 0:=by
 unfold mO lG aGu
 rw [show (Int.toNat 0)=0 from rfl,List.take_zero,List.foldl_nil]
 apply List.map_congr_left
 intro i hi
 rw [if_pos (by have:=List.mem_range.1 hi;omega)]
theorem aDv (ls:List Line) (k:Int):(mO ls k).length=144:=xH _
theorem aGo {ls:List Line} {k:Int} (h0:0≤k) (h1:k < ls.length) (d:Line):nG (mO ls k) (ls.getD k.toNat d).2.1 (ls.getD k.toNat d).2.2.1 (ls.getD k.toNat d).2.2.2.2.1=mO ls (k + 1):=by
 unfold mO
 rw [show (k + 1).toNat=k.toNat + 1 by omega,List.take_add_one,List.getD_eq_getElem?_getD,List.getElem?_eq_getElem (show k.toNat < ls.length by omega),List.foldl_append]
 rfl
theorem aIz (ls:List Line) {k:Int} (h:¬ k < ls.length):mO ls k=fwD ls 0 0 0:=by
 unfold mO
 rw [List.take_of_length_le (by omega)];rfl
theorem aCR (ls:List Line) (o a b:Int):(fwD ls o a b).length=144:=zA ls _
theorem aQ9 {ls:List Line} {o a:Int}:fwD ls o a 12=fwD ls o (a + 1) 0:=by
 unfold fwD;congr 2;omega
theorem aRa {ls:List Line} {o:Int}:fwD ls o 12 0=fwD ls (o + 1) 0 0:=by
 unfold fwD;congr 2;omega
theorem aHB {ls:List Line} {o a b:Int} (o0:0≤o) (o1:o < 12) (a0:0≤a) (a1:a < 12) (b0:0≤b) (b1:b < 12):fwD ls o a (b + 1)=aC8 (fwD ls o a b) (o.toNat * 144 + a.toNat * 12 + b.toNat):=by
 unfold fwD
 rw [show (o * 144 + a * 12 + (b + 1)).toNat=(o.toNat * 144 + a.toNat * 12 + b.toNat) + 1 by omega,show (o * 144 + a * 12 + b).toNat=o.toNat * 144 + a.toNat * 12 + b.toNat by omega,aDD]
theorem aQ8 {ls:List Line} {o a b:Int} (o0:0≤o) (o1:o < 12) (a0:0≤a) (a1:a < 12) (b0:0≤b) (b1:b < 12)
  (h1:(fwD ls o a b).getD (a.toNat * 12 + o.toNat) 0≠-1) (h2:(fwD ls o a b).getD (o.toNat * 12 + b.toNat) 0≠-1) :
  nG (fwD ls o a b) a b ((fwD ls o a b).getD (a.toNat * 12 + o.toNat) 0 + (fwD ls o a b).getD (o.toNat * 12 + b.toNat) 0)=fwD ls o a (b + 1):=by
 rw [aHB o0 o1 a0 a1 b0 b1]
 unfold aC8
 rw [show (o.toNat * 144 + a.toNat * 12 + b.toNat) / 12 % 12=a.toNat by omega,show (o.toNat * 144 + a.toNat * 12 + b.toNat) / 144=o.toNat by omega,show (o.toNat * 144 + a.toNat * 12 + b.toNat) % 12=b.toNat by omega]
 unfold cell
 rw [show ((fwD ls o a b).getD (a.toNat * 12 + o.toNat) 0 != -1 && (fwD ls o a b).getD (o.toNat * 12 + b.toNat) 0 != -1)=true by simp only [Bool.and_eq_true,bne_iff_ne];exact ⟨h1,h2⟩,cond_true]
 unfold nG
 rw [Int.toNat_of_nonneg a0,Int.toNat_of_nonneg b0]
theorem aTu {ls:List Line} {o a b:Int} (o0:0≤o) (o1:o < 12) (a0:0≤a) (a1:a < 12) (b0:0≤b) (b1:b < 12)
  (h:(fwD ls o a b).getD (a.toNat * 12 + o.toNat) 0≠-1→(fwD ls o a b).getD (o.toNat * 12 + b.toNat) 0=-1):fwD ls o a b=fwD ls o a (b + 1):=by
 rw [aHB o0 o1 a0 a1 b0 b1]
 unfold aC8
 rw [show (o.toNat * 144 + a.toNat * 12 + b.toNat) / 12 % 12=a.toNat by omega,show (o.toNat * 144 + a.toNat * 12 + b.toNat) / 144=o.toNat by omega,show (o.toNat * 144 + a.toNat * 12 + b.toNat) % 12=b.toNat by omega]
 unfold cell
 rw [show ((fwD ls o a b).getD (a.toNat * 12 + o.toNat) 0 != -1 && (fwD ls o a b).getD (o.toNat * 12 + b.toNat) 0 != -1)=false by
  rw [Bool.and_eq_false_imp];intro g;rw [bne_iff_ne] at g;rw [h g];rfl,cond_false]
theorem aJP (cs:LC) (ns os:LB) (fs:List Off) (ls:List Line) (ks:List Cla):aC Tryz.prog G0 82 [net cs ns os fs ls ks] [] ⟨noP (cs,ns,os,fs,ls,ks),.av I (dM ls),[]⟩:=by
 refine aA (c:=mkc K13) aV3 cO hm (aHZ cs ns os fs ls ks ⟨rfl,fun hp=>?_⟩)
 obtain ⟨ok,hls⟩:=aHs cs ns os fs ls ks hp
 simp only [fA,D.and,Bool.true_and,eq_self,true_and,and_true,imp_self,implies_true,Bool.and_eq_true,Bool.and_eq_false_imp,Int.toNat_natCast,Nat.zero_add,Nat.mul_one,D.nil,D.ne,D.lt,D.ilen,D.ile,D.ilt,D.nle,D.nlt,D.sub,D.add,D.mul,D.nat,D.ofN,D.len,D.get,D.set,D.at2,decide_eq_true_eq,decide_eq_false_iff_not,bne_iff_ne,bne_eq_false_iff_eq]
 have z12:upN 0 12:=⟨by decide,by decide⟩
 refine ⟨⟨0,z12,rfl,aIH⟩,fun x ⟨x0,x1⟩=>⟨fun hx=>⟨⟨0,z12,rfl,by rw [Int.add_zero]⟩,fun y ⟨y0,y1⟩=>⟨fun hy=>⟨fun hne=>?_,fun he=>?_⟩,fun hy=>?_⟩⟩,fun hx=>?_⟩⟩
 ·have:=aAl (12 * x + y)
  and_intros
  all_goals try omega
  exact ⟨y + 1,⟨by omega,by omega⟩,⟨rfl,aKN x0 hx y0 hy hne⟩,by omega⟩
 ·subst he
  exact ⟨⟨by omega,by omega⟩,x + 1,⟨by omega,by omega⟩,⟨rfl,aII x0 hx⟩,by omega⟩
 ·have:y=12:=by omega
  subst this
  exact ⟨⟨by omega,by omega⟩,x + 1,⟨by omega,by omega⟩,⟨rfl,by congr 1;omega⟩,by omega⟩
 have ex:x=12:=by omega
 subst ex
 refine ⟨⟨0,⟨Int.le_refl _,Int.natCast_nonneg _⟩,rfl,aKO ls⟩,fun k ⟨k0,k1⟩=>⟨fun hk=>?_,fun hk=>?_⟩⟩
 ·have ho:=ok.at_ _ (getD_mem (l:=ls) (i:=k.toNat) (d:=(⟨#[]⟩,0,0,0,0,0)) (by omega))
  have hn:=ok.n12
  unfold dQ lTo at ho
  have e1:=aDv ls k
  refine ⟨k0,hk,⟨by omega,by omega,by omega,by omega,e1⟩,by rw [pO] <;> exact Nat.le_refl _,⟨by omega,by omega⟩,k + 1,⟨by omega,by omega⟩,⟨rfl,aGo k0 hk _⟩,by omega⟩
 refine ⟨⟨0,z12,rfl,aIz ls hk⟩,fun o ⟨o0,o1⟩=>⟨fun ho=>⟨⟨0,z12,rfl,rfl⟩,fun a ⟨a0,a1⟩=>⟨fun ha=>⟨⟨0,z12,rfl,rfl⟩,fun b ⟨b0,b1⟩=>⟨fun hb=>?_,fun hb=>?_⟩⟩,fun ha=>?_⟩⟩,fun ho=>?_⟩⟩
 ·have e1:=aCR ls o a b
  have bd1:=aFc ok (k:=(o * 144 + a * 12 + b).toNat) (by omega) (a:=a.toNat) (b:=o.toNat) (by omega) (by omega)
  have bd2:=aFc ok (k:=(o * 144 + a * 12 + b).toNat) (by omega) (a:=o.toNat) (b:=b.toNat) (by omega) (by omega)
  have bd1:-1≤(fwD ls o a b).getD (a.toNat * 12 + o.toNat) 0∧(fwD ls o a b).getD (a.toNat * 12 + o.toNat) 0≤20480000:=bd1
  have bd2:-1≤(fwD ls o a b).getD (o.toNat * 12 + b.toNat) 0∧(fwD ls o a b).getD (o.toNat * 12 + b.toNat) 0≤20480000:=bd2
  and_intros
  all_goals try (intros;omega)
  ·rintro ⟨h1,h2⟩
   have e2:=pO (fwD ls o a b) a b ((fwD ls o a b).getD (a.toNat * 12 + o.toNat) 0 + (fwD ls o a b).getD (o.toNat * 12 + b.toNat) 0)
   have e3:=aQ8 o0 ho a0 ha b0 hb h1 h2
   and_intros
   all_goals try omega
   exact ⟨b + 1,⟨by omega,by omega⟩,⟨rfl,e3⟩,by omega⟩
  ·intro h
   exact ⟨⟨by omega,by omega⟩,b + 1,⟨by omega,by omega⟩,⟨rfl,aTu o0 ho a0 ha b0 hb h⟩,by omega⟩
 ·have:b=12:=by omega
  subst this
  exact ⟨⟨by omega,by omega⟩,a + 1,⟨by omega,by omega⟩,⟨rfl,aQ9⟩,by omega⟩
 ·have:a=12:=by omega
  subst this
  exact ⟨⟨by omega,by omega⟩,o + 1,⟨by omega,by omega⟩,⟨rfl,aRa⟩,by omega⟩
 ·have:o=12:=by omega
  subst this
  have e1:=aCR ls 12 0 0
  have e2:(D.aIj 144 (0:Int)).length=144:=List.length_replicate
  and_intros
  all_goals try omega
  rfl
theorem aV2:aQ Tryz.prog G0 K14:=aJ (aG fun ((cs,ns,os,fs,ls,ks),_)=>aJP cs ns os fs ls ks) aV3
end Go.Eng.Sv
