/- PeInLk, PeInTk -/
import Derived.Test.YtlobbofhlcjlmaaGreatDoorH22
import Derived.Test.YtlobbofhlcjlmaaGreatDoorIn6k
import Derived.Test.YtlobbofhlcjlmaaGreatDoorTrDk
set_option linter.unusedSimpArgs false
set_option linter.unusedVariables false
set_option maxRecDepth 100000
noncomputable section
namespace Go.Eng.In
open Go.Proofs
def uV (l:List Int) (n:Nat):Prop:=l.length=n
def aJg:List Cal:=[(0,[true,true,true,true,true,true,true],[])]
def aJc:List ByteArray:=[⟨#[99]⟩]
def aJb:List ByteArray:=[⟨#[112]⟩]
def aJf:List Off:=[(⟨#[97]⟩,0,0,2,1,10,[]),(⟨#[98]⟩,0,0,2,1,10,[])]
def aJd:List Line:=[(⟨#[108]⟩,0,1,600,60,1),(⟨#[109]⟩,1,0,600,60,1)]
def aJe:List Cla:=[(⟨#[107]⟩,300,720)]
def exL:List Int:=[0,1,2,1,0,1,2,0,0,2,0,0,2]
theorem aUt  (hvc :
 let c1:=((0:Int),(0:Int),(2:Int),(1:Int),(10:Int),D.nil ByteArray);
 let c2:=((600:Int),(60:Int),(1:Int));true=true∧(True→1=1∧0=0∧1=1∧1=1∧0=0∧1=1∧1=1∧0=0∧1=1∧1=1∧0=0∧1
 = 1∧0=0∧1=1∧0=0∧1=1∧0=0∧[((0:Int),[true,true,true,true,true,true,true],D.nil Int)]=aJg∧[ByteArray.mk #[(99:UInt8)]] =
 aJc∧[ByteArray.mk #[(112:UInt8)]]=aJb∧[(ByteArray.mk #[(97:UInt8)],c1),(ByteArray.mk #[(98:UInt8)],c1)]=aJf∧[(ByteArray.mk #[(108 :
 UInt8)],(0:Int),(1:Int),c2),(ByteArray.mk #[(109:UInt8)],(1:Int),(0:Int),c2)]=aJd∧[(ByteArray.mk #[(107:UInt8)],(300:Int),(720 :
 Int))]=aJe∧[(0:Int),(1:Int),(2:Int),(1:Int),(0:Int),(1:Int),(2:Int),(0:Int),(0:Int),(2:Int),(0:Int),(0:Int),(2:Int)]
 = exL∧True)) :
  evF (mkc uZ) bF 18 [] [] ⟨True,.tup [.agg [.dat (.sl C) aJg,.dat (.sl S) aJc,.dat (.sl S) aJb,.dat (.sl Of) aJf,.dat (.sl Ln) aJd,.dat (.sl Kl) aJe],.dat R exL],[]⟩:=@of_eq _ _ (by kernel_rfl) hvc
def exK (args:List AV) (m:Mem):Option pF:=match args,m with
 | [],[]=>some ⟨True,.tup [.agg [.dat (.sl C) aJg,.dat (.sl S) aJc,.dat (.sl S) aJb,.dat (.sl Of) aJf,.dat (.sl Ln) aJd,.dat (.sl Kl) aJe],.dat R exL],[]⟩
 | _,_=>none
def slK (nm0:Nat) (args:List AV) (m:Mem):Option pF:=match args,m with
 | [.buf nm n],[(nm',.buf el (.int .i64) xs [])]=>if nm=nm0∧nm'=nm0∧el=3 then some ⟨uV xs n∧qA xs,.agg [.buf nm0 n,.dat I (bZ xs)],[]⟩ else none
 | _,_=>none
def aCO (a b:List AV→Mem→Option pF):List AV→Mem→Option pF:=fun args m=>match a args m with
 | some c=>some c
 | none=>b args m
def aOC:Kt:=kOr 18 exK <|
 kOr 6 (aCO (bD [.val R] (fun (l,_)=>qA l) fun (l,_)=>.agg [.dat R l,.dat I (bZ l)]) <| aCO (slK 0) <| aCO (slK 1) <| aCO (slK 2) (slK 3)) <|
 kOr 9 (bD [.row N,.row Ce] (fun (n,c,_)=>xJ c.1∧uH n) fun (n,c,_)=>.dat I (dD n c.1 c.2)) <|
 kOr 10 (bD [.row Ce] (fun (c,_)=>xJ c.1) fun (c,_)=>.tup [.agg [.dat I (mG c).1,.dat I (mG c).2.1,.dat M (mG c).2.2.1,.dat (.sl M) (mG c).2.2.2],.dat I (yR c)]) <|
 kOr 7 (bD [.row N,.row Ce] (fun _=>True) fun (n,c,_)=>.dat .bool (aHF n c.1)) uZ
theorem aPJ (nn:Nat) (l:List Int) (hvc :
 true=true∧(uV l nn∧qA l→qA l∧D.len l=nn∧D.len l=nn∧1=1∧0=0∧D.len l=nn∧1=1∧0=0∧nn=nn∧bZ l=bZ
 l∧l=l∧D.len l=D.len l∧True)) :
  evF (mkc uZ) bF 6 [.buf 0 nn] [(0,.buf 3 I l [])] ⟨uV l nn∧qA l,.agg [.buf 0 nn,.dat I (bZ l)],[]⟩:=@of_eq _ _ (by kernel_rfl) hvc
theorem aPI (nn:Nat) (l:List Int) (hvc :
 true=true∧(uV l nn∧qA l→qA l∧D.len l=nn∧D.len l=nn∧1=1∧0=0∧D.len l=nn∧1=1∧0=0∧nn=nn∧bZ l=bZ
 l∧l=l∧D.len l=D.len l∧True)) :
  evF (mkc uZ) bF 6 [.buf 1 nn] [(1,.buf 3 I l [])] ⟨uV l nn∧qA l,.agg [.buf 1 nn,.dat I (bZ l)],[]⟩:=@of_eq _ _ (by kernel_rfl) hvc
theorem aPH (nn:Nat) (l:List Int) (hvc :
 true=true∧(uV l nn∧qA l→qA l∧D.len l=nn∧D.len l=nn∧1=1∧0=0∧D.len l=nn∧1=1∧0=0∧nn=nn∧bZ l=bZ
 l∧l=l∧D.len l=D.len l∧True)) :
  evF (mkc uZ) bF 6 [.buf 2 nn] [(2,.buf 3 I l [])] ⟨uV l nn∧qA l,.agg [.buf 2 nn,.dat I (bZ l)],[]⟩:=@of_eq _ _ (by kernel_rfl) hvc
theorem aPG (nn:Nat) (l:List Int) (hvc :
 true=true∧(uV l nn∧qA l→qA l∧D.len l=nn∧D.len l=nn∧1=1∧0=0∧D.len l=nn∧1=1∧0=0∧nn=nn∧bZ l=bZ
 l∧l=l∧D.len l=D.len l∧True)) :
  evF (mkc uZ) bF 6 [.buf 3 nn] [(3,.buf 3 I l [])] ⟨uV l nn∧qA l,.agg [.buf 3 nn,.dat I (bZ l)],[]⟩:=@of_eq _ _ (by kernel_rfl) hvc
def hdA:Ann:=bF
theorem aPO  (hvc :
 let c1:=(aJg,aJc,aJb,aJf,aJd,aJe);
 let c2:=[(2:Int)];
 let c3:=(0:Int) :: (1:Int) :: (2:Int) :: (1:Int) :: (0:Int) :: (1:Int) :: (2:Int) :: (0:Int) :: (0:Int) :: (1:Int) :: (0:Int) :: (0 :
 Int) :: c2;
 let c4:=[(0:Int),(0:Int),(3:Int)];
 let c5:=(0:Int) :: (1:Int) :: (2:Int) :: (1:Int) :: (0:Int) :: (1:Int) :: (2:Int) :: (0:Int) :: (0:Int) :: (1:Int) :: c4;
 let c6:=(0:Int) :: (1:Int) :: (2:Int) :: (1:Int) :: (0:Int) :: (1:Int) :: (2:Int) :: (0:Int) :: (0:Int) :: (2:Int) :: c4;
 let c7:=D.add (bZ exL) (1:Int);
 let c8:=D.fE (0) (D.len exL);
 let c9:=D.app (D.nil Int) exL;
 let c10:=D.fE c8 (D.len c2);
 let c11:=D.app c9 c2;
 let c12:=(D.nil (Int×List Bool×List Int),D.nil ByteArray,D.nil ByteArray,D.nil (ByteArray×Int×Int×Int×Int×Int×List ByteArray),
 [(ByteArray.mk (D.nil UInt8).toArray,(0:Int),(0:Int),(0:Int),(0:Int),(0:Int))],D.nil (ByteArray×Int×Int));
 let c13:=D.part exL (0:Int) (8:Int);
 let c14:=D.eq (dD c1 exL (bZ exL)) (0:Int);
 let c15:=D.cnd c14 (D.eq (dD c1 c3 (bZ c3)) (0:Int)) false;
 let c16:=D.cnd c15 (D.eq (dD c1 c5 (bZ c5)) (190:Int)) false;
 let c17:=D.cnd c16 (D.eq (dD c1 c6 (bZ c6)) (0:Int)) false;
 let c18:=D.cnd c17 (D.eq (dD c1 exL c7) (180:Int)) false;
 let c19:=D.cnd c18 (D.eq (dD c1 c11 (bZ c11)) (190:Int)) false;
 let c20:=D.cnd c19 (D.eq (dD c12 exL (bZ exL)) (1:Int)) false;
 let c21:=(exL,bZ exL);
 let c22:=D.cnd c20 (D.eq (yR c21) (0:Int)) false;
 let c23:=mG c21;
 let c24:=c23.snd;
 let c25:=c24.snd;
 let c26:=(c23.fst,c24.fst,c25.fst,c25.snd);
 let c27:=[(-1:Int)];
 let c28:=D.cnd c22 (aFY c26 ((0:Int),(1:Int),[[(-1:Int),(0:Int)],(1:Int) :: c27],[[[(-1:Int),(1:Int)],(-1:Int) :: c27]])) false;true
 = true∧(True→True∧1=1∧0=0∧1=1∧0=0∧qA exL∧(xJ exL∧uH c1)∧1=1∧0=0∧qA c3∧(xJ c3∧uH c1)∧1=1∧0=0∧qA
 c5∧(xJ c5∧uH c1)∧1=1∧0=0∧qA c6∧(xJ c6∧uH c1)∧1=1∧0=0∧qA exL∧inR IntKind.i64 c7∧(xJ exL∧uH c1)∧1=1∧0=0
 ∧ D.len (D.nil Int)=0∧D.nle (D.nI c8 (8)) (140737488355328)∧D.nle c8 (9223372036854775807)∧D.len c9=c8∧D.nle (D.nI c10 (8)) (140737488355328) ∧
 D.nle c10 (9223372036854775807)∧(uV c11 c10∧qA c11)∧(xJ c11∧uH c1)∧D.len c11=c10∧qA exL∧(xJ exL∧uH c12)∧qA exL∧xJ exL
 ∧ 1=1∧0=0∧D.ile (0:Int) (0:Int)∧D.ile (0:Int) (8:Int)∧D.ile (8:Int) (D.ilen exL)∧qA c13∧xJ c13∧1=1∧0=0∧(c14=true →
 c14=true→c14=true)∧(D.and true c14=true→c14=true)∧(c15=true→c15=true→c15=true)∧(D.and true c15=true→c15=true)∧(c16=true →
 c16=true→c16=true)∧(D.and true c16=true→c16=true)∧(c17=true→c17=true→c17=true)∧(D.and true c17=true→c17=true)∧(c18=true →
 c18=true→c18=true)∧(D.and true c18=true→c18=true)∧(c19=true→c19=true→c19=true)∧(D.and true c19=true→c19=true)∧(c20=true →
 c20=true→c20=true)∧(D.and true c20=true→c20=true)∧(c22=true→1=1)∧(c22=true→0=0)∧(c22=true→c22=true→c22=true)∧(c22 =
 true→c22=true→c22=true)∧(c22=true→c22=true→c22=true)∧(c22=true→c22=true→c22=true)∧(c22=true→c22=true→c22=true) ∧
 (c22=true→c22=true→c22=true)∧(c22=true→c22=true→c22=true)∧(c22=true→c22=true→c22=true)∧(c22=true→c22=true→c22 =
 true)∧(c22=true→aDr c26)∧(D.and true c22=true→c22=true)∧(c28=true→c28=true→c28=true)∧(D.and true c28=true→c28=true)∧D.cnd
 c28 (D.eq (yR (c13,bZ c13)) (190:Int)) false=true∧True)) :
  evF { mkc aOC with mb:=fun t=>t == 42 } hdA 5 [] [] ⟨True,.dat .bool true,[]⟩:=@of_eq _ _ (by kernel_rfl) hvc
def KH:Kt:=kOr 5 (bD [] (fun _=>True) fun _=>.dat .bool true) aOC
theorem xO {P:Program} {G:List (Nat×AV)} {f:FuncId} {a b:List AV→Mem→Option pF} (ha:∀ args m c,a args m=some c→aC P G f args m c) (hb:∀ args m c,b args m=some c→aC P G f args m c):∀ args m c,aCO a b args m=some c→aC P G f args m c:=by
 intro args m c h
 unfold aCO at h
 split at h
 ·rename_i e;cases h;exact ha _ _ _ e
 ·exact hb _ _ _ h
theorem aWb:aC Tryz.prog fC 18 [] [] ⟨True,.tup [.agg [.dat (.sl C) aJg,.dat (.sl S) aJc,.dat (.sl S) aJb,.dat (.sl Of) aJf,.dat (.sl Ln) aJd,.dat (.sl Kl) aJe],.dat R exL],[]⟩:=by
 refine aA (c:=mkc uZ) aPl cO hm (aUt ⟨rfl,fun _=>?_⟩)
 simp only [eq_self,true_and,and_true,D.nil]
 exact ⟨rfl,rfl,rfl,rfl,rfl,rfl,rfl⟩
theorem aTx:∀ args m c,exK args m=some c→aC Tryz.prog fC 18 args m c:=by
 intro args m c h
 unfold exK at h
 split at h
 ·cases h;exact aWb
 ·cases h
theorem aG7 {nm0:Nat} (h0:∀ (nn:Nat) (l:List Int),aC Tryz.prog fC 6 [.buf nm0 nn] [(nm0,.buf 3 I l [])] ⟨uV l nn∧qA l,.agg [.buf nm0 nn,.dat I (bZ l)],[]⟩):∀ args m c,slK nm0 args m=some c→aC Tryz.prog fC 6 args m c:=by
 intro args m c h
 unfold slK at h
 split at h
 ·split at h
  ·rename_i e
   obtain ⟨rfl,rfl,rfl⟩:=e
   cases h
   exact h0 _ _
  ·cases h
 ·cases h
theorem aSS (nn:Nat) (l:List Int):aC Tryz.prog fC 6 [.buf 0 nn] [(0,.buf 3 I l [])] ⟨uV l nn∧qA l,.agg [.buf 0 nn,.dat I (bZ l)],[]⟩:=by
 refine aA (c:=mkc uZ) aPl cO hm (aPJ nn l ⟨rfl,fun hp=>?_⟩)
 simp only [eq_self,true_and,and_true,D.len]
 exact ⟨hp.2,hp.1,hp.1,hp.1⟩
theorem aSR (nn:Nat) (l:List Int):aC Tryz.prog fC 6 [.buf 1 nn] [(1,.buf 3 I l [])] ⟨uV l nn∧qA l,.agg [.buf 1 nn,.dat I (bZ l)],[]⟩:=by
 refine aA (c:=mkc uZ) aPl cO hm (aPI nn l ⟨rfl,fun hp=>?_⟩)
 simp only [eq_self,true_and,and_true,D.len]
 exact ⟨hp.2,hp.1,hp.1,hp.1⟩
theorem aSQ (nn:Nat) (l:List Int):aC Tryz.prog fC 6 [.buf 2 nn] [(2,.buf 3 I l [])] ⟨uV l nn∧qA l,.agg [.buf 2 nn,.dat I (bZ l)],[]⟩:=by
 refine aA (c:=mkc uZ) aPl cO hm (aPH nn l ⟨rfl,fun hp=>?_⟩)
 simp only [eq_self,true_and,and_true,D.len]
 exact ⟨hp.2,hp.1,hp.1,hp.1⟩
theorem aSP (nn:Nat) (l:List Int):aC Tryz.prog fC 6 [.buf 3 nn] [(3,.buf 3 I l [])] ⟨uV l nn∧qA l,.agg [.buf 3 nn,.dat I (bZ l)],[]⟩:=by
 refine aA (c:=mkc uZ) aPl cO hm (aPG nn l ⟨rfl,fun hp=>?_⟩)
 simp only [eq_self,true_and,and_true,D.len]
 exact ⟨hp.2,hp.1,hp.1,hp.1⟩
theorem aPk:aQ Tryz.prog fC aOC:=aJ aTx <| aJ (xO (aG fun (l,_)=>aQc l) <| xO (aG7 aSS) <| xO (aG7 aSR) <| xO (aG7 aSQ) (aG7 aSP)) <|
 aJ (aG fun ((cs,ns,os,fs,ls,ks),c,_)=>aQj c.2 c.1 cs ns os fs ls ks) <| aJ (aG fun (c,_)=>aS1 c.2 c.1) <| aJ (aG fun ((cs,ns,os,fs,ls,ks),c,_)=>aMV c.2 c.1 cs ns os fs ls ks) aPl
theorem aSW:aC Tryz.prog fC 5 [] [] ⟨True,.dat .bool true,[]⟩:=by
 refine aA (c:={ mkc aOC with mb:=fun t=>t == 42 }) aPk cO hm (aPO ⟨rfl,fun _=>?_⟩)
 simp only [gQ,D.and,Bool.true_and,eq_self,true_and,and_true,imp_self,implies_true,Bool.and_eq_true,Nat.zero_add,D.nil,D.eq,D.ilen,D.ile,D.nle,D.add,D.len,D.fE,D.nI,D.app,D.part,beq_iff_eq]
 have hN:uH (aJg,aJc,aJb,aJf,aJd,aJe):=by unfold uH;decide
 have hN2:uH ([],[],[],[],[(⟨#[]⟩,0,0,0,0,0)],[]):=by unfold uH;decide
 have hL:∀ l:List Int,l.length≤100→xJ l:=fun l h=>by show l.length≤2000000000000000;omega
 have hS:∀ l:List Int,l.length≤100→qA l:=fun l h=>by show l.length≤9223372036854775807;omega
 have e1:dD (aJg,aJc,aJb,aJf,aJd,aJe) exL (bZ exL)=0:=by decide +kernel
 have e2:dD (aJg,aJc,aJb,aJf,aJd,aJe) [0,1,2,1,0,1,2,0,0,1,0,0,2] (bZ [0,1,2,1,0,1,2,0,0,1,0,0,2])=0:=by decide +kernel
 have e3:dD (aJg,aJc,aJb,aJf,aJd,aJe) [0,1,2,1,0,1,2,0,0,1,0,0,3] (bZ [0,1,2,1,0,1,2,0,0,1,0,0,3])=190:=by decide +kernel
 have e4:dD (aJg,aJc,aJb,aJf,aJd,aJe) [0,1,2,1,0,1,2,0,0,2,0,0,3] (bZ [0,1,2,1,0,1,2,0,0,2,0,0,3])=0:=by decide +kernel
 have e5:dD (aJg,aJc,aJb,aJf,aJd,aJe) exL (bZ exL + 1)=180:=by decide +kernel
 have e6:dD (aJg,aJc,aJb,aJf,aJd,aJe) ([] ++ exL ++ [2]) (bZ ([] ++ exL ++ [2]))=190:=by decide +kernel
 have e7:dD ([],[],[],[],[(⟨#[]⟩,0,0,0,0,0)],[]) exL (bZ exL)=1:=by decide +kernel
 have e8:yR (exL,bZ exL)=0:=by decide +kernel
 have e9:((mG (exL,bZ exL)).fst,(mG (exL,bZ exL)).snd.fst,(mG (exL,bZ exL)).snd.snd.fst,(mG (exL,bZ exL)).snd.snd.snd)=((0,1,[[-1,0],[1,-1]],[[[-1,1],[-1,-1]]]):Plan):=by decide +kernel
 have e10:yR (List.drop (Int.toNat 0) (List.take (Int.toNat 8) exL),bZ (List.drop (Int.toNat 0) (List.take (Int.toNat 8) exL)))=190:=by decide +kernel
 have e11:inR .i64 (bZ exL + 1):=by
  have:=aH9 (rl exL)
  unfold bZ
  exact aN (by omega)
 have hM:aDr ((0,1,[[-1,0],[1,-1]],[[[-1,1],[-1,-1]]]):Plan):=by unfold aDr aGi xB;decide
 have lL:exL.length=13:=rfl
 simp only [e1,e2,e3,e4,e5,e6,e7,e8,e9,e10,uV]
 and_intros
 all_goals first
  | exact hN
  | exact hN2
  | exact e11
  | exact fun _=>hM
  | exact hL _ (by decide)
  | exact hS _ (by decide)
  | decide
  | trace_state
theorem KHs:aQ Tryz.prog fC KH:=aJ (aG fun _=>aSW) aPk
end Go.Eng.In

set_option maxRecDepth 100000
namespace Go.Eng.In
open Go.Proofs
theorem aQU {l:List Int} (h:l.length≤2000000):xJ l:=by show l.length≤2000000000000000;omega
theorem aQG {l:List Int} (h:nK l=true):rl l=l:=by
 unfold rl
 conv=>rhs;rw [← List.map_id l]
 refine List.map_congr_left fun x hx=>?_
 have:=gK.1 h x hx
 show x % 65521=x
 omega
theorem aIa {l:List Int} (h:nK l=true):bZ l=zX l:=by unfold bZ;rw [aQG h]
theorem aCw {l:List Int} (h:nK l=true):fP l (bZ l)=true:=by
 unfold fP
 rw [h,aIa h];simp
theorem aJ1 {l:List Int} {s:Int} (h:fP l s=true):nK l=true∧s=zX l:=by
 unfold fP at h
 rwa [Bool.and_eq_true,decide_eq_true_eq] at h
structure Acc (n:Net) (l:List Int):Prop where
 ins:nK l=true
 pl:uD l=true
 us:usF n=true
 fit:aDG n (aI l)=true
 len:l.length≤40000
 run:aAt n (aI l) (dP l)=some []
theorem aRu {n:Net} {l:List Int}:dD n l (bZ l)=0↔Acc n l:=by
 constructor
 ·intro h
  unfold dD at h
  split at h
  case isFalse=>unfold aAw at h;split at h <;> omega
  rename_i h1
  split at h
  case isFalse=>omega
  rename_i h2
  split at h
  case isFalse=>omega
  rename_i h3
  unfold aT1 at h
  split at h
  case isFalse=>omega
  rename_i h4
  unfold jX at h1
  rw [Bool.and_eq_true] at h1
  unfold sJ aEp at h3
  rw [Bool.and_eq_true,decide_eq_true_eq] at h3
  exact ⟨(aJ1 h1.1).1,h1.2,h2,h3.1,h3.2,h4⟩
 ·rintro ⟨h1,h2,h3,h4,h5,h6⟩
  unfold dD
  rw [if_pos (by unfold jX;rw [aCw h1];exact h2),if_pos h3,if_pos (by unfold sJ aEp;rw [h4,decide_eq_true h5];rfl)]
  unfold aT1
  rw [if_pos h6]
theorem one_app {xs:List Int} (z:List Int) (h:bW xs=true):bW (xs ++ z)=true∧hd (xs ++ z)=hd xs∧tl (xs ++ z)=tl xs ++ z:=by
 have h:=of_decide_eq_true h
 cases xs with
 | nil=>exact absurd h (by simp)
 | cons x r=>exact ⟨by unfold bW;simp,rfl,rfl⟩
theorem aN1 {n:Net} {p:Plan} {d:Int} (z:List Int):∀ (f:Nat) {o t:Int} {xs:List Int},(qZ n p d f o t xs).1=true→qZ n p d f o t (xs ++ z)=(true,(qZ n p d f o t xs).2.1,(qZ n p d f o t xs).2.2 ++ z)
 | 0,o,t,xs,h=>by
  have h:decide (o=d)=true:=h
  show (decide (o=d),t,xs ++ z)=_
  rw [h];rfl
 | f + 1,o,t,xs,h=>by
  have e:∀ ys:List Int,qZ n p d (f + 1) o t ys=if o=d then (true,t,ys) else if cellAt p o d=-1 then (false,t,ys) else if bW ys=false then (false,t,ys) else
   if iQ n o (cellAt p o d) p (hd ys) t=true then qZ n p d f (bI n (cellAt p o d)).2.2.1 (qR (aB n o).1 (hd ys - 2 + p.1) (bI n (cellAt p o d)).2.2.2.1 + (bI n (cellAt p o d)).2.2.2.2.1) (tl ys) else (false,t,tl ys):=fun ys=>rfl
  rw [e] at h
  rw [e,e]
  by_cases h1:o=d
  ·rw [if_pos h1,if_pos h1]
  rw [if_neg h1] at h
  rw [if_neg h1,if_neg h1]
  by_cases h2:cellAt p o d=-1
  ·rw [if_pos h2] at h;cases h
  rw [if_neg h2] at h
  rw [if_neg h2,if_neg h2]
  by_cases h3:bW xs=false
  ·rw [if_pos h3] at h;cases h
  rw [if_neg h3] at h
  obtain ⟨a1,a2,a3⟩:=one_app z (by simpa using h3)
  rw [if_neg h3,if_neg (by rw [a1];exact Bool.noConfusion),a2,a3]
  by_cases h4:iQ n o (cellAt p o d) p (hd xs) t=true
  ·rw [if_pos h4] at h
   rw [if_pos h4,if_pos h4]
   exact aN1 z f h
  ·rw [if_neg h4] at h;cases h
theorem aKd {f g:Nat→List Int→Option (List Int)} (z:List Int) (hfg:∀ i xs ys,f i xs=some ys→g i (xs ++ z)=some (ys ++ z)):∀ (m:Nat) {xs ys:List Int},runN f m xs=some ys→runN g m (xs ++ z)=some (ys ++ z)
 | 0,_,_,h=>by cases h;rfl
 | m + 1,xs,ys,h=>by
  rw [runN] at h ⊢
  obtain ⟨us,h1,h2⟩:=Option.bind_eq_some_iff.1 h
  rw [aKd z hfg m h1]
  exact hfg _ _ _ h2
noncomputable def pos (m k o d:Int):Int:=4 + m * m + k * (m * m) + (o * m + d)
theorem aK3 {n:Net} {p p':Plan} (h1:p'.1=p.1) (h3:p'.2.2.1=p.2.2.1) {d:Int}:∀ (f:Nat) (o t:Int) (xs:List Int),qZ n p' d f o t xs=qZ n p d f o t xs
 | 0,_,_,_=>rfl
 | f + 1,o,t,xs=>by
  have e:∀ p:Plan,qZ n p d (f + 1) o t xs=if o=d then (true,t,xs) else if cellAt p o d=-1 then (false,t,xs) else if bW xs=false then (false,t,xs) else
   if iQ n o (cellAt p o d) p (hd xs) t=true then qZ n p d f (bI n (cellAt p o d)).2.2.1 (qR (aB n o).1 (hd xs - 2 + p.1) (bI n (cellAt p o d)).2.2.2.1 + (bI n (cellAt p o d)).2.2.2.2.1) (tl xs) else (false,t,tl xs):=fun p=>rfl
  have ec:cellAt p' o d=cellAt p o d:=by unfold cellAt;rw [h3]
  have eo:∀ c x,iQ n o c p' x t=iQ n o c p x t:=fun c x=>by unfold iQ;rw [h1]
  rw [e,e,ec,eo,h1,aK3 h1 h3 f]
theorem aQD {f g:Nat→List Int→Option (List Int)}:∀ (m:Nat) (hfg:∀ i,i < m→∀ xs ys,f i xs=some ys→g i xs=some ys) {xs ys:List Int},runN f m xs=some ys→runN g m xs=some ys
 | 0,_,_,_,h=>h
 | m + 1,hfg,xs,ys,h=>by
  rw [runN] at h ⊢
  obtain ⟨us,h1,h2⟩:=Option.bind_eq_some_iff.1 h
  rw [aQD m (fun i hi=>hfg i (by omega)) h1]
  exact hfg _ (by omega) _ _ h2
theorem aNk {f:Nat→List Int→Option (List Int)} (hf:∀ i xs ys,f i xs=some ys→ys=xs):∀ (m:Nat) {xs ys:List Int},runN f m xs=some ys→ys=xs
 | 0,_,_,h=>by cases h;rfl
 | m + 1,xs,ys,h=>by
  rw [runN] at h
  obtain ⟨us,h1,h2⟩:=Option.bind_eq_some_iff.1 h
  rw [hf _ _ _ h2,aNk hf m h1]
end Go.Eng.In

set_option maxRecDepth 100000
namespace Go.Eng.In
open Go.Proofs
theorem aIs {w:List Bool} {h:List Int} {d x:Int} (he:Sv.mX w h d=0) (h1:d≤x) (h2:wkF w h x=true):Sv.mM w h d≤x:=by
 by_cases hx:d + 60≤x
 ·have:=(Sv.wY he).2.1;omega
 ·have hm:x ∈ Sv.jF w h d 60:=by
   unfold Sv.jF
   exact List.mem_filter.2 ⟨List.mem_map.2 ⟨(x - d).toNat,List.mem_range.2 (by omega),by omega⟩,h2⟩
  have hp:(Sv.jF w h d 60).Pairwise (· < ·):=by
   unfold Sv.jF
   exact List.Pairwise.filter _ (List.pairwise_map.2 (List.pairwise_lt_range.imp fun h=>by omega))
  unfold Sv.mM Sv.rY
  cases hl:Sv.jF w h d 60 with
  | nil=>rw [hl] at hm;cases hm
  | cons y tl =>
   rw [hl] at hm hp
   show y≤x
   rcases List.mem_cons.1 hm with rfl | hm
   ·exact Int.le_refl _
   ·exact Int.le_of_lt ((List.pairwise_cons.1 hp).1 x hm)
theorem aFd {c:Cal} {m t D:Int} (m1:m≤1439) (he:Sv.zB c m t=0) (hw:wkF c.2.1 c.2.2 D=true) (ht:t≤qR c.1 D m):Sv.nS c m t≤qR c.1 D m:=by
 have e1:Sv.nS c m t=Sv.wE c.1 (Sv.mM c.2.1 c.2.2 (Sv.d0F c m t)) m:=if_pos he
 have hd:Sv.d0F c m t≤D:=by
  unfold qR at ht
  unfold Sv.d0F Sv.nT Sv.aLU
  split <;> omega
 have:=aIs he hd hw
 rw [e1]
 unfold Sv.wE qR
 omega
theorem aPt {n:Net} {p:Plan} {d:Int} (hu:usP n) (hpl:plP n p) (hdd:mJ n d):∀ (f k:Nat) (o t t':Int) (xs:List Int),mJ n o→(qZ n p d f o t' xs).1=true→t≤t'→(Sv.nC n p.2.2.1 d k o t).2=0 →
  ∃ s,(Sv.nC n p.2.2.1 d k o t).1.getLast?=some s∧s.2.1≤(qZ n p d f o t' xs).2.1
 | f,k,o,t,t',xs,ho,h1,ht,h2=>by
  by_cases h0:o=d
  ·rw [Sv.aCl k h0]
   refine ⟨(o,t,-1,-1),rfl,?_⟩
   cases f with
   | zero=>exact ht
   | succ f=>unfold qZ;rw [if_pos h0];exact ht
  cases f with
  | zero=>exact absurd (of_decide_eq_true h1) h0
  | succ f =>
   have e:qZ n p d (f + 1) o t' xs=if o=d then (true,t',xs) else if cellAt p o d=-1 then (false,t',xs) else if bW xs=false then (false,t',xs) else
    if iQ n o (cellAt p o d) p (hd xs) t'=true then qZ n p d f (bI n (cellAt p o d)).2.2.1 (qR (aB n o).1 (hd xs - 2 + p.1) (bI n (cellAt p o d)).2.2.2.1 + (bI n (cellAt p o d)).2.2.2.2.1) (tl xs) else (false,t',tl xs):=rfl
   rw [e] at h1 ⊢
   rw [if_neg h0] at h1 ⊢
   by_cases h3:cellAt p o d=-1
   ·rw [if_pos h3] at h1;cases h1
   rw [if_neg h3] at h1 ⊢
   by_cases h4:bW xs=false
   ·rw [if_pos h4] at h1;cases h1
   rw [if_neg h4] at h1 ⊢
   by_cases h5:iQ n o (cellAt p o d) p (hd xs) t'=true
   case neg=>rw [if_neg h5] at h1;cases h1
   rw [if_pos h5] at h1 ⊢
   obtain ⟨g1,g2⟩:=hpl.2.2.1 o d ho hdd
   have g3:cellAt p o d < n.2.2.2.2.1.length∧(bI n (cellAt p o d)).2.1=o:=by
    unfold lW at g1
    rw [decide_eq_false h3,Bool.false_or,Bool.and_eq_true,decide_eq_true_eq,decide_eq_true_eq] at g1
    exact g1
   obtain ⟨_,lo,⟨m0,m1⟩,_⟩:=aJB hu (by omega:0≤cellAt p o d) g3.1
   have h3':Sv.nxt p.2.2.1 o d≠-1:=h3
   have en:Sv.nxt p.2.2.1 o d=cellAt p o d:=rfl
   by_cases h6:Sv.aAM n (Sv.nxt p.2.2.1 o d) (Sv.aK n o t)=0
   case neg=>rw [Sv.vK k h0 h3' h6] at h2;exact absurd h2 h6
   cases k with
   | zero=>rw [Sv.tK h0 h3' h6] at h2;cases h2
   | succ k =>
    rw [Sv.tJ k h0 h3' h6] at h2 ⊢
    generalize hr:Sv.nC n p.2.2.1 d k (Sv.aAy n (Sv.nxt p.2.2.1 o d)) (Sv.rC n (Sv.nxt p.2.2.1 o d) (Sv.aK n o t) + Sv.iC n (Sv.nxt p.2.2.1 o d))=r at h2 ⊢
    unfold Sv.aFK at h2 ⊢
    by_cases h7:r.2=0
    case neg=>rw [if_neg h7] at h2;exact absurd h2 h7
    rw [if_pos h7]
    unfold iQ at h5
    rw [Bool.and_eq_true,decide_eq_true_eq] at h5
    obtain ⟨w1,w2⟩:=h5
    have ok:Sv.rG (Sv.aK n o t)=true:=by
     cases hk:Sv.rG (Sv.aK n o t) with
     | true=>rfl
     | false=>unfold Sv.aAM at h6;rw [hk] at h6;cases h6
    have eF:Sv.jE n (Sv.nxt p.2.2.1 o d)=o:=g3.2
    have eE:Sv.aAM n (Sv.nxt p.2.2.1 o d) (Sv.aK n o t)=Sv.zB (aB n o) (bI n (cellAt p o d)).2.2.2.1 (Sv.aK n o t):=by
     unfold Sv.aAM
     rw [if_pos ok,eF];rfl
    have eD:Sv.rC n (Sv.nxt p.2.2.1 o d) (Sv.aK n o t)=Sv.nS (aB n o) (bI n (cellAt p o d)).2.2.2.1 (Sv.aK n o t):=by
     unfold Sv.rC
     rw [if_pos ok,eF];rfl
    rw [eE] at h6
    have hrd:Sv.aK n o t≤tZ n o t':=by
     show t + _≤t' + _
     exact Int.add_le_add_right ht _
    have hdep:=aFd m1 h6 w1 (by omega)
    rw [← eD] at hdep
    obtain ⟨s,s1,s2⟩:=aPt hu hpl hdd f k _ (Sv.rC n (Sv.nxt p.2.2.1 o d) (Sv.aK n o t) + Sv.iC n (Sv.nxt p.2.2.1 o d)) _ (tl xs) lo h1 (by
     have e9:Sv.iC n (Sv.nxt p.2.2.1 o d)=(bI n (cellAt p o d)).2.2.2.2.1:=rfl
     rw [e9]
     exact Int.add_le_add_right hdep _) (by
     have e8:(bI n (cellAt p o d)).2.2.1=Sv.aAy n (Sv.nxt p.2.2.1 o d):=rfl
     rw [e8,hr];exact h7)
    have e8:(bI n (cellAt p o d)).2.2.1=Sv.aAy n (Sv.nxt p.2.2.1 o d):=rfl
    rw [e8,hr] at s1
    refine ⟨s,?_,s2⟩
    show ([_] ++ r.1).getLast?=_
    rw [List.getLast?_append,s1];rfl
theorem aL3 {w:List Bool} {h:List Int} {a b c:Int} (h1:a≤b + 1) (h2:b≤c):iG w h a c=iG w h a b ++ iG w h (b + 1) c:=by
 unfold iG
 rw [show (c + 1 - a).toNat=(b + 1 - a).toNat + (c + 1 - (b + 1)).toNat by omega,List.range_add,List.map_append,List.filter_append,List.map_map]
 congr 2
 refine List.map_congr_left fun i _=>?_
 show a + ((_ + i:Nat):Int)=_
 omega
theorem aPs {w:List Bool} {h:List Int} {a b x:Int} (h1:a≤x) (h2:x≤b) (hw:wkF w h x=true):x ∈ iG w h a b:=by
 unfold iG
 exact List.mem_filter.2 ⟨List.mem_map.2 ⟨(x - a).toNat,List.mem_range.2 (by omega),by omega⟩,hw⟩
theorem add_lt {w:List Bool} {h:List Int} {D:Int} (hw:wkF w h D=true):∀ (k:Nat) {B e:Int},Sv.aTK w h k B=some e→e < D→k + 1≤(iG w h (B + 1) D).length
 | 0,B,e,g,hlt=>by
  cases g
  exact List.length_pos_of_mem (aPs (by omega) (Int.le_refl _) hw)
 | k + 1,B,e,g,hlt=>by
  unfold Sv.aTK at g
  obtain ⟨y,g1,g2⟩:=Option.bind_eq_some_iff.1 g
  have hm:y ∈ Sv.jF w h (B + 1) 60:=List.mem_of_mem_head? (by unfold Sv.rY at g1;rw [g1];rfl)
  obtain ⟨y1,y2,y3⟩:=Sv.aBz hm
  have hb:=Sv.aLE k g2
  have ih:=add_lt hw k g2 hlt
  rw [aL3 (b:=y) (by omega) (by omega),List.length_append]
  have:=List.length_pos_of_mem (aPs (a:=B + 1) (b:=y) y1 (Int.le_refl _) y3)
  omega
theorem aTc {f:Nat→List Int→Option (List Int)}:∀ (m:Nat) {xs ys:List Int},runN f m xs=some ys→∀ i,i < m→∃ u v,f i u=some v
 | 0,_,_,_,i,hi=>by omega
 | m + 1,xs,ys,h,i,hi=>by
  rw [runN] at h
  obtain ⟨us,h1,h2⟩:=Option.bind_eq_some_iff.1 h
  rcases Nat.lt_or_ge i m with g | g
  ·exact aTc m h1 i g
  ·have:i=m:=by omega
   subst this
   exact ⟨_,_,h2⟩
end Go.Eng.In
