/- PeIn7j -/
import Derived.Test.YtlobbofhlcjlmaaGreatDoorZ22
import Derived.Test.YtlobbofhlcjlmaaGreatDoorIn6j
set_option linter.unusedSimpArgs false
set_option linter.unusedVariables false
set_option maxRecDepth 100000
noncomputable section
namespace Go.Eng.In
open Go.Proofs
def lenIs (l:List Int) (n:Nat):Prop:=l.length=n
def exCs:List Cal:=[(0,[true,true,true,true,true,true,true],[])]
def exNs:List ByteArray:=[⟨#[99]⟩]
def exOs:List ByteArray:=[⟨#[112]⟩]
def exFs:List Off:=[(⟨#[97]⟩,0,0,2,1,10,[]),(⟨#[98]⟩,0,0,2,1,10,[])]
def exLs:List Line:=[(⟨#[108]⟩,0,1,600,60,1),(⟨#[109]⟩,1,0,600,60,1)]
def exKs:List Cla:=[(⟨#[107]⟩,300,720)]
def exL:List Int:=[0,1,2,1,0,1,2,0,0,2,0,0,2]
theorem vc_ex  (hvc :
 let c1:=((0:Int),(0:Int),(2:Int),(1:Int),(10:Int),D.nil ByteArray);
 let c2:=((600:Int),(60:Int),(1:Int));true=true∧(True→1=1∧0=0∧1=1∧1=1∧0=0∧1=1∧1=1∧0=0∧1=1∧1=1∧0=0∧1
 = 1∧0=0∧1=1∧0=0∧1=1∧0=0∧[((0:Int),[true,true,true,true,true,true,true],D.nil Int)]=exCs∧[ByteArray.mk #[(99:UInt8)]] =
 exNs∧[ByteArray.mk #[(112:UInt8)]]=exOs∧[(ByteArray.mk #[(97:UInt8)],c1),(ByteArray.mk #[(98:UInt8)],c1)]=exFs∧[(ByteArray.mk #[(108 :
 UInt8)],(0:Int),(1:Int),c2),(ByteArray.mk #[(109:UInt8)],(1:Int),(0:Int),c2)]=exLs∧[(ByteArray.mk #[(107:UInt8)],(300:Int),(720 :
 Int))]=exKs∧[(0:Int),(1:Int),(2:Int),(1:Int),(0:Int),(1:Int),(2:Int),(0:Int),(0:Int),(2:Int),(0:Int),(0:Int),(2:Int)]
 = exL∧True)) :
  evF (mkc K18) noAnn 18 [] [] ⟨True,.tup [.agg [.dat (.sl C) exCs,.dat (.sl S) exNs,.dat (.sl S) exOs,.dat (.sl Of) exFs,.dat (.sl Ln) exLs,.dat (.sl Kl) exKs],.dat R exL],[]⟩:=@of_eq _ _ (by kernel_rfl) hvc
def exK (args:List AV) (m:Mem):Option CRes:=match args,m with
 | [],[]=>some ⟨True,.tup [.agg [.dat (.sl C) exCs,.dat (.sl S) exNs,.dat (.sl S) exOs,.dat (.sl Of) exFs,.dat (.sl Ln) exLs,.dat (.sl Kl) exKs],.dat R exL],[]⟩
 | _,_=>none
def slK (nm0:Nat) (args:List AV) (m:Mem):Option CRes:=match args,m with
 | [.buf nm n],[(nm',.buf el (.int .i64) xs [])]=>if nm=nm0∧nm'=nm0∧el=3 then some ⟨lenIs xs n∧limS xs,.agg [.buf nm0 n,.dat I (sealG xs)],[]⟩ else none
 | _,_=>none
def kAlt (a b:List AV→Mem→Option CRes):List AV→Mem→Option CRes:=fun args m=>match a args m with
 | some c=>some c
 | none=>b args m
def K19:Kt:=kOr 18 exK <|
 kOr 6 (kAlt (dataK [.val R] (fun (l,_)=>limS l) fun (l,_)=>.agg [.dat R l,.dat I (sealG l)]) <| kAlt (slK 0) <| kAlt (slK 1) <| kAlt (slK 2) (slK 3)) <|
 kOr 9 (dataK [.row N,.row Ce] (fun (n,c,_)=>limI c.1∧netP n) fun (n,c,_)=>.dat I (checkF n c.1 c.2)) <|
 kOr 10 (dataK [.row Ce] (fun (c,_)=>limI c.1) fun (c,_)=>.tup [.agg [.dat I (openR c).1,.dat I (openR c).2.1,.dat M (openR c).2.2.1,.dat (.sl M) (openR c).2.2.2],.dat I (openC c)]) <|
 kOr 7 (dataK [.row N,.row Ce] (fun _=>True) fun (n,c,_)=>.dat .bool (fewAll n c.1)) K18
theorem vc_lsb0 (nn:Nat) (l:List Int) (hvc :
 true=true∧(lenIs l nn∧limS l→limS l∧D.len l=nn∧D.len l=nn∧1=1∧0=0∧D.len l=nn∧1=1∧0=0∧nn=nn∧sealG l=sealG
 l∧l=l∧D.len l=D.len l∧True)) :
  evF (mkc K18) noAnn 6 [.buf 0 nn] [(0,.buf 3 I l [])] ⟨lenIs l nn∧limS l,.agg [.buf 0 nn,.dat I (sealG l)],[]⟩:=@of_eq _ _ (by kernel_rfl) hvc
theorem vc_lsb1 (nn:Nat) (l:List Int) (hvc :
 true=true∧(lenIs l nn∧limS l→limS l∧D.len l=nn∧D.len l=nn∧1=1∧0=0∧D.len l=nn∧1=1∧0=0∧nn=nn∧sealG l=sealG
 l∧l=l∧D.len l=D.len l∧True)) :
  evF (mkc K18) noAnn 6 [.buf 1 nn] [(1,.buf 3 I l [])] ⟨lenIs l nn∧limS l,.agg [.buf 1 nn,.dat I (sealG l)],[]⟩:=@of_eq _ _ (by kernel_rfl) hvc
theorem vc_lsb2 (nn:Nat) (l:List Int) (hvc :
 true=true∧(lenIs l nn∧limS l→limS l∧D.len l=nn∧D.len l=nn∧1=1∧0=0∧D.len l=nn∧1=1∧0=0∧nn=nn∧sealG l=sealG
 l∧l=l∧D.len l=D.len l∧True)) :
  evF (mkc K18) noAnn 6 [.buf 2 nn] [(2,.buf 3 I l [])] ⟨lenIs l nn∧limS l,.agg [.buf 2 nn,.dat I (sealG l)],[]⟩:=@of_eq _ _ (by kernel_rfl) hvc
theorem vc_lsb3 (nn:Nat) (l:List Int) (hvc :
 true=true∧(lenIs l nn∧limS l→limS l∧D.len l=nn∧D.len l=nn∧1=1∧0=0∧D.len l=nn∧1=1∧0=0∧nn=nn∧sealG l=sealG
 l∧l=l∧D.len l=D.len l∧True)) :
  evF (mkc K18) noAnn 6 [.buf 3 nn] [(3,.buf 3 I l [])] ⟨lenIs l nn∧limS l,.agg [.buf 3 nn,.dat I (sealG l)],[]⟩:=@of_eq _ _ (by kernel_rfl) hvc
def hdA:Ann:=noAnn
theorem vc_head  (hvc :
 let c1:=(exCs,exNs,exOs,exFs,exLs,exKs);
 let c2:=[(2:Int)];
 let c3:=(0:Int) :: (1:Int) :: (2:Int) :: (1:Int) :: (0:Int) :: (1:Int) :: (2:Int) :: (0:Int) :: (0:Int) :: (1:Int) :: (0:Int) :: (0 :
 Int) :: c2;
 let c4:=[(0:Int),(0:Int),(3:Int)];
 let c5:=(0:Int) :: (1:Int) :: (2:Int) :: (1:Int) :: (0:Int) :: (1:Int) :: (2:Int) :: (0:Int) :: (0:Int) :: (1:Int) :: c4;
 let c6:=(0:Int) :: (1:Int) :: (2:Int) :: (1:Int) :: (0:Int) :: (1:Int) :: (2:Int) :: (0:Int) :: (0:Int) :: (2:Int) :: c4;
 let c7:=D.add (sealG exL) (1:Int);
 let c8:=D.nadd (0) (D.len exL);
 let c9:=D.app (D.nil Int) exL;
 let c10:=D.nadd c8 (D.len c2);
 let c11:=D.app c9 c2;
 let c12:=(D.nil (Int×List Bool×List Int),D.nil ByteArray,D.nil ByteArray,D.nil (ByteArray×Int×Int×Int×Int×Int×List ByteArray),
 [(ByteArray.mk (D.nil UInt8).toArray,(0:Int),(0:Int),(0:Int),(0:Int),(0:Int))],D.nil (ByteArray×Int×Int));
 let c13:=D.part exL (0:Int) (8:Int);
 let c14:=D.eq (checkF c1 exL (sealG exL)) (0:Int);
 let c15:=D.cnd c14 (D.eq (checkF c1 c3 (sealG c3)) (0:Int)) false;
 let c16:=D.cnd c15 (D.eq (checkF c1 c5 (sealG c5)) (190:Int)) false;
 let c17:=D.cnd c16 (D.eq (checkF c1 c6 (sealG c6)) (0:Int)) false;
 let c18:=D.cnd c17 (D.eq (checkF c1 exL c7) (180:Int)) false;
 let c19:=D.cnd c18 (D.eq (checkF c1 c11 (sealG c11)) (190:Int)) false;
 let c20:=D.cnd c19 (D.eq (checkF c12 exL (sealG exL)) (1:Int)) false;
 let c21:=(exL,sealG exL);
 let c22:=D.cnd c20 (D.eq (openC c21) (0:Int)) false;
 let c23:=openR c21;
 let c24:=c23.snd;
 let c25:=c24.snd;
 let c26:=(c23.fst,c24.fst,c25.fst,c25.snd);
 let c27:=[(-1:Int)];
 let c28:=D.cnd c22 (sameP c26 ((0:Int),(1:Int),[[(-1:Int),(0:Int)],(1:Int) :: c27],[[[(-1:Int),(1:Int)],(-1:Int) :: c27]])) false;true
 = true∧(True→True∧1=1∧0=0∧1=1∧0=0∧limS exL∧(limI exL∧netP c1)∧1=1∧0=0∧limS c3∧(limI c3∧netP c1)∧1=1∧0=0∧limS
 c5∧(limI c5∧netP c1)∧1=1∧0=0∧limS c6∧(limI c6∧netP c1)∧1=1∧0=0∧limS exL∧inR IntKind.i64 c7∧(limI exL∧netP c1)∧1=1∧0=0
 ∧ D.len (D.nil Int)=0∧D.nle (D.nmul c8 (8)) (140737488355328)∧D.nle c8 (9223372036854775807)∧D.len c9=c8∧D.nle (D.nmul c10 (8)) (140737488355328) ∧
 D.nle c10 (9223372036854775807)∧(lenIs c11 c10∧limS c11)∧(limI c11∧netP c1)∧D.len c11=c10∧limS exL∧(limI exL∧netP c12)∧limS exL∧limI exL
 ∧ 1=1∧0=0∧D.ile (0:Int) (0:Int)∧D.ile (0:Int) (8:Int)∧D.ile (8:Int) (D.ilen exL)∧limS c13∧limI c13∧1=1∧0=0∧(c14=true →
 c14=true→c14=true)∧(D.and true c14=true→c14=true)∧(c15=true→c15=true→c15=true)∧(D.and true c15=true→c15=true)∧(c16=true →
 c16=true→c16=true)∧(D.and true c16=true→c16=true)∧(c17=true→c17=true→c17=true)∧(D.and true c17=true→c17=true)∧(c18=true →
 c18=true→c18=true)∧(D.and true c18=true→c18=true)∧(c19=true→c19=true→c19=true)∧(D.and true c19=true→c19=true)∧(c20=true →
 c20=true→c20=true)∧(D.and true c20=true→c20=true)∧(c22=true→1=1)∧(c22=true→0=0)∧(c22=true→c22=true→c22=true)∧(c22 =
 true→c22=true→c22=true)∧(c22=true→c22=true→c22=true)∧(c22=true→c22=true→c22=true)∧(c22=true→c22=true→c22=true) ∧
 (c22=true→c22=true→c22=true)∧(c22=true→c22=true→c22=true)∧(c22=true→c22=true→c22=true)∧(c22=true→c22=true→c22 =
 true)∧(c22=true→mildP c26)∧(D.and true c22=true→c22=true)∧(c28=true→c28=true→c28=true)∧(D.and true c28=true→c28=true)∧D.cnd
 c28 (D.eq (openC (c13,sealG c13)) (190:Int)) false=true∧True)) :
  evF { mkc K19 with mb:=fun t=>t == 42 } hdA 5 [] [] ⟨True,.dat .bool true,[]⟩:=@of_eq _ _ (by kernel_rfl) hvc
def KH:Kt:=kOr 5 (dataK [] (fun _=>True) fun _=>.dat .bool true) K19
theorem kAlt_ok {P:Program} {G:List (Nat×AV)} {f:FuncId} {a b:List AV→Mem→Option CRes} (ha:∀ args m c,a args m=some c→SoundC P G f args m c) (hb:∀ args m c,b args m=some c→SoundC P G f args m c):∀ args m c,kAlt a b args m=some c→SoundC P G f args m c:=by
 intro args m c h
 unfold kAlt at h
 split at h
 ·rename_i e;cases h;exact ha _ _ _ e
 ·exact hb _ _ _ h
theorem t_ex:SoundC Tryz.prog G0 18 [] [] ⟨True,.tup [.agg [.dat (.sl C) exCs,.dat (.sl S) exNs,.dat (.sl S) exOs,.dat (.sl Of) exFs,.dat (.sl Ln) exLs,.dat (.sl Kl) exKs],.dat R exL],[]⟩:=by
 refine sound_of_ev (c:=mkc K18) KS18 KI0s hm (vc_ex ⟨rfl,fun _=>?_⟩)
 simp only [eq_self,true_and,and_true,D.nil]
 exact ⟨rfl,rfl,rfl,rfl,rfl,rfl,rfl⟩
theorem exK_ok:∀ args m c,exK args m=some c→SoundC Tryz.prog G0 18 args m c:=by
 intro args m c h
 unfold exK at h
 split at h
 ·cases h;exact t_ex
 ·cases h
theorem slK_ok {nm0:Nat} (h0:∀ (nn:Nat) (l:List Int),SoundC Tryz.prog G0 6 [.buf nm0 nn] [(nm0,.buf 3 I l [])] ⟨lenIs l nn∧limS l,.agg [.buf nm0 nn,.dat I (sealG l)],[]⟩):∀ args m c,slK nm0 args m=some c→SoundC Tryz.prog G0 6 args m c:=by
 intro args m c h
 unfold slK at h
 split at h
 ·split at h
  ·rename_i e
   obtain ⟨rfl,rfl,rfl⟩:=e
   cases h
   exact h0 _ _
  ·cases h
 ·cases h
theorem t_lsb0 (nn:Nat) (l:List Int):SoundC Tryz.prog G0 6 [.buf 0 nn] [(0,.buf 3 I l [])] ⟨lenIs l nn∧limS l,.agg [.buf 0 nn,.dat I (sealG l)],[]⟩:=by
 refine sound_of_ev (c:=mkc K18) KS18 KI0s hm (vc_lsb0 nn l ⟨rfl,fun hp=>?_⟩)
 simp only [eq_self,true_and,and_true,D.len]
 exact ⟨hp.2,hp.1,hp.1,hp.1⟩
theorem t_lsb1 (nn:Nat) (l:List Int):SoundC Tryz.prog G0 6 [.buf 1 nn] [(1,.buf 3 I l [])] ⟨lenIs l nn∧limS l,.agg [.buf 1 nn,.dat I (sealG l)],[]⟩:=by
 refine sound_of_ev (c:=mkc K18) KS18 KI0s hm (vc_lsb1 nn l ⟨rfl,fun hp=>?_⟩)
 simp only [eq_self,true_and,and_true,D.len]
 exact ⟨hp.2,hp.1,hp.1,hp.1⟩
theorem t_lsb2 (nn:Nat) (l:List Int):SoundC Tryz.prog G0 6 [.buf 2 nn] [(2,.buf 3 I l [])] ⟨lenIs l nn∧limS l,.agg [.buf 2 nn,.dat I (sealG l)],[]⟩:=by
 refine sound_of_ev (c:=mkc K18) KS18 KI0s hm (vc_lsb2 nn l ⟨rfl,fun hp=>?_⟩)
 simp only [eq_self,true_and,and_true,D.len]
 exact ⟨hp.2,hp.1,hp.1,hp.1⟩
theorem t_lsb3 (nn:Nat) (l:List Int):SoundC Tryz.prog G0 6 [.buf 3 nn] [(3,.buf 3 I l [])] ⟨lenIs l nn∧limS l,.agg [.buf 3 nn,.dat I (sealG l)],[]⟩:=by
 refine sound_of_ev (c:=mkc K18) KS18 KI0s hm (vc_lsb3 nn l ⟨rfl,fun hp=>?_⟩)
 simp only [eq_self,true_and,and_true,D.len]
 exact ⟨hp.2,hp.1,hp.1,hp.1⟩
theorem KS19:KSound Tryz.prog G0 K19:=kOr_ok exK_ok <| kOr_ok (kAlt_ok (dataK_ok fun (l,_)=>t_lseal l) <| kAlt_ok (slK_ok t_lsb0) <| kAlt_ok (slK_ok t_lsb1) <| kAlt_ok (slK_ok t_lsb2) (slK_ok t_lsb3)) <|
 kOr_ok (dataK_ok fun ((cs,ns,os,fs,ls,ks),c,_)=>t_Check c.2 c.1 cs ns os fs ls ks) <| kOr_ok (dataK_ok fun (c,_)=>t_Plan c.2 c.1) <| kOr_ok (dataK_ok fun ((cs,ns,os,fs,ls,ks),c,_)=>t_fewAll c.2 c.1 cs ns os fs ls ks) KS18
theorem t_head:SoundC Tryz.prog G0 5 [] [] ⟨True,.dat .bool true,[]⟩:=by
 refine sound_of_ev (c:={ mkc K19 with mb:=fun t=>t == 42 }) KS19 KI0s hm (vc_head ⟨rfl,fun _=>?_⟩)
 simp only [cnd_and,D.and,Bool.true_and,eq_self,true_and,and_true,imp_self,implies_true,Bool.and_eq_true,Nat.zero_add,D.nil,D.eq,D.ilen,D.ile,D.nle,D.add,D.len,D.nadd,D.nmul,D.app,D.part,beq_iff_eq]
 have hN:netP (exCs,exNs,exOs,exFs,exLs,exKs):=by unfold netP;decide
 have hN2:netP ([],[],[],[],[(⟨#[]⟩,0,0,0,0,0)],[]):=by unfold netP;decide
 have hL:∀ l:List Int,l.length≤100→limI l:=fun l h=>by show l.length≤2000000000000000;omega
 have hS:∀ l:List Int,l.length≤100→limS l:=fun l h=>by show l.length≤9223372036854775807;omega
 have e1:checkF (exCs,exNs,exOs,exFs,exLs,exKs) exL (sealG exL)=0:=by decide +kernel
 have e2:checkF (exCs,exNs,exOs,exFs,exLs,exKs) [0,1,2,1,0,1,2,0,0,1,0,0,2] (sealG [0,1,2,1,0,1,2,0,0,1,0,0,2])=0:=by decide +kernel
 have e3:checkF (exCs,exNs,exOs,exFs,exLs,exKs) [0,1,2,1,0,1,2,0,0,1,0,0,3] (sealG [0,1,2,1,0,1,2,0,0,1,0,0,3])=190:=by decide +kernel
 have e4:checkF (exCs,exNs,exOs,exFs,exLs,exKs) [0,1,2,1,0,1,2,0,0,2,0,0,3] (sealG [0,1,2,1,0,1,2,0,0,2,0,0,3])=0:=by decide +kernel
 have e5:checkF (exCs,exNs,exOs,exFs,exLs,exKs) exL (sealG exL + 1)=180:=by decide +kernel
 have e6:checkF (exCs,exNs,exOs,exFs,exLs,exKs) ([] ++ exL ++ [2]) (sealG ([] ++ exL ++ [2]))=190:=by decide +kernel
 have e7:checkF ([],[],[],[],[(⟨#[]⟩,0,0,0,0,0)],[]) exL (sealG exL)=1:=by decide +kernel
 have e8:openC (exL,sealG exL)=0:=by decide +kernel
 have e9:((openR (exL,sealG exL)).fst,(openR (exL,sealG exL)).snd.fst,(openR (exL,sealG exL)).snd.snd.fst,(openR (exL,sealG exL)).snd.snd.snd)=((0,1,[[-1,0],[1,-1]],[[[-1,1],[-1,-1]]]):Plan):=by decide +kernel
 have e10:openC (List.drop (Int.toNat 0) (List.take (Int.toNat 8) exL),sealG (List.drop (Int.toNat 0) (List.take (Int.toNat 8) exL)))=190:=by decide +kernel
 have e11:inR .i64 (sealG exL + 1):=by
  have:=seal_range (rl exL)
  unfold sealG
  exact in_big (by omega)
 have hM:mildP ((0,1,[[-1,0],[1,-1]],[[[-1,1],[-1,-1]]]):Plan):=by unfold mildP mildT mild;decide
 have lL:exL.length=13:=rfl
 simp only [e1,e2,e3,e4,e5,e6,e7,e8,e9,e10,lenIs]
 and_intros
 all_goals first
  | exact hN
  | exact hN2
  | exact e11
  | exact fun _=>hM
  | exact hL _ (by decide)
  | exact hS _ (by decide)
  | decide
  | trace_state
theorem KHs:KSound Tryz.prog G0 KH:=kOr_ok (dataK_ok fun _=>t_head) KS19
end Go.Eng.In
