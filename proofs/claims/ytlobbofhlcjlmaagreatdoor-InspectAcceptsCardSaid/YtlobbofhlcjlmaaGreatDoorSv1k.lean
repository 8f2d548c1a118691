/- PeSv1k -/
import Derived.Test.YtlobbofhlcjlmaaGreatDoorH22
import Derived.Test.YtlobbofhlcjlmaaGreatDoorChecked
set_option linter.unusedSimpArgs false
set_option linter.unusedVariables false
set_option maxRecDepth 100000
noncomputable section
namespace Go.Eng.Sv
open Go.Proofs
abbrev I:Ty:=.int .i64
abbrev U:Ty:=.int .u8
abbrev B:Ty:=.sl .bool
abbrev R:Ty:=.sl I
abbrev LC:Type:=List (Int×List Bool×List Int)
abbrev LB:Type:=List ByteArray
abbrev C:Ty:=.pair I (.pair B R)
abbrev S:Ty:=.str
abbrev cal (z:Int) (w:List Bool) (h:List Int):AV:=.agg [.dat I z,.dat B w,.dat R h]
def kw:List ByteArray:=[⟨#[99,97,108,101,110,100,97,114]⟩,⟨#[111,112,101,114,97,116,111,114]⟩,⟨#[111,102,102,105,99,101]⟩,⟨#[108,105,110,101]⟩,⟨#[99,108,97,115,115]⟩,⟨#[122,111,110,101]⟩,⟨#[119,101,101,107]⟩,⟨#[104,111,108,105,100,97,121]⟩,⟨#[112,111,99,107,101,116,115]⟩,⟨#[112,97,115,115,101,115]⟩,⟨#[109,105,110,117,116,101,115]⟩,⟨#[99,111,100,101,115]⟩,⟨#[97,116]⟩,⟨#[116,114,97,118,101,108]⟩,⟨#[108,111,97,100]⟩,⟨#[99,117,116]⟩,⟨#[100,101,108,105,118,101,114]⟩]
def oC (b:Int):Bool:=decide (97≤b∧b≤122)
def jZ (b:Int):Bool:=decide (48≤b∧b≤57)
def iW (v a b:Int):Bool:=decide (a≤v∧v≤b)
def nameB (b:Int):Bool:=oC b || jZ b || decide (b=95)
def aBZ (b:Int):Bool:=jZ b || decide (65≤b∧b≤90)
def isKey (s:ByteArray):Bool:=kw.any fun w=>w.toList == s.toList
def fG (s:ByteArray):Bool:=decide (1≤s.size∧s.size≤16) && oC ((s.data.getD 0 0).toNat:Int) && (s.data.toList.all fun b=>nameB (b.toNat:Int)) && !isKey s
def iH (s:ByteArray):Bool:=decide (1≤s.size∧s.size≤8) && s.data.toList.all fun b=>aBZ (b.toNat:Int)
def xA (s:ByteArray) (k:Int):Prop:=0≤k∧k≤s.size∧(s.data.toList.take k.toNat).all (fun b=>nameB (b.toNat:Int))=true
def xY (s:ByteArray) (k:Int):Prop:=0≤k∧k≤s.size∧(s.data.toList.take k.toNat).all (fun b=>aBZ (b.toNat:Int))=true
def yX (s:ByteArray) (k:Int):Prop:=0≤k∧k≤17∧(kw.take k.toNat).any (fun w=>w.toList == s.toList)=false
def bM (z:Int) (w:List Bool) (h:List Int):Bool:=decide (-720≤z∧z≤840∧w.length=7∧h.length≤40) && (List.range (h.length - 1)).all fun i=>decide (h.getD i 0 < h.getD (i + 1) 0)
def aEm (w:List Bool) (h:List Int):Bool:=decide (w.length≤20) && decide (h.length≤60)
def aAA (h:List Int) (k:Int):Prop:=1≤k∧(k≤h.length∨k=1)∧h.length≤40∧∀ i:Nat,(i:Int) + 1 < k→h.getD i 0 < h.getD (i + 1) 0
def nJ (k:Int):Int:=if k=3 then 12 else if k=4 then 40 else if k=5 then 4 else 6
def K0:Kt:=fun f args m=>none
def G0:List (Nat×AV):=[(0,.ia S kw)]
def KI0:FuncId→List AV→Option oW:=fun _ _=>none
noncomputable def mkc (K:Kt):Cfg:=⟨Tryz.prog,G0,K,fun _=>false,KI0,false,fun _ _ _=>none,fun _=>false⟩
def aOF (h:List Int):Ann:=⟨fun id s=>match id with
 | 4=>some { α:=Int,inv:=fun k=>aAA h k,st:=fun k=>put s [(3,.dat I k)],μ:=fun k=>D.nat (D.sub (D.ilen h) k) }
 | _=>none,fun _ _=>none,fun _ _=>none⟩
theorem aMh (z:Int) (w:List Bool) (h:List Int) (hvc :
 let c1:=D.lt z (-720:Int);
 let c2:=D.not c1;
 let c3:=D.cnd c1 true (D.gt z (840:Int));
 let c4:=D.not c3;
 let c5:=D.cnd c3 true (D.ne (D.ilen w) (7:Int));
 let c6:=D.not c5;
 let c7:=D.cnd c5 true (D.gt (D.ilen h) (40:Int));
 let c8:=(z,w,h);true=true∧(True→(c2=true→c2=true→c2=true)∧(c2=true→c2=true→c2=true)∧(D.and true c2=true→c2=true)∧(c4
 = true→c4=true→c4=true)∧(c4=true→c4=true→c4=true)∧(c4=true→c4=true→c4=true)∧(D.and true c4=true→c4=true)∧(c6=true →
 c6=true→c6=true)∧(c6=true→c6=true→c6=true)∧(c6=true→c6=true→c6=true)∧(D.and true c6=true→c6=true)∧(c7=true→false =
 bM z w h∧True)∧(c7=false→(∃ x,aAA h x∧c8=c8∧(1:Int)=x∧True)∧∀ (x:Int),
 let c9:=D.lt x (D.ilen h);
 let c10:=D.sub x (1:Int);
 let c11:=D.le (D.get h (D.nat x) (0:Int)) (D.get h (D.nat c10) (0:Int));
 let c12:=D.add x (1:Int);aAA h x→(c9=true→D.ile (0:Int) x∧D.ilt x (D.ilen h)∧inR IntKind.i64 c10∧D.ile (0:Int) c10∧D.ilt c10 (D.ilen h)
 ∧ (c11=true→false=bM z w h∧True)∧(c11=false→inR IntKind.i64 c12∧∃ y,aAA h y∧(c8=c8∧c12=y∧True)∧D.nlt (D.nat (D.sub (D.ilen
 h) y)) (D.nat (D.sub (D.ilen h) x))))∧(c9=false→true=bM z w h∧True)))) :
  evF (mkc K0) (lvA [(4,[1,2,3])] (aOF h)) 75 [cal z w h] [] ⟨True,.dat .bool (bM z w h),[]⟩:=@of_eq _ _ (by kernel_rfl) hvc
theorem aJr (z:Int) (w:List Bool) (h:List Int) (hvc :
 let c1:=D.lt z (-720:Int);
 let c2:=D.not c1;
 let c3:=D.cnd c1 true (D.gt z (840:Int));
 let c4:=D.not c3;
 let c5:=D.cnd c3 true (D.ne (D.ilen w) (7:Int));
 let c6:=D.not c5;
 let c7:=D.cnd c5 true (D.gt (D.ilen h) (40:Int));
 let c8:=(z,w,h);true=true∧(True→(c2=true→c2=true→c2=true)∧(c2=true→c2=true→c2=true)∧(D.and true c2=true→c2=true)∧(c4
 = true→c4=true→c4=true)∧(c4=true→c4=true→c4=true)∧(c4=true→c4=true→c4=true)∧(D.and true c4=true→c4=true)∧(c6=true →
 c6=true→c6=true)∧(c6=true→c6=true→c6=true)∧(c6=true→c6=true→c6=true)∧(D.and true c6=true→c6=true)∧(c7=true→false =
 bM z w h∧True)∧(c7=false→(∃ x,aAA h x∧c8=c8∧(1:Int)=x∧True)∧∀ (x:Int),
 let c9:=D.lt x (D.ilen h);
 let c10:=D.sub x (1:Int);
 let c11:=D.ge (D.get h (D.nat c10) (0:Int)) (D.get h (D.nat x) (0:Int));
 let c12:=D.add x (1:Int);aAA h x→(c9=true→inR IntKind.i64 c10∧D.ile (0:Int) c10∧D.ilt c10 (D.ilen h)∧D.ile (0:Int) x∧D.ilt x (D.ilen h)
 ∧ (c11=true→false=bM z w h∧True)∧(c11=false→inR IntKind.i64 c12∧∃ y,aAA h y∧(c8=c8∧c12=y∧True)∧D.nlt (D.nat (D.sub (D.ilen
 h) y)) (D.nat (D.sub (D.ilen h) x))))∧(c9=false→true=bM z w h∧True)))) :
  evF (mkc K0) (lvA [(4,[1,2,3])] (aOF h)) 154 [cal z w h] [] ⟨True,.dat .bool (bM z w h),[]⟩:=@of_eq _ _ (by kernel_rfl) hvc
theorem aMj (z:Int) (w:List Bool) (h:List Int) (hvc :
 let c1:=D.le (D.ilen w) (20:Int);true=true∧(True→(c1=true→c1=true→c1=true)∧(c1=true→c1=true→c1=true)∧(c1=true→c1=true →
 c1=true)∧(D.and true c1=true→c1=true)∧D.cnd c1 (D.le (D.ilen h) (60:Int)) false=aEm w h∧True)) :
  evF (mkc K0) bF 93 [cal z w h] [] ⟨True,.dat .bool (aEm w h),[]⟩:=@of_eq _ _ (by kernel_rfl) hvc
theorem aH1 (b:Int) (hvc :
 let c1:=D.ge b (97:Int);true=true∧(True→(c1=true→c1=true→c1=true)∧(D.and true c1=true→c1=true)∧D.cnd c1 (D.le b (122:Int))
 false=oC b∧True)) :
  evF (mkc K0) bF 160 [.dat U b] [] ⟨True,.dat .bool (oC b),[]⟩:=@of_eq _ _ (by kernel_rfl) hvc
theorem aH2 (b:Int) (hvc :
 let c1:=D.ge b (48:Int);true=true∧(True→(c1=true→c1=true→c1=true)∧(D.and true c1=true→c1=true)∧D.cnd c1 (D.le b (57:Int)) false
 = jZ b∧True)) :
  evF (mkc K0) bF 161 [.dat U b] [] ⟨True,.dat .bool (jZ b),[]⟩:=@of_eq _ _ (by kernel_rfl) hvc
theorem aME (b:Int) (hvc :
 let c1:=D.ge b (48:Int);true=true∧(True→(c1=true→c1=true→c1=true)∧(D.and true c1=true→c1=true)∧D.cnd c1 (D.le b (57:Int)) false
 = jZ b∧True)) :
  evF (mkc K0) bF 153 [.dat U b] [] ⟨True,.dat .bool (jZ b),[]⟩:=@of_eq _ _ (by kernel_rfl) hvc
theorem aJu (v a b:Int) (hvc :
 true=true∧(True→(D.ge v a=true→D.ge v a=true→D.ge v a=true)∧(D.ge v a=true→D.ge v a=true→D.ge v a=true)∧(D.and true
 (D.ge v a)=true→D.ge v a=true)∧D.cnd (D.ge v a) (D.le v b) false=iW v a b∧True)) :
  evF (mkc K0) bF 144 [.dat I v,.dat I a,.dat I b] [] ⟨True,.dat .bool (iW v a b),[]⟩:=@of_eq _ _ (by kernel_rfl) hvc
theorem aH4 (v a b:Int) (hvc :
 true=true∧(True→(D.ge v a=true→D.ge v a=true→D.ge v a=true)∧(D.ge v a=true→D.ge v a=true→D.ge v a=true)∧(D.and true
 (D.ge v a)=true→D.ge v a=true)∧D.cnd (D.ge v a) (D.le v b) false=iW v a b∧True)) :
  evF (mkc K0) bF 157 [.dat I v,.dat I a,.dat I b] [] ⟨True,.dat .bool (iW v a b),[]⟩:=@of_eq _ _ (by kernel_rfl) hvc
theorem aMx (k:Int) (hvc :
 let c1:=D.eq k (3:Int);
 let c2:=D.eq k (4:Int);
 let c3:=D.eq k (5:Int);true=true∧(True→(c1=true→(12:Int)=nJ k∧True)∧(c1=false→(c2=true→(40:Int)=nJ k∧True)∧(c2 =
 false→(c3=true→(4:Int)=nJ k∧True)∧(c3=false→(6:Int)=nJ k∧True))))) :
  evF (mkc K0) bF 95 [.dat I k] [] ⟨True,.dat I (nJ k),[]⟩:=@of_eq _ _ (by kernel_rfl) hvc
theorem aPL  (hvc :
 true=true∧(True→[ByteArray.mk #[(99:UInt8),(97:UInt8),(108:UInt8),(101:UInt8),(110:UInt8),(100:UInt8),(97:UInt8),(114:UInt8)],
 ByteArray.mk #[(111:UInt8),(112:UInt8),(101:UInt8),(114:UInt8),(97:UInt8),(116:UInt8),(111:UInt8),(114:UInt8)],ByteArray.mk #[(111 :
 UInt8),(102:UInt8),(102:UInt8),(105:UInt8),(99:UInt8),(101:UInt8)],ByteArray.mk #[(108:UInt8),(105:UInt8),(110:UInt8),(101:UInt8)],
 ByteArray.mk #[(99:UInt8),(108:UInt8),(97:UInt8),(115:UInt8),(115:UInt8)],ByteArray.mk #[(122:UInt8),(111:UInt8),(110:UInt8),(101 :
 UInt8)],ByteArray.mk #[(119:UInt8),(101:UInt8),(101:UInt8),(107:UInt8)],ByteArray.mk #[(104:UInt8),(111:UInt8),(108:UInt8),(105:UInt8),
 (100:UInt8),(97:UInt8),(121:UInt8)],ByteArray.mk #[(112:UInt8),(111:UInt8),(99:UInt8),(107:UInt8),(101:UInt8),(116:UInt8),(115 :
 UInt8)],ByteArray.mk #[(112:UInt8),(97:UInt8),(115:UInt8),(115:UInt8),(101:UInt8),(115:UInt8)],ByteArray.mk #[(109:UInt8),(105:UInt8),
 (110:UInt8),(117:UInt8),(116:UInt8),(101:UInt8),(115:UInt8)],ByteArray.mk #[(99:UInt8),(111:UInt8),(100:UInt8),(101:UInt8),(115 :
 UInt8)],ByteArray.mk #[(97:UInt8),(116:UInt8)],ByteArray.mk #[(116:UInt8),(114:UInt8),(97:UInt8),(118:UInt8),(101:UInt8),(108:UInt8)],
 ByteArray.mk #[(108:UInt8),(111:UInt8),(97:UInt8),(100:UInt8)],ByteArray.mk #[(99:UInt8),(117:UInt8),(116:UInt8)],ByteArray.mk #[(100 :
 UInt8),(101:UInt8),(108:UInt8),(105:UInt8),(118:UInt8),(101:UInt8),(114:UInt8)]]=kw∧True)) :
  evF (mkc K0) bF 162 [] [] ⟨True,.dat (.sl S) kw,[]⟩:=@of_eq _ _ (by kernel_rfl) hvc
def K1:Kt:=fun f args m=>match f,args,m with
 | 75,[.agg [.dat (.int .i64) z,.dat (.sl .bool) w,.dat (.sl (.int .i64)) h]],[]=>some ⟨True,.dat .bool (bM z w h),[]⟩
 | 154,[.agg [.dat (.int .i64) z,.dat (.sl .bool) w,.dat (.sl (.int .i64)) h]],[]=>some ⟨True,.dat .bool (bM z w h),[]⟩
 | 93,[.agg [.dat (.int .i64) z,.dat (.sl .bool) w,.dat (.sl (.int .i64)) h]],[]=>some ⟨True,.dat .bool (aEm w h),[]⟩
 | 160,[.dat (.int .u8) b],[]=>some ⟨True,.dat .bool (oC b),[]⟩
 | 161,[.dat (.int .u8) b],[]=>some ⟨True,.dat .bool (jZ b),[]⟩
 | 153,[.dat (.int .u8) b],[]=>some ⟨True,.dat .bool (jZ b),[]⟩
 | 144,[.dat (.int .i64) v,.dat (.int .i64) a,.dat (.int .i64) b],[]=>some ⟨True,.dat .bool (iW v a b),[]⟩
 | 157,[.dat (.int .i64) v,.dat (.int .i64) a,.dat (.int .i64) b],[]=>some ⟨True,.dat .bool (iW v a b),[]⟩
 | 95,[.dat (.int .i64) k],[]=>some ⟨True,.dat I (nJ k),[]⟩
 | 162,[],[]=>some ⟨True,.dat (.sl S) kw,[]⟩
 | _,_,_=>none
def aQ1 (s:ByteArray):Ann:=⟨fun id st=>match id with
 | 4=>some { α:=Int,inv:=fun k=>xA s k,st:=fun k=>put st [(24,.dat I k)],μ:=fun k=>D.nat (D.sub (D.slen s) k) }
 | 10=>some { α:=Int,inv:=fun k=>yX s k,st:=fun k=>put st [(42,.dat I k)],μ:=fun k=>D.nat (D.sub 17 k) }
 | _=>none,fun _ _=>none,fun _ _=>none⟩
def aQ2 (s:ByteArray):Ann:=⟨fun id st=>match id with
 | 4=>some { α:=Int,inv:=fun k=>xY s k,st:=fun k=>put st [(16,.dat I k)],μ:=fun k=>D.nat (D.sub (D.slen s) k) }
 | _=>none,fun _ _=>none,fun _ _=>none⟩
def aWe (s:ByteArray):Ann:=⟨fun id st=>match id with
 | 3=>some { α:=Int,inv:=fun k=>yX s k,st:=fun k=>put st [(4,.dat I k)],μ:=fun k=>D.nat (D.sub 17 k) }
 | _=>none,fun _ _=>none,fun _ _=>none⟩
theorem aFO (v:Int) (hvc :
 let c1:=iW v (0:Int) (1439:Int);true=true∧(True→True∧c1=c1∧True)) :
  evF (mkc K1) bF 120 [.dat I v] [] ⟨True,.dat .bool (iW v 0 1439),[]⟩:=@of_eq _ _ (by kernel_rfl) hvc
theorem aJt (s:ByteArray) (hvc :
 let c1:=D.lt (D.slen s) (1:Int);
 let c2:=D.not c1;
 let c3:=D.cnd c1 true (D.gt (D.slen s) (16:Int));
 let c4:=D.not c3;
 let c5:=D.cnd c3 true (D.not (oC (D.byte s (0:Int))));true=true∧(True→(c2=true→c2=true→c2=true)∧(c2=true→c2=true→c2=true) ∧
 (D.and true c2=true→c2=true)∧(c4=true→c4=true→c4=true)∧(c4=true→D.ile (0:Int) (0:Int))∧(c4=true→D.ilt (0:Int) (D.slen s)) ∧
 (c4=true→c4=true→c4=true)∧(c4=true→True)∧(c4=true→c4=true→c4=true)∧(D.and true c4=true→c4=true)∧(c5=true→false =
 fG s∧True)∧(c5=false→(∃ x,xA s x∧s=s∧D.bytes s=D.bytes s∧D.ilen (D.bytes s)=D.ilen (D.bytes s)∧(0:Int)=x∧True)∧∀ (x :
 Int),
 let c6:=D.lt x (D.ilen (D.bytes s));
 let c7:=D.get (D.bytes s) (D.nat x) (0:Int);
 let c8:=D.not (oC c7);
 let c9:=D.cnd c8 (D.not (jZ c7)) false;
 let c10:=D.cnd c9 (D.ne c7 (95:Int)) false;
 let c11:=D.add x (1:Int);xA s x→(c6=true→D.ile (0:Int) x∧D.ilt x (D.ilen (D.bytes s))∧True∧(c8=true→c8=true→c8=true)∧(c8 =
 true→True)∧(c8=true→c8=true→c8=true)∧(D.and true c8=true→c8=true)∧(c9=true→c9=true→c9=true)∧(D.and true c9=true→c9 =
 true)∧(c10=true→false=fG s∧True)∧(c10=false→inR IntKind.i64 c11∧∃ y,xA s y∧(s=s∧D.bytes s=D.bytes s∧D.ilen (D.bytes s) =
 D.ilen (D.bytes s)∧c11=y∧True)∧D.nlt (D.nat (D.sub (D.slen s) y)) (D.nat (D.sub (D.slen s) x))))∧(c6=false→D.len kw=17∧(∃ x,yX s x∧s =
 s∧kw=kw∧(0:Int)=x∧True)∧∀ (x:Int),
 let c12:=D.lt x (17:Int);
 let c13:=D.sEq s (D.get kw (D.nat x) (ByteArray.mk (D.nil UInt8).toArray));
 let c14:=D.add x (1:Int);yX s x→(c12=true→D.ile (0:Int) x∧D.ilt x (D.ofN (17))∧D.len kw=17∧(c13=true→false=fG s∧True) ∧
 (c13=false→inR IntKind.i64 c14∧∃ y,yX s y∧(s=s∧kw=kw∧c14=y∧True)∧D.nlt (D.nat (D.sub (17:Int) y)) (D.nat (D.sub (17:Int) x)))) ∧
 (c12=false→true=fG s∧True))))) :
  evF (mkc K1) (lvA [(4,[0,2,4,6,22,23,24,41,42]),(10,[0,2,6,41,42])] (aQ1 s)) 132 [.dat S s] [] ⟨True,.dat .bool (fG s),[]⟩:=@of_eq _ _ (by kernel_rfl) hvc
theorem aJv (s:ByteArray) (hvc :
 let c1:=D.lt (D.slen s) (1:Int);
 let c2:=D.not c1;
 let c3:=D.cnd c1 true (D.gt (D.slen s) (8:Int));true=true∧(True→(c2=true→c2=true→c2=true)∧(c2=true→c2=true→c2=true)∧(D.and
 true c2=true→c2=true)∧(c3=true→false=iH s∧True)∧(c3=false→(∃ x,xY s x∧D.bytes s=D.bytes s∧D.ilen (D.bytes s)=D.ilen
 (D.bytes s)∧(0:Int)=x∧True)∧∀ (x:Int),
 let c4:=D.lt x (D.ilen (D.bytes s));
 let c5:=D.get (D.bytes s) (D.nat x) (0:Int);
 let c6:=D.not (jZ c5);
 let c7:=D.lt c5 (65:Int);
 let c8:=D.cnd c6 (D.cnd c7 true (D.gt c5 (90:Int))) false;
 let c9:=D.add x (1:Int);xY s x→(c4=true→D.ile (0:Int) x∧D.ilt x (D.ilen (D.bytes s))∧True∧(c6=true→c6=true→c6=true)∧(c6 =
 true→c6=true→c6=true)∧(D.and c6 (D.not c7)=true→D.and c6 (D.not c7)=true→D.and c6 (D.not c7)=true)∧(c6=true→c6=true→c6=true) ∧
 (c6=true→D.and c6 (D.not c7)=true→D.and c6 (D.not c7)=true)∧(D.and true c6=true→c6=true)∧(c8=true→false=iH s∧True)∧(c8 =
 false→inR IntKind.i64 c9∧∃ y,xY s y∧(D.bytes s=D.bytes s∧D.ilen (D.bytes s)=D.ilen (D.bytes s)∧c9=y∧True)∧D.nlt (D.nat (D.sub (D.slen
 s) y)) (D.nat (D.sub (D.slen s) x))))∧(c4=false→true=iH s∧True)))) :
  evF (mkc K1) (lvA [(4,[2,4,14,15,16])] (aQ2 s)) 143 [.dat S s] [] ⟨True,.dat .bool (iH s),[]⟩:=@of_eq _ _ (by kernel_rfl) hvc
theorem aSE (s:ByteArray) (hvc :
 true=true∧(True→True∧(∃ x,yX s x∧s=s∧kw=kw∧(0:Int)=x∧True)∧∀ (x:Int),
 let c1:=D.lt x (D.ilen kw);
 let c2:=D.sEq (D.get kw (D.nat x) (ByteArray.mk (D.nil UInt8).toArray)) s;
 let c3:=D.add x (1:Int);yX s x→(c1=true→D.ile (0:Int) x∧D.ilt x (D.ilen kw)∧(c2=true→true=isKey s∧True)∧(c2=false→inR
 IntKind.i64 c3∧∃ y,yX s y∧(s=s∧kw=kw∧c3=y∧True)∧D.nlt (D.nat (D.sub (17:Int) y)) (D.nat (D.sub (17:Int) x))))∧(c1=false→false =
 isKey s∧True))) :
  evF (mkc K1) (lvA [(3,[0,2,3,4])] (aWe s)) 152 [.dat S s] [] ⟨True,.dat .bool (isKey s),[]⟩:=@of_eq _ _ (by kernel_rfl) hvc
def K2:Kt:=fun f args m=>match f,args,m with
 | 120,[.dat (.int .i64) v],[]=>some ⟨True,.dat .bool (iW v 0 1439),[]⟩
 | 132,[.dat .str s],[]=>some ⟨True,.dat .bool (fG s),[]⟩
 | 143,[.dat .str s],[]=>some ⟨True,.dat .bool (iH s),[]⟩
 | 152,[.dat .str s],[]=>some ⟨True,.dat .bool (isKey s),[]⟩
 | _,_,_=>K1 f args m
theorem oN (x y:Bool):D.cnd x true y=(x || y):=by cases x <;> rfl
theorem fA (x y:Bool):D.cnd x y false=(x && y):=by cases x <;> rfl
theorem hm:Tryz.prog.follows .mixedOrders=true:=by kernel_rfl
theorem KS0:aQ Tryz.prog G0 K0:=fun f args m c h=>by cases h
theorem cO:dF Tryz.prog G0 KI0:=fun f args c h=>by cases h
def aLG (z:Int) (w:List Bool) (h:List Int):Prop:=(-720≤z∧z≤840∧w.length=7∧h.length≤40)∧∀ i:Nat,i + 1 < h.length→h.getD i 0 < h.getD (i + 1) 0
theorem fJ {z:Int} {w:List Bool} {h:List Int}:bM z w h=true↔aLG z w h:=by
 unfold bM aLG
 rw [Bool.and_eq_true,decide_eq_true_eq,List.all_eq_true]
 refine and_congr_right fun _=>⟨fun g i hi=>?_,fun g i hi=>?_⟩
 ·have:=g i (List.mem_range.2 (by omega))
  simpa using this
 ·have:=List.mem_range.1 hi
  simpa using g i (by omega)
theorem yI {z:Int} {w:List Bool} {h:List Int} (hn:¬ aLG z w h):false=bM z w h:=by
 cases hv:bM z w h with
 | false=>rfl
 | true=>exact (hn (fJ.1 hv)).elim
theorem aE7 {h:List Int} (hl:¬ (h.length:Int) > 40):aAA h 1:=⟨Int.le_refl _,.inr rfl,by omega,fun i hi=>by omega⟩
theorem aCQ {h:List Int} {x:Int} (hx:aAA h x) (hlt:x < h.length) (hn:h.getD (x - 1).toNat 0 < h.getD x.toNat 0):aAA h (x + 1):=by
 obtain ⟨g1,g2,g3,g4⟩:=hx
 refine ⟨by omega,by omega,g3,fun i hi=>?_⟩
 by_cases e:(i:Int) + 1 < x
 ·exact g4 i e
 ·have e1:(x - 1).toNat=i:=by omega
  have e2:x.toNat=i + 1:=by omega
  rwa [e1,e2] at hn
theorem aE8 {z:Int} {w:List Bool} {h:List Int} {x:Int} (hx:aAA h x) (hlt:x < h.length) (hn:h.getD x.toNat 0≤h.getD (x - 1).toNat 0):false=bM z w h:=by
 refine yI fun hv=>?_
 have:=hx.1
 have:=hv.2 (x - 1).toNat (by omega)
 rw [show (x - 1).toNat + 1=x.toNat by omega] at this
 omega
theorem aE9 {z:Int} {w:List Bool} {h:List Int} {x:Int} (hx:aAA h x) (hge:¬ x < h.length) (h1:-720≤z) (h2:z≤840) (h3:w.length=7):true=bM z w h :=
 (fJ.2 ⟨⟨h1,h2,h3,by have:=hx.2.2.1;omega⟩,fun i hi=>hx.2.2.2 i (by omega)⟩).symm
theorem aQu (z:Int) (w:List Bool) (h:List Int):aC Tryz.prog G0 75 [cal z w h] [] ⟨True,.dat .bool (bM z w h),[]⟩:=by
 refine aA (c:=mkc K0) KS0 cO hm (aMh z w h ⟨rfl,fun _=>?_⟩)
 simp only [oN,D.and,D.not,Bool.true_and,eq_self,true_and,and_true,imp_self,implies_true,Bool.not_eq_true',Bool.or_eq_true,Bool.or_eq_false_iff,exists_eq_right',D.ne,D.lt,D.gt,D.le,D.ilen,D.ile,D.ilt,D.nlt,D.sub,D.add,D.nat,D.get,decide_eq_true_eq,decide_eq_false_iff_not,bne_iff_ne,bne_eq_false_iff_eq]
 refine ⟨fun hb=>yI fun hv=>?_,fun ⟨⟨⟨h1,h2⟩,h3⟩,h4⟩=>⟨aE7 h4,fun x hx=>⟨fun hlt=>?_,fun hge=>aE9 hx hge (by omega) (by omega) (by omega)⟩⟩⟩
 ·obtain ⟨⟨g1,g2,g3,g4⟩,_⟩:=hv
  omega
 ·have hx1:=hx.1
  have hx3:=hx.2.2.1
  refine ⟨by omega,hlt,⟨by omega,by omega⟩,by omega,by omega,fun hle=>aE8 hx hlt hle,fun hn=>⟨⟨by omega,by omega⟩,x + 1,aCQ hx hlt (by omega),rfl,by omega⟩⟩
theorem aNc (z:Int) (w:List Bool) (h:List Int):aC Tryz.prog G0 154 [cal z w h] [] ⟨True,.dat .bool (bM z w h),[]⟩:=by
 refine aA (c:=mkc K0) KS0 cO hm (aJr z w h ⟨rfl,fun _=>?_⟩)
 simp only [oN,D.and,D.not,Bool.true_and,eq_self,true_and,and_true,imp_self,implies_true,Bool.not_eq_true',Bool.or_eq_true,Bool.or_eq_false_iff,exists_eq_right',D.ne,D.lt,D.gt,D.ge,D.ilen,D.ile,D.ilt,D.nlt,D.sub,D.add,D.nat,D.get,decide_eq_true_eq,decide_eq_false_iff_not,bne_iff_ne,bne_eq_false_iff_eq]
 refine ⟨fun hb=>yI fun hv=>?_,fun ⟨⟨⟨h1,h2⟩,h3⟩,h4⟩=>⟨aE7 h4,fun x hx=>⟨fun hlt=>?_,fun hge=>aE9 hx hge (by omega) (by omega) (by omega)⟩⟩⟩
 ·obtain ⟨⟨g1,g2,g3,g4⟩,_⟩:=hv
  omega
 ·have hx1:=hx.1
  have hx3:=hx.2.2.1
  refine ⟨⟨by omega,by omega⟩,by omega,by omega,by omega,hlt,fun hle=>aE8 hx hlt hle,fun hn=>⟨⟨by omega,by omega⟩,x + 1,aCQ hx hlt (by omega),rfl,by omega⟩⟩
theorem aQv (z:Int) (w:List Bool) (h:List Int):aC Tryz.prog G0 93 [cal z w h] [] ⟨True,.dat .bool (aEm w h),[]⟩:=by
 refine aA (c:=mkc K0) KS0 cO hm (aMj z w h ⟨rfl,fun _=>?_⟩)
 simp only [fA,D.and,Bool.true_and,true_and,and_true,imp_self,implies_true,aEm,D.le,D.ilen]
 congr 1 <;> congr 1 <;> exact propext (by omega)
theorem sW (p q:Prop) [Decidable p] [Decidable q]:(decide p && decide q)=decide (p∧q):=by by_cases hp:p <;> by_cases hq:q <;> simp [hp,hq]
theorem aJ4 (b:Int):aC Tryz.prog G0 160 [.dat U b] [] ⟨True,.dat .bool (oC b),[]⟩:=by
 refine aA (c:=mkc K0) KS0 cO hm (aH1 b ⟨rfl,fun _=>?_⟩)
 simp only [fA,D.and,Bool.true_and,eq_self,and_true,imp_self,implies_true,oC,D.ge,D.le,sW,ge_iff_le]
theorem aJ5 (b:Int):aC Tryz.prog G0 161 [.dat U b] [] ⟨True,.dat .bool (jZ b),[]⟩:=by
 refine aA (c:=mkc K0) KS0 cO hm (aH2 b ⟨rfl,fun _=>?_⟩)
 simp only [fA,D.and,Bool.true_and,eq_self,and_true,imp_self,implies_true,jZ,D.ge,D.le,sW,ge_iff_le]
theorem aQz (b:Int):aC Tryz.prog G0 153 [.dat U b] [] ⟨True,.dat .bool (jZ b),[]⟩:=by
 refine aA (c:=mkc K0) KS0 cO hm (aME b ⟨rfl,fun _=>?_⟩)
 simp only [fA,D.and,Bool.true_and,eq_self,and_true,imp_self,implies_true,jZ,D.ge,D.le,sW,ge_iff_le]
theorem aNe (v a b:Int):aC Tryz.prog G0 144 [.dat I v,.dat I a,.dat I b] [] ⟨True,.dat .bool (iW v a b),[]⟩:=by
 refine aA (c:=mkc K0) KS0 cO hm (aJu v a b ⟨rfl,fun _=>?_⟩)
 simp only [fA,D.and,Bool.true_and,eq_self,and_true,imp_self,implies_true,iW,D.ge,D.le,sW,ge_iff_le]
theorem aJ7 (v a b:Int):aC Tryz.prog G0 157 [.dat I v,.dat I a,.dat I b] [] ⟨True,.dat .bool (iW v a b),[]⟩:=by
 refine aA (c:=mkc K0) KS0 cO hm (aH4 v a b ⟨rfl,fun _=>?_⟩)
 simp only [fA,D.and,Bool.true_and,eq_self,and_true,imp_self,implies_true,iW,D.ge,D.le,sW,ge_iff_le]
theorem aQx (k:Int):aC Tryz.prog G0 95 [.dat I k] [] ⟨True,.dat I (nJ k),[]⟩:=by
 refine aA (c:=mkc K0) KS0 cO hm (aMx k ⟨rfl,fun _=>?_⟩)
 simp only [and_true,D.eq,beq_iff_eq,beq_eq_false_iff_ne,nJ]
 refine ⟨fun h=>by rw [if_pos h],fun h1=>⟨fun h=>by rw [if_neg h1,if_pos h],fun h2=>⟨fun h=>by rw [if_neg h1,if_neg h2,if_pos h],fun h=>by rw [if_neg h1,if_neg h2,if_neg h]⟩⟩⟩
theorem aS8:aC Tryz.prog G0 162 [] [] ⟨True,.dat (.sl S) kw,[]⟩ :=
 aA (c:=mkc K0) KS0 cO hm (aPL ⟨rfl,fun _=>⟨rfl,trivial⟩⟩)
theorem KS1:aQ Tryz.prog G0 K1:=by
 intro f args m c h
 unfold K1 at h
 split at h
 ·cases h;exact aQu _ _ _
 ·cases h;exact aNc _ _ _
 ·cases h;exact aQv _ _ _
 ·cases h;exact aJ4 _
 ·cases h;exact aJ5 _
 ·cases h;exact aQz _
 ·cases h;exact aNe _ _ _
 ·cases h;exact aJ7 _ _ _
 ·cases h;exact aQx _
 ·cases h;exact aS8
 ·cases h
theorem aIX (s:ByteArray) (i:Nat):(D.bytes s).getD i 0=((s.data.getD i 0).toNat:Int):=by
 show (List.map (fun b:UInt8=>(b.toNat:Int)) s.data.toList).getD i 0=_
 rw [List.getD_eq_getElem?_getD,List.getElem?_map,Array.getElem?_toList,Array.getD_eq_getD_getElem?]
 cases s.data[i]? <;> rfl
theorem aFw (s:ByteArray) (x:Int):(D.bytes s).getD x.toNat 0=D.byte s x:=aIX s x.toNat
theorem aAo (s:ByteArray):(D.bytes s).length=s.size:=by
 show (List.map _ s.data.toList).length=s.data.size
 rw [List.length_map,Array.length_toList]
theorem uQ (s:ByteArray):s.data.toList.length=s.size:=Array.length_toList
theorem zO {α:Type} {l:List α} {p:α→Bool} {d:α} {k:Nat} (h:(l.take k).all p=true) (hk:k < l.length) (hp:p (l.getD k d)=true):(l.take (k + 1)).all p=true:=by
 rw [List.take_add_one,List.getElem?_eq_getElem hk,List.all_append,h]
 rw [List.getD_eq_getElem?_getD,List.getElem?_eq_getElem hk] at hp
 simpa using hp
theorem aGT {α:Type} {l:List α} {p:α→Bool} {d:α} {k:Nat} (hk:k < l.length) (hp:p (l.getD k d)=false):l.all p=false:=by
 rw [List.getD_eq_getElem?_getD,List.getElem?_eq_getElem hk] at hp
 rw [List.all_eq_false]
 exact ⟨l[k],List.getElem_mem hk,by simpa using hp⟩
theorem aPi {α:Type} {l:List α} {p:α→Bool} {d:α} {k:Nat} (hk:k < l.length) (hp:p (l.getD k d)=true):l.any p=true:=by
 rw [List.getD_eq_getElem?_getD,List.getElem?_eq_getElem hk] at hp
 exact List.any_eq_true.2 ⟨l[k],List.getElem_mem hk,by simpa using hp⟩
theorem aC0 {α:Type} {l:List α} {p:α→Bool} {d:α} {k:Nat} (h:(l.take k).any p=false) (hk:k < l.length) (hp:p (l.getD k d)=false):(l.take (k + 1)).any p=false:=by
 rw [List.take_add_one,List.getElem?_eq_getElem hk,List.any_append,h]
 rw [List.getD_eq_getElem?_getD,List.getElem?_eq_getElem hk] at hp
 simpa using hp
theorem xX (s:ByteArray) (i:Nat):s.data.toList.getD i 0=s.data.getD i 0:=by
 rw [List.getD_eq_getElem?_getD,Array.getElem?_toList,Array.getD_eq_getD_getElem?]
theorem aGd (s:ByteArray):xA s 0:=⟨Int.le_refl _,Int.natCast_nonneg _,by simp⟩
theorem aGH (s:ByteArray):xY s 0:=⟨Int.le_refl _,Int.natCast_nonneg _,by simp⟩
theorem aCM (s:ByteArray):yX s 0:=⟨Int.le_refl _,by decide,by simp⟩
theorem aGe {s:ByteArray} {x:Int} (h:xA s x) (hx:x < s.size) (hp:nameB (D.byte s x)=true):xA s (x + 1):=by
 obtain ⟨h0,h1,h2⟩:=h
 refine ⟨by omega,by omega,?_⟩
 rw [show (x + 1).toNat=x.toNat + 1 by omega]
 exact zO (d:=0) h2 (by rw [uQ];omega) (by rw [xX];exact hp)
theorem aGI {s:ByteArray} {x:Int} (h:xY s x) (hx:x < s.size) (hp:aBZ (D.byte s x)=true):xY s (x + 1):=by
 obtain ⟨h0,h1,h2⟩:=h
 refine ⟨by omega,by omega,?_⟩
 rw [show (x + 1).toNat=x.toNat + 1 by omega]
 exact zO (d:=0) h2 (by rw [uQ];omega) (by rw [xX];exact hp)
theorem aIu {s:ByteArray} {x:Int} (h:xA s x) (hx:¬ x < s.size):(s.data.toList.all fun b=>nameB (b.toNat:Int))=true:=by
 obtain ⟨h0,h1,h2⟩:=h
 rwa [List.take_of_length_le (by rw [uQ];omega)] at h2
theorem aIQ {s:ByteArray} {x:Int} (h:xY s x) (hx:¬ x < s.size):(s.data.toList.all fun b=>aBZ (b.toNat:Int))=true:=by
 obtain ⟨h0,h1,h2⟩:=h
 rwa [List.take_of_length_le (by rw [uQ];omega)] at h2
theorem aNG {s:ByteArray} {x:Int} (h:xA s x) (hx:x < s.size) (hp:nameB (D.byte s x)=false):(s.data.toList.all fun b=>nameB (b.toNat:Int))=false :=
 aGT (d:=0) (k:=x.toNat) (by rw [uQ];have:=h.1;omega) (by rw [xX];exact hp)
theorem aOe {s:ByteArray} {x:Int} (h:xY s x) (hx:x < s.size) (hp:aBZ (D.byte s x)=false):(s.data.toList.all fun b=>aBZ (b.toNat:Int))=false :=
 aGT (d:=0) (k:=x.toNat) (by rw [uQ];have:=h.1;omega) (by rw [xX];exact hp)
theorem aCN {s:ByteArray} {x:Int} (h:yX s x) (hx:x < 17) (hp:s.toList≠(kw.getD x.toNat ⟨#[]⟩).toList):yX s (x + 1):=by
 obtain ⟨h0,h1,h2⟩:=h
 refine ⟨by omega,by omega,?_⟩
 rw [show (x + 1).toNat=x.toNat + 1 by omega]
 exact aC0 (d:=⟨#[]⟩) h2 (by show x.toNat < 17;omega) (by simpa using fun e=>hp e.symm)
theorem aO4 {s:ByteArray} {x:Int} (h:yX s x) (hx:x < 17) (hp:s.toList=(kw.getD x.toNat ⟨#[]⟩).toList):isKey s=true :=
 aPi (d:=⟨#[]⟩) (k:=x.toNat) (by have:=h.1;show x.toNat < 17;omega) (by simpa using hp.symm)
theorem aE3 {s:ByteArray} {x:Int} (h:yX s x) (hx:¬ x < 17):isKey s=false:=by
 obtain ⟨h0,h1,h2⟩:=h
 have:x=17:=by omega
 subst this
 exact h2
theorem aGc {s:ByteArray} (h:fG s=true→False):false=fG s:=by
 cases e:fG s with
 | false=>rfl
 | true=>exact (h e).elim
theorem aLj {s:ByteArray} (h:iH s=true→False):false=iH s:=by
 cases e:iH s with
 | false=>rfl
 | true=>exact (h e).elim
theorem qC {s:ByteArray}:fG s=true↔(1≤s.size∧s.size≤16)∧oC (D.byte s 0)=true∧(s.data.toList.all fun b=>nameB (b.toNat:Int))=true∧isKey s=false:=by
 unfold fG
 simp only [Bool.and_eq_true,decide_eq_true_eq,Bool.not_eq_true',and_assoc]
 exact Iff.rfl
theorem vS {s:ByteArray}:iH s=true↔(1≤s.size∧s.size≤8)∧(s.data.toList.all fun b=>aBZ (b.toNat:Int))=true:=by
 unfold iH
 simp only [Bool.and_eq_true,decide_eq_true_eq]
theorem aGf {b:Int} (h1:oC b=false) (h2:jZ b=false) (h3:b≠95):nameB b=false:=by simp [nameB,h1,h2,h3]
theorem aIc (v:Int):aC Tryz.prog G0 120 [.dat I v] [] ⟨True,.dat .bool (iW v 0 1439),[]⟩ :=
 aA (c:=mkc K1) KS1 cO hm (aFO v ⟨rfl,fun _=>⟨trivial,rfl,trivial⟩⟩)
theorem aNH {b:Int} (h:oC b=false→jZ b=false→b=95):nameB b=true:=by
 unfold nameB
 cases q1:oC b with
 | true=>rfl
 | false=>cases q2:jZ b with
  | true=>rfl
  | false=>simpa using h q1 q2
theorem aOf {b:Int} (h:jZ b=false→65≤b∧b≤90):aBZ b=true:=by
 unfold aBZ
 cases q1:jZ b with
 | true=>rfl
 | false=>simpa using h q1
theorem aGK {b:Int} (h1:jZ b=false) (h2:b < 65∨b > 90):aBZ b=false:=by
 unfold aBZ;rw [h1];simp;omega
theorem aNd (s:ByteArray):aC Tryz.prog G0 132 [.dat S s] [] ⟨True,.dat .bool (fG s),[]⟩:=by
 refine aA (c:=mkc K1) KS1 cO hm (aJt s ⟨rfl,fun _=>?_⟩)
 simp only [oN,fA,D.and,D.not,Bool.true_and,eq_self,true_and,and_true,imp_self,implies_true,Bool.not_eq_true',Bool.or_eq_true,Bool.or_eq_false_iff,Bool.not_eq_false',Bool.and_eq_true,Bool.and_eq_false_imp,exists_eq_right',D.nil,D.ne,D.lt,D.gt,D.ilen,D.slen,D.ile,D.ilt,D.nlt,D.sub,D.add,D.nat,D.ofN,D.len,D.get,decide_eq_true_eq,decide_eq_false_iff_not,beq_iff_eq,bne_iff_ne,beq_eq_false_iff_ne,bne_eq_false_iff_eq,aFw,aAo]
 refine ⟨fun _=>Int.le_refl _,fun h=>by omega,fun h=>aGc fun g=>?_,fun ⟨⟨h1,h2⟩,h3⟩=>⟨aGd s,fun x hx=>⟨fun hlt=>?_,fun hge=>?_⟩⟩⟩
 ·rw [qC] at g
  rcases h with h | h
  ·omega
  ·rw [g.2.1] at h;cases h
 ·refine ⟨hx.1,hlt,fun ⟨⟨b1,b2⟩,b3⟩=>aGc fun g=>?_,fun hb=>⟨⟨by have:=hx.1;omega,by omega⟩,x + 1,aGe hx hlt (aNH fun q1 q2=>hb ⟨q1,q2⟩),rfl,by have:=hx.1;omega⟩⟩
  have:=aNG hx hlt (aGf b1 b2 b3)
  rw [(qC.1 g).2.2.1] at this;cases this
 ·refine ⟨rfl,aCM s,fun y hy=>⟨fun hlt=>⟨hy.1,by omega,rfl,fun he=>aGc fun g=>?_,fun hne=>⟨⟨by have:=hy.1;omega,by omega⟩,y + 1,aCN hy hlt hne,rfl,by have:=hy.1;omega⟩⟩,fun hge2=>(qC.2 ⟨by omega,h3,aIu hx hge,aE3 hy hge2⟩).symm⟩⟩
  have:=aO4 hy hlt he
  rw [(qC.1 g).2.2.2] at this;cases this
theorem aNf (s:ByteArray):aC Tryz.prog G0 143 [.dat S s] [] ⟨True,.dat .bool (iH s),[]⟩:=by
 refine aA (c:=mkc K1) KS1 cO hm (aJv s ⟨rfl,fun _=>?_⟩)
 simp only [oN,fA,D.and,D.not,Bool.true_and,eq_self,true_and,and_true,imp_self,implies_true,Bool.not_eq_true',Bool.or_eq_true,Bool.or_eq_false_iff,Bool.and_eq_true,Bool.and_eq_false_imp,exists_eq_right',D.lt,D.gt,D.ilen,D.slen,D.ile,D.ilt,D.nlt,D.sub,D.add,D.nat,D.get,decide_eq_true_eq,decide_eq_false_iff_not,aFw,aAo]
 refine ⟨fun h=>aLj fun g=>by rw [vS] at g;omega,fun ⟨h1,h2⟩=>⟨aGH s,fun x hx=>⟨fun hlt=>?_,fun hge=>(vS.2 ⟨by omega,aIQ hx hge⟩).symm⟩⟩⟩
 refine ⟨hx.1,hlt,fun ⟨b1,b2⟩=>aLj fun g=>?_,fun hb=>⟨⟨by have:=hx.1;omega,by omega⟩,x + 1,aGI hx hlt (aOf fun q1=>by have:=hb q1;omega),rfl,by have:=hx.1;omega⟩⟩
 have:=aOe hx hlt (aGK b1 b2)
 rw [(vS.1 g).2] at this;cases this
theorem aVd (s:ByteArray):aC Tryz.prog G0 152 [.dat S s] [] ⟨True,.dat .bool (isKey s),[]⟩:=by
 refine aA (c:=mkc K1) KS1 cO hm (aSE s ⟨rfl,fun _=>?_⟩)
 simp only [eq_self,true_and,and_true,exists_eq_right',D.nil,D.lt,D.ilen,D.ile,D.ilt,D.nlt,D.sub,D.add,D.nat,D.get,decide_eq_true_eq,decide_eq_false_iff_not,beq_iff_eq,beq_eq_false_iff_ne]
 have hl:(kw.length:Int)=17:=rfl
 refine ⟨aCM s,fun y hy=>⟨fun hlt=>⟨hy.1,hlt,fun he=>(aO4 hy (by omega) he.symm).symm,fun hne=>⟨⟨by have:=hy.1;omega,by omega⟩,y + 1,aCN hy (by omega) (fun e=>hne e.symm),rfl,by have:=hy.1;omega⟩⟩,fun hge=>(aE3 hy (by omega)).symm⟩⟩
theorem KS2:aQ Tryz.prog G0 K2:=by
 intro f args m c h
 unfold K2 at h
 split at h
 ·cases h;exact aIc _
 ·cases h;exact aNd _
 ·cases h;exact aNf _
 ·cases h;exact aVd _
 ·exact KS1 _ _ _ _ h
end Go.Eng.Sv
