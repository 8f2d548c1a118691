/- PeIn1j -/
import Derived.Test.YtlobbofhlcjlmaaGreatDoorZ22
import Derived.Test.YtlobbofhlcjlmaaGreatDoorChecked
set_option linter.unusedSimpArgs false
set_option linter.unusedVariables false
set_option maxRecDepth 100000
noncomputable section
namespace Go.Eng.In
open Go.Proofs
abbrev I:Ty:=.int .i64
abbrev B:Ty:=.sl .bool
abbrev R:Ty:=.sl I
abbrev M:Ty:=.sl R
abbrev LC:Type:=List (Int×List Bool×List Int)
abbrev LB:Type:=List ByteArray
abbrev C:Ty:=.pair I (.pair B R)
abbrev S:Ty:=.str
abbrev errV (t:TypeId) (e:Int):Value:=.iface t (.int .i64 e)
def big (x:Int):Prop:=-1000000000000≤x∧x≤1000000000000
def btw (x a b:Int):Bool:=decide (a≤x∧x≤b)
def dayF (z t:Int):Int:=(t + z) / 1440
def minF (z t:Int):Int:=(t + z) % 1440
def momF (z d m:Int):Int:=d * 1440 + m - z
def wkF (w:List Bool) (h:List Int) (d:Int):Bool:=w.getD (d % 7).toNat false && !h.contains d
def bsPos (h:List Int) (d:Int):Int:=((h.filter fun x=>decide (x < d)).length:Int)
def srt (h:List Int):Prop:=h.length≤1000000∧∀ i j:Nat,i < j→j < h.length→h.getD i 0 < h.getD j 0
def bsInv (h:List Int) (d i j:Int):Prop:=0≤i∧i≤j∧j≤h.length∧(∀ k:Nat,(k:Int) < i→h.getD k 0 < d)∧∀ k:Nat,j≤k→k < h.length→d≤h.getD k 0
def bsHas (h:List Int) (d:Int):Bool:=h.contains d
def validF (z:Int) (w:List Bool) (h:List Int):Bool:=decide (-720≤z∧z≤840∧w.length=7∧h.length≤40) && (List.range (h.length - 1)).all fun i=>decide (h.getD i 0 < h.getD (i + 1) 0)
def incTo (h:List Int) (k:Int):Prop:=1≤k∧(k≤h.length∨k=1)∧h.length≤40∧∀ i:Nat,(i:Int) + 1 < k→h.getD i 0 < h.getD (i + 1) 0
def wkP (w:List Bool) (h:List Int) (d:Int):Prop:=w.length=7∧srt h∧big d
def wdays (w:List Bool) (h:List Int) (a b:Int):List Int:=((List.range (b + 1 - a).toNat).map fun (i:Nat)=>a + (i:Int)).filter fun d=>wkF w h d
def cntTo (w:List Bool) (h:List Int) (a d:Int):Nat:=(((List.range (d - a).toNat).map fun (i:Nat)=>a + (i:Int)).filter fun d=>wkF w h d).length
def wdP (w:List Bool) (h:List Int) (a b:Int):Prop:=w.length=7∧srt h∧big a∧big b
def wdTo (a b d:Int):Prop:=a≤d∧(d≤b + 1∨d=a)
def hasOne (xs:List Int):Bool:=decide (0 < xs.length)
def hd (xs:List Int):Int:=xs.getD 0 0
def tl (xs:List Int):List Int:=xs.drop 1
def K0:Kt:=fun f args m=>none
def G0:List (Nat×AV):=[]
def KI0:FuncId→List AV→Option IRes:=fun _ _=>none
noncomputable def mkc (K:Kt):Cfg:=⟨Tryz.prog,G0,K,fun _=>false,KI0,false,fun _ _ _=>none,fun _=>false⟩
noncomputable def mkp (K:Kt) (mb:Tmp→Bool) (KP:KPt) (pf:FuncId→Bool):Cfg:=⟨Tryz.prog,G0,K,mb,KI0,false,KP,pf⟩
def flat (s:St):St:={ s with tm:=s.tm.map topU }
def validA (h:List Int):Ann:=⟨fun id s=>match id with
 | 4=>some { α:=Int,inv:=fun k=>incTo h k,st:=fun k=>put s [(3,.dat I k)],μ:=fun k=>D.nat (D.sub (D.ilen h) k) }
 | _=>none,fun _ _=>none,fun _ _=>none⟩
def bsA (h:List Int) (d:Int):Ann:=⟨fun id s=>match id with
 | 3=>some { α:=Int×Int,inv:=fun k=>bsInv h d k.1 k.2,st:=fun k=>put s [(7,.dat I k.1),(8,.dat I k.2)],μ:=fun k=>D.nat (D.sub k.2 k.1) }
 | _=>none,fun _ _=>none,fun _ _=>none⟩
theorem vc_btw (x a b:Int) (hvc :
 true=true∧(True→(D.ge x a=true→D.ge x a=true→D.ge x a=true)∧(D.ge x a=true→D.ge x a=true→D.ge x a=true)∧(D.and true
 (D.ge x a)=true→D.ge x a=true)∧D.cnd (D.ge x a) (D.le x b) false=btw x a b∧True)) :
  evF (mkc K0) noAnn 63 [.dat I x,.dat I a,.dat I b] [] ⟨True,.dat .bool (btw x a b),[]⟩:=@of_eq _ _ (by kernel_rfl) hvc
theorem vc_nan1 (x:Int) (hvc :
 true=true∧(True→D.ne x x=false∧True)) :
  evF (mkc K0) noAnn 159 [.dat I x] [] ⟨True,.dat .bool false,[]⟩:=@of_eq _ _ (by kernel_rfl) hvc
theorem vc_nan2 (x:Int) (hvc :
 true=true∧(True→D.ne x x=false∧True)) :
  evF (mkc K0) noAnn 164 [.dat I x] [] ⟨True,.dat .bool false,[]⟩:=@of_eq _ _ (by kernel_rfl) hvc
def K1:Kt:=kOr 63 (dataK [.val I,.val I,.val I] (fun _=>True) fun (x,a,b,_)=>.dat .bool (btw x a b)) <|
 kOr 159 (dataK [.val I] (fun _=>True) fun _=>.dat .bool false) <|
 kOr 164 (dataK [.val I] (fun _=>True) fun _=>.dat .bool false) K0
theorem vc_less (x y:Int) (hvc :
 let c1:=D.cnd false (D.not false) false;
 let c2:=D.not c1;true=true∧(True→True∧(false=true→false=true→false=true)∧(false=true→True)∧(false=true→false=true→false =
 true)∧(D.and true false=true→false=true)∧(c2=true→c2=true→c2=true)∧(c2=true→c2=true→c2=true)∧(D.and true c2=true→c2 =
 true)∧D.cnd c1 true (D.lt x y)=D.lt x y∧True)) :
  evF (mkc K1) noAnn 158 [.dat I x,.dat I y] [] ⟨True,.dat .bool (D.lt x y),[]⟩:=@of_eq _ _ (by kernel_rfl) hvc
def K2:Kt:=kOr 158 (dataK [.val I,.val I] (fun _=>True) fun (x,y,_)=>.dat .bool (D.lt x y)) K1
theorem vc_bs (h:List Int) (d:Int) (hvc :
 true=true∧(srt h→(∃ (x:Int×Int),bsInv h d x.fst x.snd∧h=h∧d=d∧(0:Int)=(0:Int)∧false=false∧D.ilen h=D.ilen h∧(0 :
 Int)=x.fst∧D.ilen h=x.snd∧h=h∧D.ilen h=D.ilen h∧D.ilen h=D.ilen h∧True)∧∀ (x:Int×Int),
 let c1:=D.lt x.fst x.snd;
 let c2:=D.add x.fst x.snd;
 let c3:=D.shr c2 (1:Int);
 let c4:=D.lt (D.get h (D.nat c3) (0:Int)) d;
 let c5:=D.add c3 (1:Int);
 let c6:=D.lt x.fst (D.ilen h);
 let c7:=D.eq (D.get h (D.nat x.fst) (0:Int)) d;
 let c8:=D.and c6 (D.not c7);bsInv h d x.fst x.snd→(c1=true→inR IntKind.i64 c2∧inR IntKind.u64 c2∧D.ile (0:Int) (1:Int)∧D.nle (D.nat (1 :
 Int)) (64)∧inR IntKind.i64 c3∧D.ile (0:Int) c3∧D.ilt c3 (D.ilen h)∧True∧(c4=true→inR IntKind.i64 c5∧∃ (y:Int×Int),bsInv h d y.fst y.snd
 ∧ (h=h∧d=d∧(0:Int)=(0:Int)∧false=false∧D.ilen h=D.ilen h∧c5=y.fst∧x.snd=y.snd∧h=h∧D.ilen h=D.ilen h∧D.ilen h=D.ilen h
 ∧ True)∧D.nlt (D.nat (D.sub y.snd y.fst)) (D.nat (D.sub x.snd x.fst)))∧(c4=false→∃ (y:Int×Int),bsInv h d y.fst y.snd∧(h=h∧d=d∧(0:Int)
 = (0:Int)∧false=false∧D.ilen h=D.ilen h∧x.fst=y.fst∧c3=y.snd∧h=h∧D.ilen h=D.ilen h∧D.ilen h=D.ilen h∧True)∧D.nlt (D.nat
 (D.sub y.snd y.fst)) (D.nat (D.sub x.snd x.fst))))∧(c1=false→(c6=true→c6=true→c6=true)∧(c6=true→c6=true→c6=true)∧(c6=true →
 D.ile (0:Int) x.fst)∧(c6=true→D.ilt x.fst (D.ilen h))∧(c6=true→c6=true→c6=true)∧(c6=true→c6=true→c6=true)∧(c6=true→c6 =
 true→c6=true)∧(c6=true→c6=true→c6=true)∧(c8=true→c8=true→c8=true)∧(c8=true→c8=true→c8=true)∧(c8=true→D.ile (0 :
 Int) x.fst)∧(c8=true→D.ilt x.fst (D.ilen h))∧(c8=true→c8=true→c8=true)∧(c8=true→c8=true→c8=true)∧(c8=true→True)∧(c8 =
 true→c8=true→c8=true)∧(D.and c8 false=true→D.and c8 false=true→D.and c8 false=true)∧(D.and c8 false=true→True)∧(c8=true→c8 =
 true→c8=true)∧(c8=true→D.and c8 false=true→D.and c8 false=true)∧(c6=true→c6=true→c6=true)∧(c6=true→c8=true→c8=true) ∧
 (D.and true c6=true→c6=true)∧x.fst=bsPos h d∧D.cnd c6 (D.cnd c7 true (D.cnd false false false)) false=bsHas h d∧True))) :
  evF (mkc K2) (bsA h d) 127 [.dat R h,.dat I d] [] ⟨srt h,.tup [.dat I (bsPos h d),.dat .bool (bsHas h d)],[]⟩:=@of_eq _ _ (by kernel_rfl) hvc
def K3:Kt:=kOr 127 (dataK [.val R,.val I] (fun (h,_,_)=>srt h) fun (h,d,_)=>.tup [.dat I (bsPos h d),.dat .bool (bsHas h d)]) K2
theorem vc_works (z d:Int) (w:List Bool) (h:List Int) (hvc :
 let c1:=D.add (D.rem d (7:Int)) (7:Int);
 let c2:=D.rem c1 (7:Int);
 let c3:=D.not (D.get w (D.nat c2) false);true=true∧(wkP w h d→D.ine (7:Int) (0:Int)∧inR IntKind.i64 c1∧D.ine (7:Int) (0:Int)∧D.ile (0 :
 Int) c2∧D.ilt c2 (D.ilen w)∧(c3=true→false=wkF w h d∧True)∧(c3=false→srt h∧D.not (bsHas h d)=wkF w h d∧True))) :
  evF (mkc K3) noAnn 101 [.ip C (z,w,h),.dat I d] [] ⟨wkP w h d,.dat .bool (wkF w h d),[]⟩:=@of_eq _ _ (by kernel_rfl) hvc
theorem vc_local (z t:Int) (w:List Bool) (h:List Int) (hvc :
 let c1:=D.add (D.rem (D.add t z) (1440:Int)) (1440:Int);
 let c2:=D.rem c1 (1440:Int);
 let c3:=D.sub (D.add t z) c2;
 let c4:=D.quo c3 (1440:Int);true=true∧(big z∧big t→inR IntKind.i64 (D.add t z)∧D.ine (1440:Int) (0:Int)∧inR IntKind.i64 c1∧D.ine (1440 :
 Int) (0:Int)∧inR IntKind.i64 c3∧D.ine (1440:Int) (0:Int)∧inR IntKind.i64 c4∧c4=dayF z t∧c2=minF z t∧True)) :
  evF (mkc K3) noAnn 73 [.ip C (z,w,h),.dat I t] [] ⟨big z∧big t,.tup [.dat I (dayF z t),.dat I (minF z t)],[]⟩:=@of_eq _ _ (by kernel_rfl) hvc
theorem vc_mom (z d m:Int) (w:List Bool) (h:List Int) (hvc :
 let c1:=D.mul d (1440:Int);
 let c2:=D.add c1 m;
 let c3:=D.sub c2 z;true=true∧(big z∧big d∧big m→inR IntKind.i64 c1∧inR IntKind.i64 c2∧inR IntKind.i64 c3∧c3=momF z d m∧True)) :
  evF (mkc K3) noAnn 69 [.ip C (z,w,h),.dat I d,.dat I m] [] ⟨big z∧big d∧big m,.dat I (momF z d m),[]⟩:=@of_eq _ _ (by kernel_rfl) hvc
theorem vc_wf (z:Int) (w:List Bool) (h:List Int) (hvc :
 let c1:=btw z (-720:Int) (840:Int);
 let c2:=D.not c1;
 let c3:=D.not c2;
 let c4:=D.cnd c2 true (D.ne (D.ilen w) (7:Int));
 let c5:=D.not c4;
 let c6:=D.cnd c4 true (D.gt (D.ilen h) (40:Int));
 let c7:=(z,w,h);true=true∧(True→True∧(c3=true→c3=true→c3=true)∧(c3=true→c3=true→c3=true)∧(c3=true→c3=true→c3 =
 true)∧(D.and true c3=true→c3=true)∧(c5=true→c5=true→c5=true)∧(c5=true→c5=true→c5=true)∧(c5=true→c5=true→c5=true) ∧
 (D.and true c5=true→c5=true)∧(c6=true→false=validF z w h∧True)∧(c6=false→(∃ x,incTo h x∧z=z∧w=w∧h=h∧c7=c7∧(1:Int) =
 x∧c7=c7∧z=z∧c1=c1∧c2=c2∧c2=c2∧c4=c4∧c4=c4∧c6=c6∧True)∧∀ (x:Int),
 let c8:=D.lt x (D.ilen h);
 let c9:=D.sub x (1:Int);
 let c10:=D.le (D.get h (D.nat x) (0:Int)) (D.get h (D.nat c9) (0:Int));
 let c11:=D.add x (1:Int);incTo h x→(c8=true→D.ile (0:Int) x∧D.ilt x (D.ilen h)∧inR IntKind.i64 c9∧D.ile (0:Int) c9∧D.ilt c9 (D.ilen h) ∧
 (c10=true→false=validF z w h∧True)∧(c10=false→inR IntKind.i64 c11∧∃ y,incTo h y∧(z=z∧w=w∧h=h∧c7=c7∧c11=y∧c7=c7∧z=z
 ∧ c1=c1∧c2=c2∧c2=c2∧c4=c4∧c4=c4∧c6=c6∧True)∧D.nlt (D.nat (D.sub (D.ilen h) y)) (D.nat (D.sub (D.ilen h) x))))∧(c8=false→true =
 validF z w h∧True)))) :
  evF (mkc K3) (validA h) 65 [.agg [.dat I z,.dat B w,.dat R h]] [] ⟨True,.dat .bool (validF z w h),[]⟩:=@of_eq _ _ (by kernel_rfl) hvc
theorem vc_wdays (z a b:Int) (w:List Bool) (h:List Int) (hvc :
 let c1:=(z,w,h);true=true∧(True→a=a∧b=b∧c1=c1∧True)) :
  evF (mkc K3) noAnn 68 [.ip C (z,w,h),.dat I a,.dat I b] [] ⟨True,.fn 100 [.ip I a,.ip I b,.ipv (.ip C (z,w,h))],[]⟩:=@of_eq _ _ (by kernel_rfl) hvc
theorem vc_req (b:Bool) (e:Int) (hvc :
 let c1:=chainOf (Value.iface (39) (Value.int IntKind.i64 e));true=true∧(True→(D.not b=true→(true=true→True∧(false=false→b=false∧true
 = true∧c1=c1))∧True)∧(D.not b=false→b=true∧True))) :
  evC (mkc K3) noAnn 25 [.dat .bool b,.dat I e] (.tup []) ⟨True,b,errV 39 e⟩:=@of_eq _ _ (by kernel_rfl) hvc
theorem vc_code (e:Int) (hvc :
 true=true∧(True→(true=true→e=e∧True)∧(true=false→(190:Int)=e∧True))) :
  evF (mkc K3) noAnn 23 [.ifc 39 (.dat I e)] [] ⟨True,.dat I e,[]⟩:=@of_eq _ _ (by kernel_rfl) hvc
def KPr:KPt:=pOr 25 (dataP [.val .bool,.val I] fun (b,e,_)=>⟨True,b,errV 39 e⟩) noP
def K4:Kt:=kOr 101 (dataK [.ptr C,.val I] (fun (c,d,_)=>wkP c.2.1 c.2.2 d) fun (c,d,_)=>.dat .bool (wkF c.2.1 c.2.2 d)) <|
 kOr 73 (dataK [.ptr C,.val I] (fun (c,t,_)=>big c.1∧big t) fun (c,t,_)=>.tup [.dat I (dayF c.1 t),.dat I (minF c.1 t)]) <|
 kOr 69 (dataK [.ptr C,.val I,.val I] (fun (c,d,m,_)=>big c.1∧big d∧big m) fun (c,d,m,_)=>.dat I (momF c.1 d m)) <|
 kOr 65 (dataK [.row C] (fun _=>True) fun (c,_)=>.dat .bool (validF c.1 c.2.1 c.2.2)) <|
 kOr 68 (dataK [.ptr C,.val I,.val I] (fun _=>True) fun (c,a,b,_)=>.fn 100 [.ip I a,.ip I b,.ipv (.ip C c)]) <|
 kOr 25 (dataK [.val .bool,.val I] (fun (b,_)=>True∧b=true) fun _=>.tup []) K3
def wdA (w:List Bool) (h:List Int) (a b:Int):AnnY:=⟨fun id y=>match id with
 | 1=>some { α:=Int,inv:=fun d=>wdTo a b d,st:=fun d=>⟨put y.s [(5,.dat I d)],cntTo w h a d,true⟩,μ:=fun d=>D.nat (D.sub (D.add b 1) d) }
 | _=>none,fun _ _=>none,fun id=>id == 3⟩
theorem vc_wdi (z a b:Int) (w:List Bool) (h:List Int) (hvc :
 let c1:=(z,w,h);
 let c2:=wdays w h a b;
 let c3:=D.len c2;
 let c4:=D.add b (1:Int);true=true∧true=true∧true=true∧false=false∧∀ (l:Nat),wdP w h a b→(∃ x,wdTo a b x∧(l=l∧a=a∧b=b∧c1
 = c1∧a=x∧a=a∧True)∧0=cntTo w h a x∧true=true)∧∀ (x:Int),
 let c5:=cntTo w h a x;
 let c6:=D.nadd c5 (1);
 let c7:=D.add x (1:Int);
 let c8:=D.cnd (wkF w h x) (D.not false) false;wdTo a b x→(D.le x b=true→wkP w h x∧(wkF w h x=true→(wkF w h x=true→wkF w h x=true)∧(wkF w
 h x=true→wkF w h x=true)∧l=l∧true=true∧isAt c2 c5 x∧∀ (b_1:Bool),
 let c9:=D.cnd (wkF w h x) (D.not b_1) false;(D.and true (wkF w h x)=true→wkF w h x=true)∧(c9=true→b_1=true→c6=c3)∧(c9=false→inR
 IntKind.i64 c7∧∃ y,wdTo a b y∧((l=l∧a=a∧b=b∧c1=c1∧c7=y∧a=a∧True)∧c6=cntTo w h a y∧b_1=true)∧D.nlt (D.nat (D.sub c4 y))
 (D.nat (D.sub c4 x))))∧(wkF w h x=false→(wkF w h x=true→wkF w h x=true→wkF w h x=true)∧(D.and true (wkF w h x)=true→wkF w h x=true) ∧
 (c8=true→true=true→c5=c3)∧(c8=false→inR IntKind.i64 c7∧∃ y,wdTo a b y∧((l=l∧a=a∧b=b∧c1=c1∧c7=y∧a=a∧True)∧c5 =
 cntTo w h a y∧true=true)∧D.nlt (D.nat (D.sub c4 y)) (D.nat (D.sub c4 x)))))∧(D.le x b=false→true=true→c5=c3)) :
  evI (mkc K4) (wdA w h a b) 100 [.ip I a,.ip I b,.ipv (.ip C (z,w,h))] ⟨wdP w h a b,I,wdays w h a b⟩:=@of_eq _ _ (by kernel_rfl) hvc
def cR:Cfg:=mkp K4 (fun _=>false) KPr (fun f=>f == 25)
theorem vc_next1 (xs:List Int) (hvc :
 let c1:=D.gt (D.ilen xs) (0:Int);
 let c2:=chainOf (Value.iface (39) (Value.int IntKind.i64 (190:Int)));true=true∧(True→1=1∧1=1∧1=1∧1=1∧0=0∧(true=true→True ∧
 (c1=false→hasOne xs=false∧true=true∧c2=c2))∧((true=true→c1=true)→(True∧c1=true)∧1=1∧1=1∧1=1∧0=0∧D.ile (0:Int)
 (0:Int)∧D.ilt (0:Int) (D.ilen xs)∧1=1∧1=1∧1=1∧0=0∧D.ile (0:Int) (1:Int)∧D.ile (1:Int) (D.ilen xs)∧1=1∧1=1∧1=1∧0 =
 0∧hasOne xs=true∧D.get xs (D.nat (0:Int)) (0:Int)=hd xs∧D.tail xs (1:Int)=tl xs∧1=1∧True))) :
  evM cR noAnn 98 [.ptr 1 1 0 0] [(1,.var [.dat R xs])] (.dat I (hd xs)) [(1,.var [.dat R (tl xs)])] ⟨True,hasOne xs,errV 39 190⟩:=@of_eq _ _ (by kernel_rfl) hvc
theorem cnd_or (x y:Bool):D.cnd x true y=(x || y):=by cases x <;> rfl
theorem cnd_and (x y:Bool):D.cnd x y false=(x && y):=by cases x <;> rfl
theorem hm:Tryz.prog.follows .mixedOrders=true:=by kernel_rfl
theorem KS0:KSound Tryz.prog G0 K0:=fun f args m c h=>by cases h
theorem KI0s:KISound Tryz.prog G0 KI0:=fun f args c h=>by cases h
theorem btw_iff {x a b:Int}:btw x a b=true↔a≤x∧x≤b:=by unfold btw;rw [decide_eq_true_eq]
theorem getD_mem {α:Type} {l:List α} {i:Nat} {d:α} (h:i < l.length):l.getD i d ∈ l:=by
 rw [List.getD_eq_getElem?_getD,List.getElem?_eq_getElem h]
 exact List.getElem_mem h
theorem t_btw (x a b:Int):SoundC Tryz.prog G0 63 [.dat I x,.dat I a,.dat I b] [] ⟨True,.dat .bool (btw x a b),[]⟩:=by
 refine sound_of_ev (c:=mkc K0) KS0 KI0s hm (vc_btw x a b ⟨rfl,fun _=>?_⟩)
 simp only [cnd_and,D.and,Bool.true_and,true_and,and_true,imp_self,implies_true,D.le,D.ge,decide_eq_true_eq]
 unfold btw;simp
theorem t_nan1 (x:Int):SoundC Tryz.prog G0 159 [.dat I x] [] ⟨True,.dat .bool false,[]⟩ :=
 sound_of_ev (c:=mkc K0) KS0 KI0s hm (vc_nan1 x ⟨rfl,fun _=>⟨by simp,trivial⟩⟩)
theorem t_nan2 (x:Int):SoundC Tryz.prog G0 164 [.dat I x] [] ⟨True,.dat .bool false,[]⟩ :=
 sound_of_ev (c:=mkc K0) KS0 KI0s hm (vc_nan2 x ⟨rfl,fun _=>⟨by simp,trivial⟩⟩)
theorem KS1:KSound Tryz.prog G0 K1:=kOr_ok (dataK_ok fun (x,a,b,_)=>t_btw x a b) <|
 kOr_ok (dataK_ok fun (x,_)=>t_nan1 x) <| kOr_ok (dataK_ok fun (x,_)=>t_nan2 x) KS0
theorem t_less (x y:Int):SoundC Tryz.prog G0 158 [.dat I x,.dat I y] [] ⟨True,.dat .bool (D.lt x y),[]⟩:=by
 refine sound_of_ev (c:=mkc K1) KS1 KI0s hm (vc_less x y ⟨rfl,fun _=>?_⟩)
 simp only [D.and,D.not,Bool.true_and,Bool.and_true,eq_self,and_true,imp_self,implies_true,Bool.not_false,D.cnd,cond_false,Bool.false_eq_true]
theorem KS2:KSound Tryz.prog G0 K2:=kOr_ok (dataK_ok fun (x,y,_)=>t_less x y) KS1
theorem srt_le {h:List Int} (hs:srt h) {i j:Nat} (hij:i≤j) (hj:j < h.length):h.getD i 0≤h.getD j 0:=by
 rcases Nat.lt_or_ge i j with g | g
 ·exact Int.le_of_lt (hs.2 i j g hj)
 ·have:i=j:=by omega
  rw [this];exact Int.le_refl _
theorem bs_end {h:List Int} {d i:Int} (hs:srt h) (hi:bsInv h d i i):i=bsPos h d∧(bsHas h d=true↔i < h.length∧h.getD i.toNat 0=d):=by
 obtain ⟨h1,_,h3,h4,h5⟩:=hi
 constructor
 ·unfold bsPos
  have e:h=h.take i.toNat ++ h.drop i.toNat:=(List.take_append_drop _ _).symm
  have l1:(h.take i.toNat).filter (fun x=>decide (x < d))=h.take i.toNat:=List.filter_eq_self.2 fun x hx=>by
   obtain ⟨k,hk,rfl⟩:=List.mem_iff_getElem.1 hx
   rw [List.length_take] at hk
   have:=h4 k (by omega)
   rw [List.getD_eq_getElem?_getD,List.getElem?_eq_getElem (by omega)] at this
   rw [List.getElem_take];exact decide_eq_true this
  have l2:(h.drop i.toNat).filter (fun x=>decide (x < d))=[]:=List.filter_eq_nil_iff.2 fun x hx=>by
   obtain ⟨k,hk,rfl⟩:=List.mem_iff_getElem.1 hx
   rw [List.length_drop] at hk
   have:=h5 (i.toNat + k) (by omega) (by omega)
   rw [List.getD_eq_getElem?_getD,List.getElem?_eq_getElem (by omega)] at this
   rw [List.getElem_drop];simpa using this
  rw [e,List.filter_append,l1,l2,List.append_nil,List.length_take]
  omega
 ·unfold bsHas
  rw [List.contains_iff_mem]
  constructor
  ·intro hm
   obtain ⟨k,hk,e⟩:=List.mem_iff_getElem.1 hm
   have e2:h.getD k 0=d:=by rw [List.getD_eq_getElem?_getD,List.getElem?_eq_getElem hk];exact e
   have k1:¬ (k:Int) < i:=fun g=>by have:=h4 k g;omega
   refine ⟨by omega,?_⟩
   have:=srt_le hs (i:=i.toNat) (j:=k) (by omega) hk
   have:=h5 i.toNat (by omega) (by omega)
   omega
  ·rintro ⟨hlt,e⟩
   rw [← e];exact getD_mem (by omega)
theorem in_big {x:Int} (h:-4000000000000000≤x∧x≤4000000000000000):inR .i64 x:=⟨show (-9223372036854775808:Int)≤x by omega,show x≤9223372036854775807 by omega⟩
theorem t_bs (h:List Int) (d:Int):SoundC Tryz.prog G0 127 [.dat R h,.dat I d] [] ⟨srt h,.tup [.dat I (bsPos h d),.dat .bool (bsHas h d)],[]⟩:=by
 refine sound_of_ev (c:=mkc K2) KS2 KI0s hm (vc_bs h d ⟨rfl,fun hs=>?_⟩)
 have hl:=hs.1
 refine ⟨⟨(0,D.ilen h),⟨Int.le_refl _,Int.natCast_nonneg _,Int.le_refl _,fun k g=>by omega,fun k g1 g2=>by simp only [D.ilen] at g1;omega⟩,?_⟩,fun ⟨i,j⟩=>?_⟩
 ·simp
 intro c1 c2 c3 c4 c5 c6 c7 c8 hi
 have hi':=hi
 obtain ⟨h1,h2,h3,h4,h5⟩:=hi
 have e3:c3=(i + j) / 2:=by
  show (i + j).fdiv (2 ^ (1:Int).toNat)=_
  rw [Int.fdiv_eq_ediv_of_nonneg _ (by decide)];rfl
 have e2:c2=i + j:=rfl
 have e5:c5=c3 + 1:=rfl
 have e1:c1=decide (i < j):=rfl
 have e4:c4=decide (h.getD c3.toNat 0 < d):=rfl
 have hiu:inR .u64 c2:=by
  rw [e2];exact ⟨show (0:Int)≤i + j by omega,show i + j≤18446744073709551615 by omega⟩
 clear_value c1 c2 c3 c4 c5
 constructor
 ·intro hc1
  rw [e1,decide_eq_true_eq] at hc1
  refine ⟨by rw [e2];exact in_big (by omega),hiu,by decide,by decide,in_big (by omega),by show (0:Int)≤c3;omega,by show c3 < (h.length:Int);omega,trivial,fun hc4=>?_,fun hc4=>?_⟩
  ·rw [e4,decide_eq_true_eq] at hc4
   refine ⟨by rw [e5];exact in_big (by omega),(c5,j),⟨by omega,by omega,h3,fun k hk=>?_,h5⟩,by simp,?_⟩
   ·have:=srt_le hs (i:=k) (j:=c3.toNat) (by omega) (by omega)
    omega
   ·simp only [D.nlt,D.nat,D.sub];omega
  ·rw [e4,decide_eq_false_iff_not] at hc4
   refine ⟨(i,c3),⟨h1,by omega,by omega,h4,fun k hk hk2=>?_⟩,by simp,?_⟩
   ·have:=srt_le hs (i:=c3.toNat) (j:=k) (by omega) (by omega)
    omega
   ·simp only [D.nlt,D.nat,D.sub];omega
 ·intro hc1
  rw [e1,decide_eq_false_iff_not] at hc1
  have:i=j:=by omega
  subst this
  obtain ⟨b1,b2⟩:=bs_end hs hi'
  have e6:c6=decide (i < h.length):=rfl
  have e7:c7=decide (h.getD i.toNat 0=d):=rfl
  have e8:c8=(c6 && !c7):=rfl
  clear_value c6 c7 c8
  have hlt:c6=true→i < (h.length:Int):=fun g=>by rw [e6] at g;exact of_decide_eq_true g
  have g8:c8=true→c6=true:=fun g=>by rw [e8,Bool.and_eq_true] at g;exact g.1
  simp only [cnd_or,cnd_and,D.and,Bool.true_and,true_and,and_true,imp_self,implies_true,Bool.and_eq_true]
  and_intros
  all_goals first
   | exact fun _=>h1
   | exact hlt
   | exact fun g=>hlt (g8 g)
   | exact b1
   | exact fun g=>g8 g
   | skip
  rw [Bool.eq_iff_iff,b2,e6,e7]
  simp
theorem KS3:KSound Tryz.prog G0 K3:=kOr_ok (dataK_ok fun (h,d,_)=>t_bs h d) KS2
theorem norm_mod {a m:Int} (h:0 < m):(a.tmod m + m).tmod m=a % m:=by
 have e:=Int.tmod_eq_emod (a:=a) (b:=m)
 have n0:=Int.emod_nonneg a (show m≠0 by omega)
 have n1:=Int.emod_lt_of_pos a h
 have hna:(m.natAbs:Int)=m:=by omega
 have e2:a.tmod m=a % m∨a.tmod m=a % m - m:=by
  rw [e];split
  ·exact .inl (by omega)
  ·exact .inr (by omega)
 have nn:0≤a.tmod m + m:=by omega
 rw [Int.tmod_eq_emod_of_nonneg nn]
 rcases e2 with e2 | e2 <;> rw [e2]
 ·rw [Int.add_emod_right,Int.emod_emod_of_dvd _ (Int.dvd_refl _)]
 ·rw [Int.sub_add_cancel,Int.emod_emod_of_dvd _ (Int.dvd_refl _)]
theorem t_works (z d:Int) (w:List Bool) (h:List Int):SoundC Tryz.prog G0 101 [.ip C (z,w,h),.dat I d] [] ⟨wkP w h d,.dat .bool (wkF w h d),[]⟩:=by
 refine sound_of_ev (c:=mkc K3) KS3 KI0s hm (vc_works z d w h ⟨rfl,fun ⟨hw,hs,hb⟩=>?_⟩)
 have e:=norm_mod (a:=d) (m:=7) (by decide)
 have n0:=Int.emod_nonneg d (show (7:Int)≠0 by decide)
 have n1:=Int.emod_lt_of_pos d (show (0:Int) < 7 by decide)
 have tb:-7 < d.tmod 7∧d.tmod 7 < 7:=by
  have:=Int.tmod_eq_emod (a:=d) (b:=7)
  split at this <;> omega
 simp only [D.rem,D.add,e,D.not,D.get,D.nat,D.ile,D.ilt,D.ine,D.ilen,hw]
 refine ⟨by decide,in_big (by omega),by decide,n0,by omega,fun h1=>⟨?_,trivial⟩,fun h1=>⟨hs,?_,trivial⟩⟩
 ·unfold wkF
  rw [Bool.not_eq_true'] at h1
  rw [h1];rfl
 ·unfold wkF bsHas
  rw [Bool.not_eq_false'] at h1
  rw [h1];rfl
theorem t_local (z t:Int) (w:List Bool) (h:List Int):SoundC Tryz.prog G0 73 [.ip C (z,w,h),.dat I t] [] ⟨big z∧big t,.tup [.dat I (dayF z t),.dat I (minF z t)],[]⟩:=by
 refine sound_of_ev (c:=mkc K3) KS3 KI0s hm (vc_local z t w h ⟨rfl,fun ⟨hz,ht⟩=>?_⟩)
 obtain ⟨z1,z2⟩:=hz
 obtain ⟨t1,t2⟩:=ht
 have e:=norm_mod (a:=t + z) (m:=1440) (by decide)
 have n0:=Int.emod_nonneg (t + z) (show (1440:Int)≠0 by decide)
 have n1:=Int.emod_lt_of_pos (t + z) (show (0:Int) < 1440 by decide)
 have tb:-1440 < (t + z).tmod 1440∧(t + z).tmod 1440 < 1440:=by
  have:=Int.tmod_eq_emod (a:=t + z) (b:=1440)
  split at this <;> omega
 have eq:(t + z - (t + z) % 1440).tdiv 1440=(t + z) / 1440:=by
  have:t + z - (t + z) % 1440=1440 * ((t + z) / 1440):=by omega
  rw [this,Int.mul_tdiv_cancel_left _ (by decide)]
 have big2:∀ {x:Int},-4000000000000≤x→x≤4000000000000→inR .i64 x:=fun {x} h1 h2=>⟨show (-9223372036854775808:Int)≤x by omega,show x≤9223372036854775807 by omega⟩
 simp only [D.rem,D.add,D.sub,D.quo,e,eq]
 exact ⟨big2 (by omega) (by omega),by decide,big2 (by omega) (by omega),by decide,big2 (by omega) (by omega),by decide,big2 (by omega) (by omega),rfl,rfl,trivial⟩
theorem t_mom (z d m:Int) (w:List Bool) (h:List Int):SoundC Tryz.prog G0 69 [.ip C (z,w,h),.dat I d,.dat I m] [] ⟨big z∧big d∧big m,.dat I (momF z d m),[]⟩:=by
 refine sound_of_ev (c:=mkc K3) KS3 KI0s hm (vc_mom z d m w h ⟨rfl,fun ⟨⟨z1,z2⟩,⟨d1,d2⟩,⟨m1,m2⟩⟩=>?_⟩)
 have big2:∀ {x:Int},-4000000000000000≤x→x≤4000000000000000→inR .i64 x:=fun {x} h1 h2=>⟨show (-9223372036854775808:Int)≤x by omega,show x≤9223372036854775807 by omega⟩
 exact ⟨big2 (by simp only [D.mul];omega) (by simp only [D.mul];omega),big2 (by simp only [D.mul,D.add];omega) (by simp only [D.mul,D.add];omega),big2 (by simp only [D.mul,D.add,D.sub];omega) (by simp only [D.mul,D.add,D.sub];omega),rfl,trivial⟩
def ValidP (z:Int) (w:List Bool) (h:List Int):Prop:=(-720≤z∧z≤840∧w.length=7∧h.length≤40)∧∀ i:Nat,i + 1 < h.length→h.getD i 0 < h.getD (i + 1) 0
theorem validF_iff {z:Int} {w:List Bool} {h:List Int}:validF z w h=true↔ValidP z w h:=by
 unfold validF ValidP
 rw [Bool.and_eq_true,decide_eq_true_eq,List.all_eq_true]
 refine and_congr_right fun _=>⟨fun g i hi=>?_,fun g i hi=>?_⟩
 ·have:=g i (List.mem_range.2 (by omega))
  simpa using this
 ·have:=List.mem_range.1 hi
  simpa using g i (by omega)
theorem validF_not {z:Int} {w:List Bool} {h:List Int} (hn:¬ ValidP z w h):false=validF z w h:=by
 cases hv:validF z w h with
 | false=>rfl
 | true=>exact (hn (validF_iff.1 hv)).elim
theorem valid_srt {z:Int} {w:List Bool} {h:List Int} (hv:validF z w h=true):srt h:=by
 obtain ⟨⟨_,_,_,h4⟩,h5⟩:=validF_iff.1 hv
 refine ⟨by omega,fun i j hij hj=>?_⟩
 induction j with
 | zero=>omega
 | succ j ih =>
  have:=h5 j (by omega)
  rcases Nat.lt_or_ge i j with g | g
  ·have:=ih g (by omega);omega
  ·have:i=j:=by omega
   rw [this];assumption
theorem t_wf (z:Int) (w:List Bool) (h:List Int):SoundC Tryz.prog G0 65 [.agg [.dat I z,.dat B w,.dat R h]] [] ⟨True,.dat .bool (validF z w h),[]⟩:=by
 refine sound_of_ev (c:=mkc K3) KS3 KI0s hm (vc_wf z w h ⟨rfl,fun _=>?_⟩)
 have eb:btw z (-720) 840=decide (-720≤z∧z≤840):=rfl
 simp only [eb]
 simp only [cnd_or,D.and,D.not,Bool.true_and,true_and,and_true,imp_self,implies_true,Bool.not_eq_true',Bool.or_eq_true,Bool.or_eq_false_iff,Bool.not_eq_false',Bool.not_not,exists_eq_right',D.ne,D.lt,D.gt,D.le,D.ilen,D.ile,D.ilt,D.nlt,D.sub,D.add,D.nat,D.get,decide_eq_true_eq,decide_eq_false_iff_not,bne_iff_ne,bne_eq_false_iff_eq]
 refine ⟨fun hb=>validF_not fun hv=>?_,fun ⟨⟨⟨h1,h2⟩,h3⟩,h4⟩=>⟨⟨Int.le_refl _,.inr rfl,by omega,fun i hi=>by omega⟩,fun x hx=>⟨fun hlt=>?_,fun hge=>(validF_iff.2 ⟨⟨by omega,by omega,by omega,by omega⟩,fun i hi=>hx.2.2.2 i (by omega)⟩).symm⟩⟩⟩
 ·obtain ⟨⟨g1,g2,g3,g4⟩,_⟩:=hv
  omega
 ·have hx1:=hx.1
  have hx3:=hx.2.2.1
  refine ⟨by omega,hlt,in_big (by omega),by omega,by omega,fun hle=>validF_not fun hv=>?_,fun hn=>⟨in_big (by omega),x + 1,⟨by omega,by omega,hx3,fun i hi=>?_⟩,rfl,by omega⟩⟩
  ·have:=hv.2 (x - 1).toNat (by omega)
   rw [show (x - 1).toNat + 1=x.toNat by omega] at this
   omega
  ·by_cases e:(i:Int) + 1 < x
   ·exact hx.2.2.2 i e
   ·have e1:(x - 1).toNat=i:=by omega
    have e2:x.toNat=i + 1:=by omega
    rw [e1,e2] at hn;omega
theorem t_wdays (z a b:Int) (w:List Bool) (h:List Int):SoundC Tryz.prog G0 68 [.ip C (z,w,h),.dat I a,.dat I b] [] ⟨True,.fn 100 [.ip I a,.ip I b,.ipv (.ip C (z,w,h))],[]⟩ :=
 sound_of_ev (c:=mkc K3) KS3 KI0s hm (vc_wdays z a b w h ⟨rfl,fun _=>⟨rfl,rfl,rfl,trivial⟩⟩)
theorem t_req (b:Bool) (e:Int):SoundC Tryz.prog G0 25 [.dat .bool b,.dat I e] [] ⟨True∧b=true,.tup [],[]⟩∧SoundP Tryz.prog G0 25 [.dat .bool b,.dat I e] [] ⟨True,b,errV 39 e⟩:=by
 refine sound_of_evC (c:=mkc K3) KS3 KI0s hm noP_ok (vc_req b e ⟨rfl,fun _=>⟨fun h=>⟨fun _=>⟨trivial,fun _=>⟨?_,rfl,rfl⟩⟩,trivial⟩,fun h=>⟨?_,trivial⟩⟩⟩)
 ·simpa using h
 ·simpa using h
theorem t_code (e:Int):SoundC Tryz.prog G0 23 [.ifc 39 (.dat I e)] [] ⟨True,.dat I e,[]⟩ :=
 sound_of_ev (c:=mkc K3) KS3 KI0s hm (vc_code e ⟨rfl,fun _=>⟨fun _=>⟨rfl,trivial⟩,fun h=>by cases h⟩⟩)
theorem KS4:KSound Tryz.prog G0 K4:=kOr_ok (dataK_ok fun ((z,w,h),d,_)=>t_works z d w h) <| kOr_ok (dataK_ok fun ((z,w,h),t,_)=>t_local z t w h) <| kOr_ok (dataK_ok fun ((z,w,h),d,m,_)=>t_mom z d m w h) <|
 kOr_ok (dataK_ok fun ((z,w,h),_)=>t_wf z w h) <| kOr_ok (dataK_ok fun ((z,w,h),a,b,_)=>t_wdays z a b w h) <| kOr_ok (dataK_ok fun (b,e,_)=>(t_req b e).1) KS3
theorem KPr_ok:KPSound Tryz.prog G0 KPr:=pOr_ok (dataP_ok fun (b,e,_)=>(t_req b e).2) noP_ok
theorem filt_at {α:Type} {f:Nat→α} {p:α→Bool} {k:Nat} (hp:p (f k)=true):∀ N:Nat,k < N→(((List.range N).map f).filter p)[(((List.range k).map f).filter p).length]?=some (f k)
 | 0,h=>by omega
 | N + 1,h=>by
  rw [List.range_succ,List.map_append,List.filter_append]
  rcases Nat.lt_or_ge k N with hk | hk
  ·have ih:=filt_at hp N hk
   rw [List.getElem?_append_left (List.getElem?_eq_some_iff.1 ih).1]
   exact ih
  ·have e:N=k:=by omega
   subst e
   rw [List.getElem?_append_right (Nat.le_refl _),Nat.sub_self]
   simp [hp]
theorem at_list {w:List Bool} {h:List Int} {a b x:Int} (h1:a≤x) (h2:x≤b) (hw:wkF w h x=true):isAt (wdays w h a b) (cntTo w h a x) x:=by
 have e:a + ((x - a).toNat:Int)=x:=by omega
 have:=filt_at (f:=fun (i:Nat)=>a + (i:Int)) (p:=fun d=>wkF w h d) (k:=(x - a).toNat) (by simp only [e];exact hw) (b + 1 - a).toNat (by omega)
 simp only [e] at this
 exact this
theorem cnt_succ {w:List Bool} {h:List Int} {a x:Int} (h1:a≤x):cntTo w h a (x + 1)=cntTo w h a x + (if wkF w h x then 1 else 0):=by
 unfold cntTo
 rw [show (x + 1 - a).toNat=(x - a).toNat + 1 by omega,List.range_succ,List.map_append,List.filter_append,List.length_append]
 have e:a + ((x - a).toNat:Int)=x:=by omega
 congr 1
 simp only [List.map_cons,List.map_nil,e,List.filter_cons,List.filter_nil]
 split <;> simp_all
theorem cnt_zero (w:List Bool) (h:List Int) (a:Int):cntTo w h a a=0:=by
 unfold cntTo
 rw [show (a - a).toNat=0 by omega];rfl
theorem cnt_end {w:List Bool} {h:List Int} {a b x:Int} (hx:wdTo a b x) (hge:¬ x≤b):cntTo w h a x=(wdays w h a b).length:=by
 unfold cntTo wdays
 have e:(x - a).toNat=(b + 1 - a).toNat:=by
  rcases hx with ⟨h1,h2 | h2⟩ <;> omega
 rw [e]
theorem t_wdi (z a b:Int) (w:List Bool) (h:List Int):IterC Tryz.prog G0 100 [.ip I a,.ip I b,.ipv (.ip C (z,w,h))] ⟨wdP w h a b,I,wdays w h a b⟩:=by
 refine iter_of_ev (c:=mkc K4) KS4 KI0s hm (vc_wdi z a b w h ⟨rfl,rfl,rfl,rfl,fun l ⟨hw,hs,⟨a1,a2⟩,⟨b1,b2⟩⟩=>?_⟩)
 refine ⟨⟨a,⟨Int.le_refl _,.inr rfl⟩,⟨rfl,rfl,rfl,rfl,rfl,rfl,trivial⟩,(cnt_zero w h a).symm,rfl⟩,fun x hx=>?_⟩
 obtain ⟨x1,x2⟩:=hx
 refine ⟨fun hlt=>?_,fun hge _=>cnt_end ⟨x1,x2⟩ (by simpa using hge)⟩
 have hlt:x≤b:=by simpa using hlt
 have hb:big x:=⟨by omega,by omega⟩
 refine ⟨⟨hw,hs,hb⟩,fun hk=>⟨fun h=>h,fun h=>h,rfl,rfl,at_list x1 hlt hk,fun bb=>⟨fun _=>hk,fun h9 hb1=>?_,fun h9=>?_⟩⟩,fun hk=>⟨fun _ h=>h,fun _=>?_,fun h8 _=>?_,fun h8=>?_⟩⟩
 ·rw [hk,hb1] at h9;cases h9
 ·rw [hk] at h9
  have:bb=true:=by simpa [D.cnd,D.not] using h9
  refine ⟨in_big (by simp only [D.add];omega),x + 1,⟨by omega,.inl (by omega)⟩,⟨⟨rfl,rfl,rfl,rfl,rfl,rfl,trivial⟩,?_,this⟩,?_⟩
  ·rw [cnt_succ x1,hk];rfl
  ·simp only [D.nlt,D.nat,D.sub,D.add];omega
 ·rename_i hk2;rw [hk] at hk2;cases hk2
 ·rw [hk] at h8;cases h8
 ·refine ⟨in_big (by simp only [D.add];omega),x + 1,⟨by omega,.inl (by omega)⟩,⟨⟨rfl,rfl,rfl,rfl,rfl,rfl,trivial⟩,?_,rfl⟩,?_⟩
  ·rw [cnt_succ x1,hk];rfl
  ·simp only [D.nlt,D.nat,D.sub,D.add];omega
theorem t_next1 (xs:List Int):SoundC Tryz.prog G0 98 [.ptr 1 1 0 0] [(1,.var [.dat R xs])] ⟨True∧hasOne xs=true,.dat I (hd xs),[(1,.var [.dat R (tl xs)])]⟩∧SoundP Tryz.prog G0 98 [.ptr 1 1 0 0] [(1,.var [.dat R xs])] ⟨True,hasOne xs,errV 39 190⟩:=by
 refine sound_of_evM (c:=cR) KS4 KI0s hm KPr_ok (vc_next1 xs ⟨rfl,fun _=>?_⟩)
 have e:D.gt (D.ilen xs) 0=hasOne xs:=by unfold hasOne;simp
 simp only [e]
 simp only [true_and,and_true,imp_self,forall_const,D.ilen,D.ile,D.ilt,D.nat,D.get,D.tail]
 refine fun h=>?_
 have hl:0 < xs.length:=by unfold hasOne at h;simpa using h
 exact ⟨h,Int.le_refl _,by omega,by decide,by omega,h,rfl,rfl⟩
end Go.Eng.In
