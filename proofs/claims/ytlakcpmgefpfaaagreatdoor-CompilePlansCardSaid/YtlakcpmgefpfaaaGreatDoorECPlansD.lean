/- PeIn1n PeInS PeIn2n PeSvT PeSvDist PeSv1n PeSv2n PeSv3n PeSv4n PeSv5n PeSvKn PeSvSn PeTt1n PeTt2n PeTr1n -/
import Derived.Test.YtlakcpmgefpfaaaGreatDoorECPlansA
import Derived.Test.YtlakcpmgefpfaaaGreatDoorECPlansB
import Derived.Test.YtlakcpmgefpfaaaGreatDoorECPlansC
import Derived.Test.YtlakcpmgefpfaaaGreatDoorChecked
set_option linter.unusedSimpArgs false
set_option linter.unusedVariables false
set_option maxRecDepth 100000
noncomputable section
namespace Go.Eng.In
open Go.Proofs
abbrev I: Ty:=.int .i64
abbrev B: Ty:=.sl .bool
abbrev R: Ty:=.sl I
abbrev M: Ty:=.sl R
abbrev LC: Type:=List (Int×List Bool×Li)
abbrev LB: Type:=List ByteArray
abbrev C: Ty:=.pair I (.pair B R)
abbrev S: Ty:=.str
abbrev du(t:TypeId)(e:Int): Value:=.iface t (.int .i64 e)
def big(x:Int): Prop:=-1000000000000<=x/\x<=1000000000000
def btw(x a b:Int): Bool:=decide (a<=x/\x<=b)
def aZ(z t:Int): Int:=(t+z)/1440
def cJ(z t:Int): Int:=(t+z)%1440
def lh(z d m:Int): Int:=d*1440+m-z
def wkF(w:List Bool)(h:Li)(d:Int): Bool:=w.getD (d%7).toNat false&&!h.contains d
def JW(h:Li)(d:Int): Int:=((h.filter λx=>decide (x<d)).length:Int)
def srt(h:Li): Prop:=h.length<=1000000/\∀i j:Nat,i<j->j<h.length->h.getD i 0<h.getD j 0
def JY(h:Li)(d i j:Int): Prop:=0<=i/\i<=j/\j<=h.length/\(∀k:Nat,(k:Int)<i->h.getD k 0<d)/\∀k:Nat,j<=k->k<h.length->d<=h.getD k 0
def C0(h:Li)(d:Int): Bool:=h.contains d
def dV(z:Int)(w:List Bool)(h:Li): Bool:=decide (-720<=z/\z<=840/\w.length=7/\h.length<=40)&&(List.range (h.length-1)).all λi=>decide (h.getD i 0<h.getD (i+1) 0)
def y8(h:Li)(k:Int): Prop:=1<=k/\(k<=h.length\/k=1)/\h.length<=40/\∀i:Nat,(i:Int)+1<k->h.getD i 0<h.getD (i+1) 0
def wkP(w:List Bool)(h:Li)(d:Int): Prop:=w.length=7/\srt h/\big d
def dc(w:List Bool)(h:Li)(a b:Int): Li:=((List.range (b+1-a).toNat).map λ(i:Nat)=>a+(i:Int)).filter λd=>wkF w h d
def f9(w:List Bool)(h:Li)(a d:Int): Nat:=(((List.range (d-a).toNat).map λ(i:Nat)=>a+(i:Int)).filter λd=>wkF w h d).length
def wdP(w:List Bool)(h:Li)(a b:Int): Prop:=w.length=7/\srt h/\big a/\big b
def Zm(a b d:Int): Prop:=a<=d/\(d<=b+1\/d=a)
def bq(xs:Li): Bool:=decide (0<xs.length)
def hd(xs:Li): Int:=xs.getD 0 0
def tl(xs:Li): Li:=xs.drop 1
def VU: Kt:=λf args m=>none
def dU: List (Nat×AV):=[]
def KI0: FuncId->List AV->Option ja:=λ_ _=>none
noncomputable def mkc(K:Kt): Cfg:=⟨Tryz.prog,dU,K,λ_=>false,KI0,false,λ_ _ _=>none,λ_=>false⟩
noncomputable def Jg(K:Kt)(mb:Tmp->Bool)(KP:KPt)(pf:FuncId->Bool): Cfg:=⟨Tryz.prog,dU,K,mb,KI0,false,KP,pf⟩
def fF(s:St): St:={s with tm:=s.tm.map tT}
def Re(h:Li): Ann:=⟨λid s=>match id with
 | 4=>some {α:=Int,inv:=λk=>y8 h k,st:=λk=>put s [(3,.dat I k)],μ:=λk=>Dc (Dh (Df h) k)}
 | _=>none,λ_ _=>none,λ_ _=>none⟩
def bsA(h:Li)(d:Int): Ann:=⟨λid s=>match id with
 | 3=>some {α:=Int×Int,inv:=λk=>JY h d k.1 k.2,st:=λk=>put s [(7,.dat I k.1),(8,.dat I k.2)],μ:=λk=>Dc (Dh k.2 k.1)}
 | _=>none,λ_ _=>none,λ_ _=>none⟩
theorem tF(x a b:Int)(hvc:
 let c1:=Ed x a->Ed x a->Ed x a;true/\(True->c1/\c1/\(Dk true (Ed x a)->Ed x a)/\Eb (Ed x a) (Eh x b) false=btw x a b/\True)):
  evF (mkc VU) aA 148 [.dat I x,.dat I a,.dat I b] [] ⟨True,.dat .bool (btw x a b),[]⟩:=oE hvc
theorem Wu(x:Int)(hvc:
 true/\(True->Ea x x=false/\True)):
  evF (mkc VU) aA 290 [.dat I x] [] ⟨True,.dat .bool false,[]⟩:=oE hvc
theorem Ws(x:Int)(hvc:
 true/\(True->Ea x x=false/\True)):
  evF (mkc VU) aA 287 [.dat I x] [] ⟨True,.dat .bool false,[]⟩:=oE hvc
def aCG: Kt:=kOr 148 (ay [.val I,.val I,.val I] (λ_=>True) λ(x,a,b,_)=>.dat .bool (btw x a b)) <|
 kOr 290 (ay [.val I] (λ_=>True) λ_=>.dat .bool false) <|
 kOr 287 (ay [.val I] (λ_=>True) λ_=>.dat .bool false) VU
theorem KO(x y:Int)(hvc:
 let c3:=false->false->false;let c1:=Eb false (Di false) false;let c2:=Di c1;true/\(True->True/\c3/\(false->True)/\c3/\(Dk true false->false)/\(c2->c2->c2)/\(c2->c2->c2)/\(Dk true c2->c2)/\Eb c1 true (Dp x y)=Dp x y/\True)):
  evF (mkc aCG) aA 258 [.dat I x,.dat I y] [] ⟨True,.dat .bool (Dp x y),[]⟩:=oE hvc
def aCF: Kt:=kOr 258 (ay [.val I,.val I] (λ_=>True) λ(x,y,_)=>.dat .bool (Dp x y)) aCG
theorem aCS(h:Li)(d:Int)(hvc:
 true/\(srt h->(∃(x:Int×Int),JY h d x.1 x.2/\h=h/\d=d/\(0:Int)=(0:Int)/\false=false/\Df h=Df h/\0=x.1/\Df h=x.2/\True)/\∀(x:Int×Int),let c1:=Dp x.1 x.2;let c2:=x.1+x.2;let c3:=Gh c2 1;let c4:=Dp (Du h (Dc c3) 0) d;let c5:=c3+1;let aP:=Dp x.1 (Df h);let c7:=Dy (Du h (Dc x.1) 0) d;let c8:=Dk aP (Di c7);JY h d x.1 x.2->(c1->inR .i64 c2/\inR IntKind.u64 c2/\Dl 0 1/\Dc 1<=(64)/\inR .i64 c3/\0<=c3/\c3<Df h/\True/\(c4->inR .i64 c5/\∃(y:Int×Int),JY h d y.1 y.2/\(h=h/\d=d/\(0:Int)=(0:Int)/\false=false/\Df h=Df h/\c5=y.1/\x.2=y.2/\True)/\Dc (y.2-y.1)<Dc (x.2-x.1))/\(c4=false->∃(y:Int×Int),JY h d y.1 y.2/\(h=h/\d=d/\(0:Int)=(0:Int)/\false=false/\Df h=Df h/\x.1=y.1/\c3=y.2/\True)/\Dc (y.2-y.1)<Dc (x.2-x.1)))/\(c1=false->(aP->aP->aP)/\(aP->aP->aP)/\(aP->0<=x.1)/\(aP->x.1<Df h)/\(aP->aP->aP)/\(aP->aP->aP)/\(aP->aP->aP)/\(aP->aP->aP)/\(c8->c8->c8)/\(c8->c8->c8)/\(c8->0<=x.1)/\(c8->x.1<Df h)/\(c8->c8->c8)/\(c8->c8->c8)/\(c8->True)/\(c8->c8->c8)/\(Dk c8 false->Dk c8 false->Dk c8 false)/\(Dk c8 false->True)/\(c8->c8->c8)/\(c8->Dk c8 false->Dk c8 false)/\(aP->aP->aP)/\(aP->c8->c8)/\(Dk true aP->aP)/\x.1=JW h d/\Eb aP (Eb c7 true (Eb false false false)) false=C0 h d/\True))):
  evF (mkc aCF) (lvA [(3,[0,1,4,5,6,7,8,9])] (bsA h d)) 264 [.dat R h,.dat I d] [] ⟨srt h,.tup [.dat I (JW h d),.dat .bool (C0 h d)],[]⟩:=oE hvc
def DN: Kt:=kOr 264 (ay [.val R,.val I] (λ(h,_,_)=>srt h) λ(h,d,_)=>.tup [.dat I (JW h d),.dat .bool (C0 h d)]) aCF
theorem Qb(z d:Int)(w:List Bool)(h:Li)(hvc:
 let c1:=Fq d 7+7;let c2:=Fq c1 7;let c3:=Di (Du w (Dc c2) false);true/\(wkP w h d->Eo 7 0/\inR .i64 c1/\Eo 7 0/\0<=c2/\c2<Df w/\(c3->false=wkF w h d/\True)/\(c3=false->srt h/\Di (C0 h d)=wkF w h d/\True))):
  evF (mkc DN) aA 220 [.ip C (z,w,h),.dat I d] [] ⟨wkP w h d,.dat .bool (wkF w h d),[]⟩:=oE hvc
theorem Ix(z t:Int)(w:List Bool)(h:Li)(hvc:
 let c1:=Fq (t+z) 1440+1440;let c2:=Fq c1 1440;let c3:=(t+z)-c2;let c4:=Gg c3 1440;true/\(big z/\big t->inR .i64 (t+z)/\Eo 1440 0/\inR .i64 c1/\Eo 1440 0/\inR .i64 c3/\Eo 1440 0/\inR .i64 c4/\c4=aZ z t/\c2=cJ z t/\True)):
  evF (mkc DN) aA 158 [.ip C (z,w,h),.dat I t] [] ⟨big z/\big t,.tup [.dat I (aZ z t),.dat I (cJ z t)],[]⟩:=oE hvc
theorem gF (z d m : Int) (w : List Bool) (h : Li) (hvc :
 let c1 := Ee d (1440 : Int);
 let c2 := Dq c1 m;
 let c3 := Dh c2 z; true = true ∧ (big z ∧ big d ∧ big m → inR .i64 c1 ∧ inR .i64 c2 ∧ inR .i64 c3 ∧ c3 = lh z d m ∧ True)) :
    evF (mkc DN) aA 154 [.ip C (z, w, h), .dat I d, .dat I m] [] ⟨big z ∧ big d ∧ big m, .dat I (lh z d m), []⟩ := oE hvc
theorem aCP(z:Int)(w:List Bool)(h:Li)(hvc:
 let c1:=Di (btw z (-720) 840);let c2:=Di c1;let c6:=c2->c2->c2;let c3:=Eb c1 true (Ea (Df w) 7);let c4:=Di c3;let c11:=c4->c4->c4;let c5:=Eb c3 true (Ei (Df h) 40);let aP:=(z,w,h);true/\(True->True/\c6/\c6/\c6/\(Dk true c2->c2)/\c11/\c11/\c11/\(Dk true c4->c4)/\(c5->false=dV z w h/\True)/\(c5=false->(∃x,y8 h x/\aP=aP/\1=x/\True)/\∀(x:Int),let c7:=Dp x (Df h);let c8:=x-1;let c9:=Eh (Du h (Dc x) 0) (Du h (Dc c8) 0);let c10:=x+1;y8 h x->(c7->0<=x/\x<Df h/\inR .i64 c8/\0<=c8/\c8<Df h/\(c9->false=dV z w h/\True)/\(c9=false->inR .i64 c10/\∃y,y8 h y/\(aP=aP/\c10=y/\True)/\Dc (Df h-y)<Dc (Df h-x)))/\(c7=false->true=dV z w h/\True)))):
  evF (mkc DN) (lvA [(4,[1,2,3])] (Re h)) 150 [.agg [.dat I z,.dat B w,.dat R h]] [] ⟨True,.dat .bool (dV z w h),[]⟩:=oE hvc
theorem Im(z a b:Int)(w:List Bool)(h:Li)(hvc:
 let c1:=(z,w,h);true/\(True->a=a/\b=b/\c1=c1/\True)):
  evF (mkc DN) aA 153 [.ip C (z,w,h),.dat I a,.dat I b] [] ⟨True,.fn 219 [.ip I a,.ip I b,.ipv (.ip C (z,w,h))],[]⟩:=oE hvc
theorem ZO(b:Bool)(e:Int)(hvc:
 let c1:=chainOf (Value.iface (39) (Value.int IntKind.i64 e));true/\(True->(Di b->(true->True/\(false=false->b=false/\true/\c1=c1))/\True)/\(Di b=false->b/\True))):
  evC (mkc DN) aA 79 [.dat .bool b,.dat I e] (.tup []) ⟨True,b,du 39 e⟩:=oE hvc
theorem WQ(e:Int)(hvc:
 true/\(True->(true->e=e/\True)/\(true=false->190=e/\True))):
  evF (mkc DN) aA 70 [.ifc 39 (.dat I e)] [] ⟨True,.dat I e,[]⟩:=oE hvc
def KPr: KPt:=pOr 79 (uS [.val .bool,.val I] λ(b,e,_)=>⟨True,b,du 39 e⟩) noP
def UW: Kt:=kOr 220 (ay [.ptr C,.val I] (λ(c,d,_)=>wkP c.2.1 c.2.2 d) λ(c,d,_)=>.dat .bool (wkF c.2.1 c.2.2 d)) <|
 kOr 158 (ay [.ptr C,.val I] (λ(c,t,_)=>big c.1/\big t) λ(c,t,_)=>.tup [.dat I (aZ c.1 t),.dat I (cJ c.1 t)]) <|
 kOr 154 (ay [.ptr C,.val I,.val I] (λ(c,d,m,_)=>big c.1/\big d/\big m) λ(c,d,m,_)=>.dat I (lh c.1 d m)) <|
 kOr 150 (ay [.row C] (λ_=>True) λ(c,_)=>.dat .bool (dV c.1 c.2.1 c.2.2)) <|
 kOr 153 (ay [.ptr C,.val I,.val I] (λ_=>True) λ(c,a,b,_)=>.fn 219 [.ip I a,.ip I b,.ipv (.ip C c)]) <|
 kOr 79 (ay [.val .bool,.val I] (λ(b,_)=>True/\b=true) λ_=>.tup []) DN
def wdA(w:List Bool)(h:Li)(a b:Int): GG:=⟨λid y=>match id with
 | 1=>some {α:=Int,inv:=λd=>Zm a b d,st:=λd=>⟨put y.s [(5,.dat I d)],f9 w h a d,true⟩,μ:=λd=>Dc (Dh (Dq b 1) d)}
 | _=>none,λ_ _=>none,λid=>id==3⟩
theorem ZI (z a b : Int) (w : List Bool) (h : Li) (hvc :
 let c1 := (z, w, h);
 let c2 := dc w h a b;
 let c3 := Dj c2;
 let c4 := Dq b (1 : Int); true = true ∧ true = true ∧ true = true ∧ false = false ∧ ∀ (l : Nat), wdP w h a b → (∃ x, Zm a b x ∧ (l = l ∧ a = a ∧ b = b ∧ c1
  = c1 ∧ a = x ∧ a = a ∧ True) ∧ 0 = f9 w h a x ∧ true = true) ∧ ∀ (x : Int),
 let c5 := f9 w h a x;
 let aP := Ec c5 (1);
 let c7 := Dq x (1 : Int);
 let c8 := Eb (wkF w h x) (Di false) false; Zm a b x → (Eh x b = true → wkP w h x ∧ (wkF w h x = true → (wkF w h x = true → wkF w h x = true) ∧ (wkF w
  h x = true → wkF w h x = true) ∧ l = l ∧ true = true ∧ lX c2 c5 x ∧ ∀ (b_1 : Bool),
 let c9 := Eb (wkF w h x) (Di b_1) false; (Dk true (wkF w h x) = true → wkF w h x = true) ∧ (c9 = true → b_1 = true → aP = c3) ∧ (c9 = false → inR
  IntKind.i64 c7 ∧ ∃ y, Zm a b y ∧ ((l = l ∧ a = a ∧ b = b ∧ c1 = c1 ∧ c7 = y ∧ a = a ∧ True) ∧ aP = f9 w h a y ∧ b_1 = true) ∧ Dw (Dc (Dh c4 y))
  (Dc (Dh c4 x)))) ∧ (wkF w h x = false → (wkF w h x = true → wkF w h x = true → wkF w h x = true) ∧ (Dk true (wkF w h x) = true → wkF w h x = true) ∧
  (c8 = true → true = true → c5 = c3) ∧ (c8 = false → inR .i64 c7 ∧ ∃ y, Zm a b y ∧ ((l = l ∧ a = a ∧ b = b ∧ c1 = c1 ∧ c7 = y ∧ a = a ∧ True) ∧ c5 =
  f9 w h a y ∧ true = true) ∧ Dw (Dc (Dh c4 y)) (Dc (Dh c4 x))))) ∧ (Eh x b = false → true = true → c5 = c3)) :
    evI (mkc UW) (wdA w h a b) 219 [.ip I a, .ip I b, .ipv (.ip C (z, w, h))] ⟨wdP w h a b, I, dc w h a b⟩ := oE hvc
def cR: Cfg:=Jg UW (λ_=>false) KPr (λf=>f==79)
theorem Iw(xs:Li)(hvc:
 let c1:=Ei (Df xs) 0;let c2:=chainOf (Value.iface (39) (Value.int IntKind.i64 (190:Int)));true/\(True->1=1/\1=1/\1=1/\1=1/\0=0/\(true->True/\(c1=false->bq xs=false/\true/\c2=c2))/\((true->c1)->(True/\c1)/\1=1/\1=1/\1=1/\0=0/\Dl 0 0/\0<Df xs/\1=1/\1=1/\1=1/\0=0/\Dl 0 1/\1<=Df xs/\1=1/\1=1/\1=1/\0=0/\bq xs/\Du xs (Dc 0) 0=hd xs/\Fg xs 1=tl xs/\1=1/\True))):
  evM cR aA 207 [.ptr 1 1 0 0] [(1,.var [.dat R xs])] (.dat I (hd xs)) [(1,.var [.dat R (tl xs)])] ⟨True,bq xs,du 39 190⟩:=oE hvc
theorem aCr(x y:Bool): Eb x true y=(x||y):=by cases x<;>rfl
theorem OS(x y:Bool): Eb x y false=(x&&y):=by cases x<;>rfl
theorem hm: Tryz.prog.follows .mixedOrders=true:=by kernel_rfl
theorem UU: al Tryz.prog dU VU:=λf args m c h=>by cases h
theorem aL: bu Tryz.prog dU KI0:=λf args c h=>by cases h
theorem nL{x a b:Int}: btw x a b=true↔a<=x/\x<=b:=by unfold btw;rw[qE]
theorem aJ{α:Type}{l:List α}{i:Nat}{d:α}(h:i<l.length): l.getD i d∈l:=by
 rw[qA,qB h];exact wO h
theorem aDH(x a b:Int): af Tryz.prog dU 148 [.dat I x,.dat I a,.dat I b] [] ⟨True,.dat .bool (btw x a b),[]⟩:=by
 refine ae (c:=mkc VU) UU aL hm (tF x a b ⟨rfl,λ_=>?_⟩)
 simp only[qc,Dk,qd,Eh,Ed];unfold btw;simp
theorem aAj(x:Int): af Tryz.prog dU 290 [.dat I x] [] ⟨True,.dat .bool false,[]⟩:=
 ae (c:=mkc VU) UU aL hm (Wu x ⟨rfl,λ_=>⟨by simp,trivial⟩⟩)
theorem aAi(x:Int): af Tryz.prog dU 287 [.dat I x] [] ⟨True,.dat .bool false,[]⟩:=
 ae (c:=mkc VU) UU aL hm (Ws x ⟨rfl,λ_=>⟨by simp,trivial⟩⟩)
theorem aBY: al Tryz.prog dU aCG:=aj (ag λ(x,a,b,_)=>aDH x a b) <|
 aj (ag λ(x,_)=>aAj x)<|aj (ag λ(x,_)=>aAi x) UU
theorem RH(x y:Int): af Tryz.prog dU 258 [.dat I x,.dat I y] [] ⟨True,.dat .bool (Dp x y),[]⟩:=by
 refine ae (c:=mkc aCG) aBY aL hm (KO x y ⟨rfl,λ_=>?_⟩)
 simp only[qc,Dk,Di,yF,Eb,qBe,vV]
theorem aBX: al Tryz.prog dU aCF:=aj (ag λ(x,y,_)=>RH x y) aBY
theorem Mc{h:Li}(hs:srt h){i j:Nat}(hij:i<=j)(hj:j<h.length): h.getD i 0<=h.getD j 0:=by
 rcases zC i j with g | g
 .exact Int.le_of_lt (hs.2 i j g hj)
 .have:i=j:=by omega
  rw[this];exact qM _
theorem aBH{h:Li}{d i:Int}(hs:srt h)(hi:JY h d i i): i=JW h d/\(C0 h d=true↔i<h.length/\h.getD i.toNat 0=d):=by
 obtain⟨h1,_,h3,h4,h5⟩:=hi;constructor
 .unfold JW;have e:h=h.take i.toNat++h.drop i.toNat:=(xI _ _).symm;have l1:(h.take i.toNat).filter (λx=>decide (x<d))=h.take i.toNat:=List.filter_eq_self.2 λx hx=>by
   obtain⟨k,hk,rfl⟩:=wX.1 hx;rw[qI]at hk;have:=h4 k (by omega)
   rw[qA,qB (by omega)]at this
   rw[qCw];exact qW this
  have l2:(h.drop i.toNat).filter (λx=>decide (x<d))=[]:=qCb.2 λx hx=>by
   obtain⟨k,hk,rfl⟩:=wX.1 hx;rw[wB]at hk;have:=h5 (i.toNat+k) (by omega) (by omega)
   rw[qA,qB (by omega)]at this
   rw[List.getElem_drop];simpa using this
  rw[e,yV,l1,l2,wL,qI];omega
 .unfold C0;rw[List.contains_iff_mem];constructor
  .intro hm;obtain⟨k,hk,e⟩:=wX.1 hm;have e2:h.getD k 0=d:=by rw[qA,qB hk];exact e
   have k1:¬(k:Int)<i:=λg=>by have:=h4 k g;omega
   refine⟨by omega,?_⟩
   have:=Mc hs (i:=i.toNat) (j:=k) (by omega) hk
   have:=h5 i.toNat (by omega) (by omega)
   omega
  .rintro⟨hlt,e⟩;rw[<- e];exact aJ (by omega)
theorem aB{x:Int}(h:-4000000000000000<=x/\x<=4000000000000000): inR .i64 x:=⟨show(-9223372036854775808:Int)<=x by omega,show x<=9223372036854775807 by omega⟩
theorem aFj(h:Li)(d:Int): af Tryz.prog dU 264 [.dat R h,.dat I d] [] ⟨srt h,.tup [.dat I (JW h d),.dat .bool (C0 h d)],[]⟩:=by
 refine ae (c:=mkc aCF) aBX aL hm (aCS h d ⟨rfl,λhs=>?_⟩)
 have hl:=hs.1;refine⟨⟨(0,Df h),⟨qM _,vC _,qM _,λk g=>by omega,λk g1 g2=>by simp only[Df]at g1;omega⟩,?_⟩,λ⟨i,j⟩=>?_⟩
 .simp
 intro c1 c2 c3 c4 c5 aP c7 c8 hi;have hi':=hi;obtain⟨h1,h2,h3,h4,h5⟩:=hi;have e3:c3=(i+j)/2:=by
  show(i+j).fdiv (2 ^ (1:Int).toNat)=_;rw[qCt _ (by decide)];rfl
 have e2:c2=i+j:=rfl;have e5:c5=c3+1:=rfl;have e1:c1=decide (i<j):=rfl;have e4:c4=decide (h.getD c3.toNat 0<d):=rfl;have hiu:inR .u64 c2:=by
  rw[e2];exact⟨show(0:Int)<=i+j by omega,show i+j<=18446744073709551615 by omega⟩
 clear_value c1 c2 c3 c4 c5;constructor
 .intro hc1;rw[e1,qE]at hc1;refine⟨by rw[e2];exact aB (by omega),hiu,by decide,by decide,aB (by omega),by show(0:Int)<=c3;omega,by show c3<(h.length:Int);omega,trivial,λhc4=>?_,λhc4=>?_⟩
  .rw[e4,qE]at hc4;refine⟨by rw[e5];exact aB (by omega),(c5,j),⟨by omega,by omega,h3,λk hk=>?_,h5⟩,by simp,?_⟩
   .have:=Mc hs (i:=k) (j:=c3.toNat) (by omega) (by omega)
    omega
   .simp only[Dc];omega
  .rw[e4,vW]at hc4;refine⟨(i,c3),⟨h1,by omega,by omega,h4,λk hk hk2=>?_⟩,by simp,?_⟩
   .have:=Mc hs (i:=c3.toNat) (j:=k) (by omega) (by omega)
    omega
   .simp only[Dc];omega
 .intro hc1;rw[e1,vW]at hc1;have:i=j:=by omega
  subst this;obtain⟨b1,b2⟩:=aBH hs hi';have e6:aP=decide (i<h.length):=rfl;have e7:c7=decide (h.getD i.toNat 0=d):=rfl;have e8:c8=(aP&&!c7):=rfl;clear_value aP c7 c8;have hlt:aP=true->i<(h.length:Int):=λg=>by rw[e6]at g;exact vO g
  have g8:c8=true->aP=true:=λg=>by rw[e8,qC]at g;exact g.1
  simp only[qc,Dk]
  and_intros
  all_goals first
   | exact λ_=>h1
   | exact hlt
   | exact λg=>hlt (g8 g)
   | exact b1
   | exact λg=>g8 g
   | skip
  rw[qCh,b2,e6,e7];simp
theorem DF: al Tryz.prog dU DN:=aj (ag λ(h,d,_)=>aFj h d) aBX
theorem yn{a m:Int}(h:0<m): (a.tmod m+m).tmod m=a%m:=by
 have e:=qBi (a:=a) (b:=m);have n0:=qAc a (show m≠0 by omega)
 have n1:=kM a h;have hna:(m.natAbs:Int)=m:=by omega
 have e2:a.tmod m=a%m\/a.tmod m=a%m-m:=by
  rw[e];split
  .exact .inl (by omega)
  .exact .inr (by omega)
 have nn:0<=a.tmod m+m:=by omega
 rw[qCs nn];rcases e2 with e2 | e2<;>rw[e2]
 .rw[Int.add_emod_right,Int.emod_emod_of_dvd _ (Int.dvd_refl _)]
 .rw[Int.sub_add_cancel,Int.emod_emod_of_dvd _ (Int.dvd_refl _)]
theorem W4(z d:Int)(w:List Bool)(h:Li): af Tryz.prog dU 220 [.ip C (z,w,h),.dat I d] [] ⟨wkP w h d,.dat .bool (wkF w h d),[]⟩:=by
 refine ae (c:=mkc DN) DF aL hm (Qb z d w h ⟨rfl,λ⟨hw,hs,hb⟩=>?_⟩)
 have e:=yn (a:=d) (m:=7) (by decide)
 have n0:=qAc d (show(7:Int)≠0 by decide)
 have n1:=kM d (show(0:Int)<7 by decide)
 have tb:-7<d.tmod 7/\d.tmod 7<7:=by
  have:=qBi (a:=d) (b:=7);split at this<;>omega
 simp only[Fq,e,Di,Du,Dc,Eo,Df,hw];refine⟨by decide,aB (by omega),by decide,n0,by omega,λh1=>⟨?_,trivial⟩,λh1=>⟨hs,?_,trivial⟩⟩
 .unfold wkF;rw[zL]at h1;rw[h1];rfl
 .unfold wkF C0;rw[kN]at h1;rw[h1];rfl
theorem Xr(z t:Int)(w:List Bool)(h:Li): af Tryz.prog dU 158 [.ip C (z,w,h),.dat I t] [] ⟨big z/\big t,.tup [.dat I (aZ z t),.dat I (cJ z t)],[]⟩:=by
 refine ae (c:=mkc DN) DF aL hm (Ix z t w h ⟨rfl,λ⟨hz,ht⟩=>?_⟩)
 obtain⟨z1,z2⟩:=hz;obtain⟨t1,t2⟩:=ht;have e:=yn (a:=t+z) (m:=1440) (by decide)
 have n0:=qAc (t+z) (show(1440:Int)≠0 by decide)
 have n1:=kM (t+z) (show(0:Int)<1440 by decide)
 have tb:-1440<(t+z).tmod 1440/\(t+z).tmod 1440<1440:=by
  have:=qBi (a:=t+z) (b:=1440);split at this<;>omega
 have eq:(t+z-(t+z)%1440).tdiv 1440=(t+z)/1440:=by
  have:t+z-(t+z)%1440=1440*((t+z)/1440):=by omega
  rw[this,qDf _ (by decide)]
 have big2:∀{x:Int},-4000000000000<=x->x<=4000000000000->inR .i64 x:=λ{x} h1 h2=>⟨show(-9223372036854775808:Int)<=x by omega,show x<=9223372036854775807 by omega⟩
 simp only[Fq,Gg,e,eq];exact⟨big2 (by omega) (by omega),by decide,big2 (by omega) (by omega),by decide,big2 (by omega) (by omega),by decide,big2 (by omega) (by omega),rfl,rfl,trivial⟩
theorem aDp (z d m : Int) (w : List Bool) (h : Li) : af Tryz.prog dU 154 [.ip C (z, w, h), .dat I d, .dat I m] [] ⟨big z ∧ big d ∧ big m, .dat I (lh z d m), []⟩ := by
  refine ae (c := mkc DN) DF aL hm (gF z d m w h ⟨rfl, fun ⟨⟨z1, z2⟩, ⟨d1, d2⟩, ⟨m1, m2⟩⟩ => ?_⟩)
  have big2 : ∀ {x : Int}, -4000000000000000 ≤ x → x ≤ 4000000000000000 → inR .i64 x := fun {x} h1 h2 => ⟨show (-9223372036854775808 : Int) ≤ x by omega, show x ≤ 9223372036854775807 by omega⟩
  exact ⟨big2 (by simp only [Ee]; omega) (by simp only [Ee]; omega), big2 (by simp only [Ee, Dq]; omega) (by simp only [Ee, Dq]; omega), big2 (by simp only [Ee, Dq, Dh]; omega) (by simp only [Ee, Dq, Dh]; omega), rfl, trivial⟩
def Ah(z:Int)(w:List Bool)(h:Li): Prop:=(-720<=z/\z<=840/\w.length=7/\h.length<=40)/\∀i:Nat,i+1<h.length->h.getD i 0<h.getD (i+1) 0
theorem iQ{z:Int}{w:List Bool}{h:Li}: dV z w h=true↔Ah z w h:=by
 unfold dV Ah;rw[qC,qE,qL];refine and_congr_right λ_=>⟨λg i hi=>?_,λg i hi=>?_⟩
 .have:=g i (qU.2 (by omega))
  simpa using this
 .have:=qU.1 hi;simpa using g i (by omega)
theorem pX{z:Int}{w:List Bool}{h:Li}(hn:¬Ah z w h): false=dV z w h:=by
 cases hv:dV z w h with
 | false=>rfl
 | true=>exact(hn (iQ.1 hv)).elim
theorem Ld{z:Int}{w:List Bool}{h:Li}(hv:dV z w h=true): srt h:=by
 obtain⟨⟨_,_,_,h4⟩,h5⟩:=iQ.1 hv;refine⟨by omega,λi j hij hj=>?_⟩
 induction j with
 | zero=>omega
 | succ j ih=>
  have:=h5 j (by omega)
  rcases zC i j with g | g
  .have:=ih g (by omega);omega
  .have:i=j:=by omega
   rw[this];assumption
theorem aFh(z:Int)(w:List Bool)(h:Li): af Tryz.prog dU 150 [.agg [.dat I z,.dat B w,.dat R h]] [] ⟨True,.dat .bool (dV z w h),[]⟩:=by
 refine ae (c:=mkc DN) DF aL hm (aCP z w h ⟨rfl,λ_=>?_⟩)
 have eb:btw z (-720) 840=decide (-720<=z/\z<=840):=rfl;simp only[eb];simp only[qc,Dk,Di,qd,Ea,Dp,Ei,Eh,Df,Dc,Du];refine⟨λhb=>pX λhv=>?_,λ⟨⟨⟨h1,h2⟩,h3⟩,h4⟩=>⟨⟨qM _,.inr rfl,by omega,λi hi=>by omega⟩,λx hx=>⟨λhlt=>?_,λhge=>(iQ.2 ⟨⟨by omega,by omega,by omega,by omega⟩,λi hi=>hx.2.2.2 i (by omega)⟩).symm⟩⟩⟩
 .obtain⟨⟨g1,g2,g3,g4⟩,_⟩:=hv;omega
 .have hx1:=hx.1;have hx3:=hx.2.2.1;refine⟨by omega,hlt,aB (by omega),by omega,by omega,λhle=>pX λhv=>?_,λhn=>⟨aB (by omega),x+1,⟨by omega,by omega,hx3,λi hi=>?_⟩,rfl,by omega⟩⟩
  .have:=hv.2 (x-1).toNat (by omega)
   rw[show(x-1).toNat+1=x.toNat by omega]at this
   omega
  .by_cases e:(i:Int)+1<x
   .exact hx.2.2.2 i e
   .have e1:(x-1).toNat=i:=by omega
    have e2:x.toNat=i+1:=by omega
    rw[e1,e2]at hn;omega
theorem LK(z a b:Int)(w:List Bool)(h:Li): af Tryz.prog dU 153 [.ip C (z,w,h),.dat I a,.dat I b] [] ⟨True,.fn 219 [.ip I a,.ip I b,.ipv (.ip C (z,w,h))],[]⟩:=
 ae (c:=mkc DN) DF aL hm (Im z a b w h ⟨rfl,λ_=>⟨rfl,rfl,rfl,trivial⟩⟩)
theorem aAh(b:Bool)(e:Int): af Tryz.prog dU 79 [.dat .bool b,.dat I e] [] ⟨True/\b=true,.tup [],[]⟩/\cX Tryz.prog dU 79 [.dat .bool b,.dat I e] [] ⟨True,b,du 39 e⟩:=by
 refine dE (c:=mkc DN) DF aL hm qo (ZO b e ⟨rfl,λ_=>⟨λh=>⟨λ_=>⟨trivial,λ_=>⟨?_,rfl,rfl⟩⟩,trivial⟩,λh=>⟨?_,trivial⟩⟩⟩)
 .simpa using h
 .simpa using h
theorem aAw(e:Int): af Tryz.prog dU 70 [.ifc 39 (.dat I e)] [] ⟨True,.dat I e,[]⟩:=
 ae (c:=mkc DN) DF aL hm (WQ e ⟨rfl,λ_=>⟨λ_=>⟨rfl,trivial⟩,λh=>by cases h⟩⟩)
theorem Py: al Tryz.prog dU UW:=aj (ag λ((z,w,h),d,_)=>W4 z d w h)<|aj (ag λ((z,w,h),t,_)=>Xr z t w h)<|aj (ag λ((z,w,h),d,m,_)=>aDp z d m w h) <|
 aj (ag λ((z,w,h),_)=>aFh z w h)<|aj (ag λ((z,w,h),a,b,_)=>LK z a b w h)<|aj (ag λ(b,e,_)=>(aAh b e).1) DF
theorem Ig: bL Tryz.prog dU KPr:=iC (i7 λ(b,e,_)=>(aAh b e).2) qo
theorem Ci{α:Type}{f:Nat->α}{p:α->Bool}{k:Nat}(hp:p (f k)=true): ∀N:Nat,k<N->(((List.range N).map f).filter p)[(((List.range k).map f).filter p).length]?=some (f k)
 | 0,h=>by omega
 | N+1,h=>by
  rw[zV,yS,yV];rcases zC k N with hk | hk
  .have ih:=Ci hp N hk;rw[vH (qG.1 ih).1];exact ih
  .have e:N=k:=by omega
   subst e;rw[qX (qK _),qAx];simp[hp]
theorem O6{w:List Bool}{h:Li}{a b x:Int}(h1:a<=x)(h2:x<=b)(hw:wkF w h x=true): lX (dc w h a b) (f9 w h a x) x:=by
 have e:a+((x-a).toNat:Int)=x:=by omega
 have:=Ci (f:=λ(i:Nat)=>a+(i:Int)) (p:=λd=>wkF w h d) (k:=(x-a).toNat) (by simp only[e];exact hw) (b+1-a).toNat (by omega)
 simp only[e]at this;exact this
theorem wT{w:List Bool}{h:Li}{a x:Int}(h1:a<=x): f9 w h a (x+1)=f9 w h a x+(if wkF w h x then 1 else 0):=by
 unfold f9;rw[show(x+1-a).toNat=(x-a).toNat+1 by omega,zV,yS,yV,qF]
 have e:a+((x-a).toNat:Int)=x:=by omega
 congr 1
 simp only[zF,qCg,e,xO,qBq];split<;>simp_all
theorem JQ(w:List Bool)(h:Li)(a:Int): f9 w h a a=0:=by
 unfold f9;rw[show(a-a).toNat=0 by omega];rfl
theorem OQ{w:List Bool}{h:Li}{a b x:Int}(hx:Zm a b x)(hge:¬x<=b): f9 w h a x=(dc w h a b).length:=by
 unfold f9 dc;have e:(x-a).toNat=(b+1-a).toNat:=by
  rcases hx with⟨h1,h2 | h2⟩<;>omega
 rw[e]
theorem aCW (z a b : Int) (w : List Bool) (h : Li) : mW Tryz.prog dU 219 [.ip I a, .ip I b, .ipv (.ip C (z, w, h))] ⟨wdP w h a b, I, dc w h a b⟩ := by
  refine jC (c := mkc UW) Py aL hm (ZI z a b w h ⟨rfl, rfl, rfl, rfl, fun l ⟨hw, hs, ⟨a1, a2⟩, ⟨b1, b2⟩⟩ => ?_⟩)
  refine ⟨⟨a, ⟨qM _, .inr rfl⟩, ⟨rfl, rfl, rfl, rfl, rfl, rfl, trivial⟩, (JQ w h a).symm, rfl⟩, fun x hx => ?_⟩
  obtain ⟨x1, x2⟩ := hx
  refine ⟨fun hlt => ?_, fun hge _ => OQ ⟨x1, x2⟩ (by simpa using hge)⟩
  have hlt : x ≤ b := by simpa using hlt
  have hb : big x := ⟨by omega, by omega⟩
  refine ⟨⟨hw, hs, hb⟩, fun hk => ⟨fun h => h, fun h => h, rfl, rfl, O6 x1 hlt hk, fun bb => ⟨fun _ => hk, fun h9 hb1 => ?_, fun h9 => ?_⟩⟩, fun hk => ⟨fun _ h => h, fun _ => ?_, fun h8 _ => ?_, fun h8 => ?_⟩⟩
  · rw [hk, hb1] at h9; cases h9
  · rw [hk] at h9
    have : bb = true := by simpa [Eb, Di] using h9
    refine ⟨aB (by simp only [Dq]; omega), x + 1, ⟨by omega, .inl (by omega)⟩, ⟨⟨rfl, rfl, rfl, rfl, rfl, rfl, trivial⟩, ?_, this⟩, ?_⟩
    · rw [wT x1, hk]; rfl
    · simp only [Dw, Dc, Dh, Dq]; omega
  · rename_i hk2; rw [hk] at hk2; cases hk2
  · rw [hk] at h8; cases h8
  · refine ⟨aB (by simp only [Dq]; omega), x + 1, ⟨by omega, .inl (by omega)⟩, ⟨⟨rfl, rfl, rfl, rfl, rfl, rfl, trivial⟩, ?_, rfl⟩, ?_⟩
    · rw [wT x1, hk]; rfl
    · simp only [Dw, Dc, Dh, Dq]; omega
theorem sf(xs:Li): af Tryz.prog dU 207 [.ptr 1 1 0 0] [(1,.var [.dat R xs])] ⟨True/\bq xs=true,.dat I (hd xs),[(1,.var [.dat R (tl xs)])]⟩/\cX Tryz.prog dU 207 [.ptr 1 1 0 0] [(1,.var [.dat R xs])] ⟨True,bq xs,du 39 190⟩:=by
 refine cn (c:=cR) Py aL hm Ig (Iw xs ⟨rfl,λ_=>?_⟩)
 have e:Ei (Df xs) 0=bq xs:=by unfold bq;simp
 simp only[e];simp only[qc,Df,Dl,Dc,Du,Fg];refine λh=>?_
 have hl:0<xs.length:=by unfold bq at h;simpa using h
 exact⟨h,qM _,by omega,by decide,by omega,h,rfl,rfl⟩
end Go.Eng.In
namespace Go.Eng.In
def SG(st:Int×Int)(x:Int): Int×Int:=(st.1*3%65521,(st.2+x*(st.1*3%65521))%65521)
def IZ(st:Int×Int)(l:List Int): Int×Int:=l.foldl SG st
def vt(l:List Int): Int:=(IZ (1,0) l).2
theorem A5(st:Int×Int)(x:Int)(l:List Int): IZ st (x::l)=IZ (SG st x) l:=rfl
theorem SH(st:Int×Int)(a b:List Int): IZ st (a++b)=IZ (IZ st a) b:=by
 unfold IZ;exact List.foldl_append
def aDR(st:Int×Int): Prop:=(0<=st.1/\st.1<65521)/\(0<=st.2/\st.2<65521)
theorem SE(st:Int×Int)(x:Int): aDR (SG st x):=
 ⟨⟨Int.emod_nonneg _ (by decide),Int.emod_lt_of_pos _ (by decide)⟩,⟨Int.emod_nonneg _ (by decide),Int.emod_lt_of_pos _ (by decide)⟩⟩
theorem MM: ∀(l:List Int) {st:Int×Int},aDR st->aDR (IZ st l)
 | [],_,h=>h
 | x::l,st,_=>MM l (SE st x)
def inv(p:Int): Prop:=∃q:Int,p*q%65521=1
theorem TM{p:Int}(h:inv p): inv (p*3%65521):=by
 obtain⟨q,hq⟩:=h;refine⟨q*43681,?_⟩;rw[Int.mul_emod,Int.emod_emod_of_dvd _ (Int.dvd_refl _),<- Int.mul_emod];have e:p*3*(q*43681)=p*q*131043:=by
  rw[Int.mul_assoc,Int.mul_left_comm 3 q 43681,<- Int.mul_assoc];rfl
 rw[e,Int.mul_emod,hq];rfl
theorem Yy: ∀(l:List Int) {st:Int×Int},inv st.1->inv (IZ st l).1
 | [],_,h=>h
 | _::l,_,h=>Yy l (TM h)
theorem X0: ∀(l:List Int) {p s t:Int},0<=s->s<65521->0<=t->t<65521->s≠t->(IZ (p,s) l).2≠(IZ (p,t) l).2
 | [],_,_,_,_,_,_,_,h=>h
 | x::l,p,s,t,s0,s1,t0,t1,h=>by
  rw[A5,A5];have e:∀y:Int,SG (p,y) x=(p*3%65521,(y+x*(p*3%65521))%65521):=λ_=>rfl
  rw[e,e];generalize x*(p*3%65521)=z;exact X0 l (Int.emod_nonneg _ (by decide)) (Int.emod_lt_of_pos _ (by decide)) (Int.emod_nonneg _ (by decide)) (Int.emod_lt_of_pos _ (by decide)) (by omega)
end Go.Eng.In
set_option maxRecDepth 100000
noncomputable section
namespace Go.Eng.In
open Go.Proofs
abbrev Ce: Ty:=.pair R I
abbrev Pl: Ty:=.pair I (.pair I (.pair M (.sl M)))
abbrev Plan:=Int×Int×Lj×List (Lj)
def uH(l:Li): Prop:=l.length<=2000000000000000
def PT(l:Li): Prop:=l.length<=9223372036854775807
def sP(l:Li)(k:Int): Int:=(IZ (1,0) (l.take k.toNat)).1
def sS(l:Li)(k:Int): Int:=(IZ (1,0) (l.take k.toNat)).2
def rl(l:Li): Li:=l.map λx=>x%65521
def fO(l:Li): Int:=vt (rl l)
def iV(l:Li): Bool:=l.all λx=>btw x 0 65519
def cw(l:Li)(s:Int): Bool:=iV l&&decide (s=vt l)
def Yz(l:Li)(k:Int): Prop:=0<=k/\k<=l.length/\iV (l.take k.toNat)=true
def y9(l:Li)(k:Int): Prop:=0<=k/\k<=l.length
def cU(g:Int->Int->Int)(n:Int): Lj:=(List.range n.toNat).map λi:Nat=>(List.range n.toNat).map λj:Nat=>g i j
def fz(g:Int->Int->Int)(n i:Int): Lj:=(cU g n).take i.toNat++List.replicate (n.toNat-i.toNat) []
def iy(g:Int->Int->Int)(n i j:Int): Li:=((List.range n.toNat).map λj:Nat=>g i j).take j.toNat++List.replicate (n.toNat-j.toNat) 0
def nP(k n:Int): Prop:=0<=k/\(k<=n\/k=0)
def tg(l:Li)(m i j:Int): Int:=l.getD (i*m+j).toNat 0-1
def jk(m:Int)(l:Li): Lj:=cU (tg l m) m
def bB(l:Li)(k:Int): Li:=l.drop k.toNat
def nU(m:Int)(l:Li): Bool:=decide (m*m<=l.length)
def dJ(l:Li): Prop:=iV l=true/\uH l
def LG(m:Int)(l:Li): Prop:=0<=m/\m<=12/\dJ l
def Ru(m:Int)(l:Li)(k:Int): Prop:=nP k m/\k*m<=l.length
def GU(m:Int)(l:Li)(i k:Int): Prop:=nP k m/\i*m+k<=l.length
def rz(q m:Int)(l:Li): List (Lj):=(List.range q.toNat).map λk:Nat=>jk m (bB l ((k:Int)*(m*m)))
def nT(q m:Int)(l:Li)(k:Int): List (Lj):=(rz q m l).take k.toNat++List.replicate (q.toNat-k.toNat) []
def aCk(q m:Int)(l:Li)(k:Int): Prop:=nP k q/\(k+1)*(m*m)<=l.length-4
def ql(l:Li): Bool:=decide (l.getD 2 0<=12/\l.getD 3 0<=4/\l.getD 0 0<l.getD 1 0/\l.getD 1 0<=l.getD 0 0+60/\l.getD 1 0<=600)
def mD(l:Li): Bool:=decide (4<=l.length)&&ql l&&decide (4+l.getD 2 0*l.getD 2 0+l.getD 3 0*(l.getD 2 0*l.getD 2 0)<=l.length)
def aw(l:Li): Plan:=(l.getD 0 0,l.getD 1 0,jk (l.getD 2 0) (bB l 4),rz (l.getD 3 0) (l.getD 2 0) (bB l (4+l.getD 2 0*l.getD 2 0)))
def bK(l:Li): Li:=bB l (4+l.getD 2 0*l.getD 2 0+l.getD 3 0*(l.getD 2 0*l.getD 2 0))
def at0(l:Li)(k:Nat): Int:=l.getD k 0
def I4(q m:Int)(l:Li)(k:Int): Li:=bB l (4+m*m+k*(m*m))
def aFp(l:Li): Ann:=⟨λid s=>match id with
 | 3=>some {α:=Int,inv:=λk=>Yz l k,st:=λk=>put (fF s) [(10,.dat I k),(3,.dat I (sP l k)),(4,.dat I (sS l k))],μ:=λk=>Dc (Dh (Df l) k)}
 | _=>none,λ_ _=>none,λ_ _=>none⟩
def ZG(l:Li): Ann:=⟨λid s=>match id with
 | 3=>some {α:=Int,inv:=λk=>y9 l k,st:=λk=>put (fF s) [(9,.dat I k),(3,.dat I (sP (rl l) k)),(4,.dat I (sS (rl l) k))],μ:=λk=>Dc (Dh (Df l) k)}
 | _=>none,λ_ _=>none,λ_ _=>none⟩
theorem DV(s:Int)(l:Li)(hvc:
 let c1:=(l,s);true/\(uH l->(∃x,Yz l x/\l=l/\s=s/\c1=c1/\1=sP l x/\0=sS l x/\c1=c1/\l=l/\Df l=Df l/\0=x/\True)/\∀(x:Int),let c2:=Dp x (Df l);let c3:=Du l (Dc x) 0;let c4:=Di (btw c3 0 65519);let c5:=sP l x*3;let aP:=Fq c5 65521;let c7:=c3*aP;let c8:=sS l x+c7;let c9:=x+1;Yz l x->(c2->0<=x/\x<Df l/\True/\(c4->false=cw l s/\True)/\(c4=false->inR .i64 c5/\Eo 65521 0/\inR .i64 c7/\inR .i64 c8/\Eo 65521 0/\inR .i64 c9/\∃y,Yz l y/\(l=l/\s=s/\c1=c1/\aP=sP l y/\Fq c8 65521=sS l y/\c1=c1/\l=l/\Df l=Df l/\c9=y/\True)/\Dc (Df l-y)<Dc (Df l-x)))/\(c2=false->Dy s (sS l x)=cw l s/\True))):
  evF (mkc UW) (aFp l) 141 [.agg [.dat R l,.dat I s]] [] ⟨uH l,.dat .bool (cw l s),[]⟩:=oE hvc
theorem P8(l:Li)(hvc:
 true/\(PT l->(∃x,y9 l x/\l=l/\(0:Int)=(0:Int)/\1=sP (rl l) x/\0=sS (rl l) x/\l=l/\Df l=Df l/\0=x/\True)/\∀(x:Int),let c1:=Dp x (Df l);let c2:=sP (rl l) x*3;let c3:=Fq (Du l (Dc x) 0) 65521+65521;let c4:=Fq c2 65521;let c5:=Fq c3 65521*c4;let aP:=sS (rl l) x+c5;let c7:=x+1;y9 l x->(c1->0<=x/\x<Df l/\inR .i64 c2/\Eo 65521 0/\Eo 65521 0/\inR .i64 c3/\Eo 65521 0/\inR .i64 c5/\inR .i64 aP/\Eo 65521 0/\inR IntKind.i64 c7/\∃y,y9 l y/\(l=l/\(0:Int)=(0:Int)/\c4=sP (rl l) y/\Fq aP 65521=sS (rl l) y/\l=l/\Df l=Df l/\c7=y/\True)/\Dc (Df l-y)<Dc (Df l-x))/\(c1=false->sS (rl l) x=fO l/\True))):
  evF (mkc UW) (ZG l) 36 [.dat R l] [] ⟨PT l,.dat I (fO l),[]⟩:=oE hvc
def aFg: Kt:=kOr 141 (ay [.row Ce] (λ(c,_)=>uH c.1) λ(c,_)=>.dat .bool (cw c.1 c.2)) <|
 kOr 36 (ay [.val R] (λ(l,_)=>PT l) λ(l,_)=>.dat I (fO l)) <|
 UW
def aEF: Kt:=
 kOr 207 (Vt 1 R [.mp 1] (λ_ xs=>True/\bq xs=true) (λ_ xs=>.dat I (hd xs)) λ_ xs=>tl xs) aFg
def KP6: KPt:=pOr 207 (Yj 1 R [.mp 1] λ_ xs=>⟨True,bq xs,du 39 190⟩) KPr
def aP: Cfg:=Jg aEF (λ_=>false) KP6 (λf=>f==79||f==207)
def Rt(m:Int)(l:Li): Ann:=⟨λid s=>match id with
 | 3=>some {α:=Int,inv:=λk=>Ru m l k,st:=λk=>iM (iM (put (fF s) [(12,.dat I k),(5,.buf 2 (Dc m))]) 2 (.buf 36 R (fz (tg l m) m k) [])) 1 (.var [.dat R (bB l (Ee k m))]),μ:=λk=>Dc (Dh m k)}
 | 7=>match s.sig.T 6,s.sig.T 23 with
  | .dat (.int .i64) i,.buf nm _=>some {α:=Int,inv:=λk=>GU m l i k,st:=λk=>iM (iM (put (fF s) [(25,.dat I k)]) nm (.buf 3 I (iy (tg l m) m i k) [])) 1 (.var [.dat R (bB l (Dq (Ee i m) k))]),μ:=λk=>Dc (Dh m k)}
  | _,_=>none
 | _=>none,λ_ _=>none,λ_ _=>none⟩
theorem Io(m:Int)(l:Li)(hvc:
 let c16:=tg l m;let c6:=Dc m;let c1:=Ep m (Dt Int);let c2:=Ep m (0:Int);let c3:=chainOf (Value.iface (39) (Value.int IntKind.i64 (190:Int)));true/\(LG m l->1=1/\0<=m/\(Dx (24)*m)<=281474976710656/\m<=9223372036854775807/\Dj c1=Dc m/\(∃x,Ru m l x/\1=1/\0=0/\0=0/\m=m/\Value.slice none (0) (0)=Value.slice none (0) (0)/\Dc m=Dc m/\m=m/\Dc m=Dc m/\Dc m=Dc m/\Int.ofNat c6=Int.ofNat c6/\0=x/\l=bB l (x*m)/\c1=fz c16 m x/\1=1/\True)/\∀(x:Int),let c4:=Dp x (Int.ofNat c6);let c5:=fz c16 m x;let aP:=Dj c5;let c7:=bB l (x*m);let c8:=x+1;Ru m l x->(c4->0<=m/\(Dx (8)*m)<=281474976710656/\m<=9223372036854775807/\aP=Dc m/\0<=x/\x<Dx aP/\aP=Dc m/\Dj c2=Dc m/\aP=Dc m/\0<=x/\x<Dx aP/\aP=Dc m/\Dc x=Dc x/\Dj c2=Dc m/\(∃x_3,GU m l x x_3/\1=1/\0=0/\0=0/\m=m/\Value.slice none (0) (0)=Value.slice none (0) (0)/\Dc m=Dc m/\x=x/\m=m/\Dc m=Dc m/\Dc m=Dc m/\Int.ofNat c6=Int.ofNat c6/\x=x/\c4=c4/\x=x/\Dc m=Dc m/\x=x/\m=m/\Dc m=Dc m/\Dc m=Dc m/\Dc x=Dc x/\0=0/\Dc m=Dc m/\x=x/\Dc m=Dc m/\Dc x=Dc x/\0=0/\Dc m=Dc m/\Int.ofNat c6=Int.ofNat c6/\0=x_3/\c7=bB l ((x*m)+x_3)/\c5=c5/\Dc x=Dc x/\Dc m=Dc m/\c2=iy c16 m x x_3/\1=1/\True)/\∀(x_3:Int),let c9:=Dp x_3 (Int.ofNat c6);let c10:=bB l ((x*m)+x_3);let c11:=bq c10;let c12:=hd c10-1;let c13:=iy c16 m x x_3;let c14:=Dj c13;let c15:=x_3+1;
 GU m l x x_3->(c9->aP=Dc m/\0<=x/\x<Dx aP/\aP=Dc m/\Dc x=Dc x/\True/\(c11->aP=Dc m/\0<=x/\x<Dx aP/\aP=Dc m/\Dc x=Dc x/\(True/\c11)/\1=1/\inR .i64 c12/\c14=Dc m/\0<=x_3/\x_3<Dx c14/\c14=Dc m/\inR .i64 c15/\∃y,GU m l x y/\(1=1/\0=0/\0=0/\m=m/\Value.slice none (0) (0)=Value.slice none (0) (0)/\Dc m=Dc m/\x=x/\m=m/\Dc m=Dc m/\Dc m=Dc m/\Int.ofNat c6=Int.ofNat c6/\x=x/\c4=c4/\x=x/\Dc m=Dc m/\x=x/\m=m/\Dc m=Dc m/\Dc m=Dc m/\Dc x=Dc x/\0=0/\Dc m=Dc m/\x=x/\Dc m=Dc m/\Dc x=Dc x/\0=0/\Dc m=Dc m/\Int.ofNat c6=Int.ofNat c6/\c15=y/\tl c10=bB l ((x*m)+y)/\c5=c5/\Dc x=Dc x/\Dc m=Dc m/\En c13 (Dc x_3) c12=iy c16 m x y/\1=1/\True)/\Dc (m-y)<Dc (m-x_3))/\(c11=false->nU m l=false/\true/\c3=c3))/\(c9=false->inR .i64 c8/\∃y,Ru m l y/\(1=1/\0=0/\0=0/\m=m/\Value.slice none (0) (0)=Value.slice none (0) (0)/\Dc m=Dc m/\m=m/\Dc m=Dc m/\Dc m=Dc m/\Int.ofNat c6=Int.ofNat c6/\c8=y/\c10=bB l (y*m)/\c14=Dc m/\En c5 (Dc x) c13=fz c16 m y/\1=1/\True)/\Dc (m-y)<Dc (m-x)))/\(c4=false->nU m l/\aP=Dc m/\c5=jk m l/\c7=bB l (m*m)/\1=1/\True))):
  evM aP (Rt m l) 208 [.ptr 1 1 0 0,.dat I m] [(1,.var [.dat R l])] (.dat M (jk m l)) [(1,.var [.dat R (bB l (Ee m m))])] ⟨LG m l,nU m l,du 39 190⟩:=oE hvc
def aEE: Kt:=kOr 208 (Vt 1 R [.mp 1,.val I] (λ(_,m,_) xs=>LG m xs/\nU m xs=true) (λ(_,m,_) xs=>.dat M (jk m xs)) λ(_,m,_) xs=>bB xs (Ee m m)) aEF
def KP7: KPt:=pOr 208 (Yj 1 R [.mp 1,.val I] λ(_,m,_) xs=>⟨LG m xs,nU m xs,du 39 190⟩) KP6
def c7: Cfg:=Jg aEE (λ_=>false) KP7 (λf=>f==79||f==207||f==208)
def aDQ(l:Li): Ann:=⟨λid s=>match id with
 | 9=>some {α:=Int,inv:=λk=>aCk (at0 l 3) (at0 l 2) l k,st:=λk=>iM (iM (put (fF s) [(53,.dat I k)]) 4 (.buf 32 M (nT (at0 l 3) (at0 l 2) (bB l (Dq 4 (Ee (at0 l 2) (at0 l 2)))) k) [])) 1 (.var [.dat R (I4 (at0 l 3) (at0 l 2) l k)]),μ:=λk=>Dc (Dh (at0 l 3) k)}
 | _=>none,λ_ _=>none,λ_ _=>none⟩
theorem Wm(l:Li)(hvc:
 let c1:=chainOf (Value.iface (39) (Value.int IntKind.i64 (190:Int)));let c2:=bq (tl (tl (tl l)));let c3:=Eh (hd (tl (tl l))) 12;let c4:=hd (tl (tl (tl l)));let c5:=Eb c3 (Eh c4 4) false;let aP:=Dp (hd l) (hd (tl l));let c7:=hd l+60;let c8:=Eb aP (Eh (hd (tl l)) c7) false;let c9:=Eb c8 (Eh (hd (tl l)) 600) false;let c10:=tl (tl (tl (tl l)));let c11:=nU (hd (tl (tl l))) c10;let c12:=Ep c4 (Dt (Li));let c13:=Dc c4;let c14:=jk (hd (tl (tl l))) c10;let c15:=Int.ofNat c13;let c16:=hd (tl (tl l))*hd (tl (tl l));let c17:=bB l (4+(at0 l (2)*at0 l (2)));let c18:=(aw l).2;let c19:=c18.2;
 true/\(dJ l->1=1/\(true->True/\(bq l=false->mD l=false/\true/\c1=c1))/\((true->bq l)->(True/\bq l)/\1=1/\(true->True/\(bq (tl l)=false->mD l=false/\true/\c1=c1))/\((true->bq (tl l))->(True/\bq (tl l))/\1=1/\1=1/\1=1/\0=0/\1=1/\1=1/\0=0/\(true->True/\(bq (tl (tl l))=false->mD l=false/\true/\c1=c1))/\((true->bq (tl (tl l)))->(True/\bq (tl (tl l)))/\1=1/\(true->True/\(c2=false->mD l=false/\true/\c1=c1))/\((true->c2)->(True/\c2)/\1=1/\(c3->c3->c3)/\(Dk true c3->c3)/\(true->True/\(c5=false->mD l=false/\true/\c1=c1))/\((true->c5)->(True/\c5)/\1=1/\1=1/\0=0/\1=1/\1=1/\0=0/\(aP->1=1)/\(aP->aP->aP)/\(aP->1=1)/\(aP->0=0)/\(aP->1=1)/\(aP->aP->aP)/\(aP->1=1)/\(aP->0=0)/\(aP->aP->aP)/\(aP->inR IntKind.i64 c7)/\(aP->aP->aP)/\(aP->aP->aP)/\(Dk true aP->aP)/\(c8->1=1)/\(c8->c8->c8)/\(c8->1=1)/\(c8->0=0)/\(c8->c8->c8)/\(Dk true c8->c8)/\(true->True/\(c9=false->mD l=false/\true/\c1=c1))/\((true->c9)->(True/\c9)/\(true->LG (hd (tl (tl l))) c10/\(c11=false->mD l=false/\true/\c1=c1))/\((true->c11)->(LG (hd (tl (tl l))) c10/\c11)/\1=1/\1=1/\1=1/\0=0/\0<=c4/\(Dx (24)*c4)<=281474976710656/\c4<=9223372036854775807/\1=1/\1=1/\0=0/\Dj c12=c13/\1=1/\1=1/\0=0/\Dj c12=c13/\(∃x,aCk (at0 l (3)) (at0 l (2)) l x/\1=1/\0=0/\0=0/\1=1/\0=0/\0=0/\1=1/\0=0/\0=0/\hd (tl (tl l))=hd (tl (tl l))/\c4=c4/\1=1/\0=0/\0=0/\hd l=hd l/\1=1/\0=0/\0=0/\hd (tl l)=hd (tl l)/\1=1/\0=0/\0=0/\1=1/\0=0/\1=1/\1=1/\0=0/\0=0/\hd (tl (tl l))=hd (tl (tl l))/\1=1/\0=0/\0=0/\c4=c4/\hd (tl (tl l))=hd (tl (tl l))/\c3=c3/\c3=c3/\c5=c5/\1=1/\0=0/\0=0/\hd l=hd l/\1=1/\0=0/\1=1/\hd (tl l)=hd (tl l)/\aP=aP/\aP=aP/\c8=c8/\c8=c8/\c9=c9/\1=1/\0=0/\0=0/\hd (tl (tl l))=hd (tl (tl l))/\c14=c14/\1=1/\0=0/\2=2/\c4=c4/\c13=c13/\1=1/\0=0/\3=3/\1=1/\0=0/\3=3/\c13=c13/\c15=c15/\
 0=x/\bB c10 c16=I4 (at0 l (3)) (at0 l (2)) l x/\(0:Int)=(0:Int)/\(0:Int)=(0:Int)/\Value.slice none (0) (0)=Value.slice none (0) (0)/\Value.slice none (0) (0)=Value.slice none (0) (0)/\hd l=hd l/\hd (tl l)=hd (tl l)/\c14=c14/\c13=c13/\c12=nT (at0 l (3)) (at0 l (2)) c17 x/\1=1/\True)/\∀(x:Int),let c20:=I4 (at0 l (3)) (at0 l (2)) l x;let c21:=nU (hd (tl (tl l))) c20;let c22:=nT (at0 l (3)) (at0 l (2)) c17 x;let c23:=Dj c22;let c24:=x+1;
 aCk (at0 l (3)) (at0 l (2)) l x->(Dp x c15->1=1/\1=1/\0=0/\LG (hd (tl (tl l))) c20/\(c21->1=1/\1=1/\0=0/\(LG (hd (tl (tl l))) c20/\c21)/\1=1/\c23=c13/\0<=x/\x<Dx c23/\c23=c13/\inR .i64 c24/\∃y,aCk (at0 l (3)) (at0 l (2)) l y/\(1=1/\0=0/\0=0/\1=1/\0=0/\0=0/\1=1/\0=0/\0=0/\hd (tl (tl l))=hd (tl (tl l))/\c4=c4/\1=1/\0=0/\0=0/\hd l=hd l/\1=1/\0=0/\0=0/\hd (tl l)=hd (tl l)/\1=1/\0=0/\0=0/\1=1/\0=0/\1=1/\1=1/\0=0/\0=0/\hd (tl (tl l))=hd (tl (tl l))/\1=1/\0=0/\0=0/\c4=c4/\hd (tl (tl l))=hd (tl (tl l))/\c3=c3/\c3=c3/\c5=c5/\1=1/\0=0/\0=0/\hd l=hd l/\1=1/\0=0/\1=1/\hd (tl l)=hd (tl l)/\aP=aP/\aP=aP/\c8=c8/\c8=c8/\c9=c9/\1=1/\0=0/\0=0/\hd (tl (tl l))=hd (tl (tl l))/\c14=c14/\1=1/\0=0/\2=2/\c4=c4/\c13=c13/\1=1/\0=0/\3=3/\1=1/\0=0/\3=3/\c13=c13/\c15=c15/\c24=y/\bB c20 c16=I4 (at0 l (3)) (at0 l (2)) l y/\(0:Int)=(0:Int)/\(0:Int)=(0:Int)/\Value.slice none (0) (0)=Value.slice none (0) (0)/\Value.slice none (0) (0)=Value.slice none (0) (0)/\hd l=hd l/\hd (tl l)=hd (tl l)/\c14=c14/\c13=c13/\En c22 (Dc x) (jk (hd (tl (tl l))) c20)=nT (at0 l (3)) (at0 l (2)) c17 y/\1=1/\True)/\Dc (at0 l (3)-y)<Dc (at0 l (3)-x))/\(c21=false->mD l=false/\true/\c1=c1))/\(Dp x c15=false->1=1/\0=0/\1=1/\0=0/\c23=c13/\mD l/\1=1/\0=0/\hd l=(aw l).1/\hd (tl l)=c18.1/\c14=c19.1/\c23=c13/\c22=c19.2/\c20=bK l/\1=1/\True)))))))))):
  evM c7 (aDQ l) 142 [.ptr 1 1 0 0] [(1,.var [.dat R l])] (.agg [.dat I (aw l).1,.dat I (aw l).2.1,.dat M (aw l).2.2.1,.dat (.sl M) (aw l).2.2.2]) [(1,.var [.dat R (bK l)])] ⟨dJ l,mD l,du 39 190⟩:=oE hvc
def aFf: Kt:=kOr 142 (Vt 1 R [.mp 1] (λ_ xs=>dJ xs/\mD xs=true) (λ_ xs=>.agg [.dat I (aw xs).1,.dat I (aw xs).2.1,.dat M (aw xs).2.2.1,.dat (.sl M) (aw xs).2.2.2]) λ_ xs=>bK xs) aEE
def KP8: KPt:=pOr 142 (Yj 1 R [.mp 1] λ_ xs=>⟨dJ xs,mD xs,du 39 190⟩) KP7
theorem MN(l:Li): sP l 0=1:=rfl
theorem ML(l:Li): sS l 0=0:=rfl
theorem Aw{l:Li}{x:Int}(h0:0<=x)(h1:x<l.length): l.take (x+1).toNat=l.take x.toNat++[l.getD x.toNat 0]:=by
 rw[show(x+1).toNat=x.toNat+1 by omega,wZ,qA,qB (by omega:x.toNat<l.length)];rfl
theorem G5{l:Li}{x:Int}(h0:0<=x)(h1:x<l.length): sP l (x+1)=sP l x*3%65521/\sS l (x+1)=(sS l x+l.getD x.toNat 0*(sP l x*3%65521))%65521:=by
 unfold sP sS;rw[Aw h0 h1,SH];exact⟨rfl,rfl⟩
theorem aCe(l:Li)(x:Int): (0<=sP l x/\sP l x<65521)/\0<=sS l x/\sS l x<65521:=MM (l.take x.toNat) (st:=(1,0)) ⟨⟨by decide,by decide⟩,⟨by decide,by decide⟩⟩
theorem aAM{l:Li}{x:Int}(h:(l.length:Int)<=x): sS l x=vt l:=by
 unfold sS vt;rw[qO (by omega)]
theorem Vk(l:Li): (rl l).length=l.length:=by unfold rl;rw[vY]
theorem aDO{l:Li}{i:Nat}(h:i<l.length): (rl l).getD i 0=l.getD i 0%65521:=by
 unfold rl;rw[qA,qP,qA,qB h];rfl
theorem cN{l:Li}: iV l=true↔∀x∈l,0<=x/\x<=65519:=by
 unfold iV;rw[qL];exact⟨λh x hx=>nL.1 (h x hx),λh x hx=>nL.2 (h x hx)⟩
theorem N6{l:Li}{x:Int}(h:Yz l x)(h1:x<l.length)(h2:btw (l.getD x.toNat 0) 0 65519=true): Yz l (x+1):=by
 obtain⟨a,b,c⟩:=h;refine⟨by omega,by omega,?_⟩
 rw[Aw a h1];unfold iV at c ⊢;rw[qAa,c];simpa using h2
theorem TP{l:Li}{x:Int}(h:Yz l x)(h1:¬x<l.length): iV l=true:=by
 obtain⟨a,b,c⟩:=h
 rwa [qO (by omega)]at c
theorem N7{l:Li}{x:Int}(h0:0<=x)(h1:x<l.length)(h2:btw (l.getD x.toNat 0) 0 65519=false): iV l=false:=by
 cases e:iV l with
 | false=>rfl
 | true=>
  have:=nL.2 (cN.1 e _ (aJ (l:=l) (i:=x.toNat) (d:=0) (by omega)))
  rw[this]at h2;cases h2
theorem Vs{a b:Int}(a0:0<=a)(a1:a<=65521)(b0:0<=b)(b1:b<=65521): 0<=a*b/\a*b<=65521*65521:=
 ⟨qAh a0 b0,xW a1 b1 b0 (by omega)⟩
theorem tme{a:Int}(h:0<=a): a.tmod 65521=a%65521:=qCs h
theorem IT(s:Int)(l:Li): af Tryz.prog dU 141 [.agg [.dat R l,.dat I s]] [] ⟨uH l,.dat .bool (cw l s),[]⟩:=by
 refine ae (c:=mkc UW) Py aL hm (DV s l ⟨rfl,λhl=>?_⟩)
 have hl:l.length<=2000000000000000:=hl;refine⟨⟨0,⟨qM _,vC _,rfl⟩,by simp[MN,ML]⟩,λx=>?_⟩
 intro c2 c3 c4 c5 aP c7 c8 c9 hx;refine⟨λh2=>?_,λh2=>?_⟩
 .have h2:x<(l.length:Int):=vO h2;have h0:=hx.1;obtain⟨⟨p0,p1⟩,s0,s1⟩:=aCe l x;obtain⟨n1,n2⟩:=G5 h0 h2;refine⟨h0,h2,trivial,λh4=>⟨?_,trivial⟩,λh4=>?_⟩
  .have:btw (l.getD x.toNat 0) 0 65519=false:=by simpa[c4,c3,Di,Du,Dc]using h4
   unfold cw;rw[N7 h0 h2 this];rfl
  .have hb:btw (l.getD x.toNat 0) 0 65519=true:=by simpa[c4,c3,Di,Du,Dc]using h4
   obtain⟨b0,b1⟩:=nL.1 hb;have e6:aP=sP l (x+1):=by rw[n1];exact tme (by show 0<=sP l x*3;omega)
   obtain⟨⟨q0,q1⟩,_,_⟩:=aCe l (x+1);have e3:c3=l.getD x.toNat 0:=rfl;have e7:c7=c3*aP:=rfl;have e8:c8=sS l x+c7:=rfl;have e5:c5=sP l x*3:=rfl;have e9:c9=x+1:=rfl;clear_value c3 c5 aP c7 c8 c9;have hm:=Vs (a:=c3) (b:=aP) (by omega) (by omega) (by omega) (by omega)
   refine⟨aB (by omega),by decide,aB (by omega),aB (by omega),by decide,aB (by omega),x+1,N6 hx h2 hb,⟨rfl,rfl,rfl,e6,?_,rfl,rfl,rfl,e9,trivial⟩,?_⟩
   .rw[n2,<- n1];show c8.tmod 65521=_;rw[tme (by omega),e8,e7,e3,e6]
   .simp only[Dc,Df];omega
 .have h2:¬x<(l.length:Int):=qCn h2;refine⟨?_,trivial⟩;unfold cw;rw[TP hx h2,aAM (by omega),zQ]
  show(s==_)=_;rw[qCh];simp
theorem D4(l:Li): af Tryz.prog dU 36 [.dat R l] [] ⟨PT l,.dat I (fO l),[]⟩:=by
 refine ae (c:=mkc UW) Py aL hm (P8 l ⟨rfl,λhl=>?_⟩)
 have hl:l.length<=9223372036854775807:=hl;refine⟨⟨0,⟨qM _,vC _⟩,by simp[MN,ML]⟩,λx=>?_⟩
 intro c1 c2 c3 c4 c5 aP c7 hx;refine⟨λh2=>?_,λh2=>?_⟩
 .have h2:x<(l.length:Int):=vO h2;have h0:=hx.1;obtain⟨⟨p0,p1⟩,s0,s1⟩:=aCe (rl l) x;obtain⟨n1,n2⟩:=G5 (l:=rl l) h0 (by rw[Vk];exact h2)
  rw[aDO (by omega)]at n2
  have e4:c4=sP (rl l) (x+1):=by rw[n1];exact tme (by show 0<=sP (rl l) x*3;omega)
  obtain⟨⟨q0,q1⟩,_,_⟩:=aCe (rl l) (x+1);have em:Fq c3 65521=l.getD x.toNat 0%65521:=yn (by decide)
  have m0:=qAc (l.getD x.toNat 0) (show(65521:Int)≠0 by decide)
  have m1:=kM (l.getD x.toNat 0) (show(0:Int)<65521 by decide)
  have e5:c5=Fq c3 65521*c4:=rfl;have e6:aP=sS (rl l) x+c5:=rfl;have e2:c2=sP (rl l) x*3:=rfl;have e7:c7=x+1:=rfl;have e3:c3=(l.getD x.toNat 0).tmod 65521+65521:=rfl;have tb:-65521<(l.getD x.toNat 0).tmod 65521/\(l.getD x.toNat 0).tmod 65521<65521:=by
   have:=qBi (a:=l.getD x.toNat 0) (b:=65521);split at this<;>omega
  rw[em]at e5;clear_value c2 c3 c4 c5 aP c7;have hm:=Vs (a:=l.getD x.toNat 0%65521) (b:=c4) (by omega) (by omega) (by omega) (by omega)
  refine⟨h0,h2,aB (by omega),by decide,by decide,aB (by omega),by decide,aB (by omega),aB (by omega),by decide,⟨show(-9223372036854775808:Int)<=_ by omega,show _<=(9223372036854775807:Int) by omega⟩,x+1,⟨by omega,by omega⟩,⟨rfl,rfl,e4,?_,rfl,rfl,e7,trivial⟩,?_⟩
  .rw[n2,<- n1];show aP.tmod 65521=_;rw[tme (by omega),e6,e5,e4]
  .simp only[Dc,Df];omega
 .have h2:¬x<(l.length:Int):=qCn h2;exact⟨aAM (by rw[Vk];omega),trivial⟩
theorem aEu: al Tryz.prog dU aFg:=aj (ag λ((l,s),_)=>IT s l)<|aj (ag λ(l,_)=>D4 l) <|
 Py
theorem Xl: ∀x xs,af Tryz.prog dU 207 (avK [.mp 1] x) [(1,.var [.dat R xs])] ⟨True/\bq xs=true,.dat I (hd xs),[(1,.var [.dat R (tl xs)])]⟩:=λ_ xs=>(sf xs).1
theorem aBW: al Tryz.prog dU aEF:=
 aj (pB Xl) aEu
theorem PG: bL Tryz.prog dU KP6:=iC (tw λ_ xs=>(sf xs).2) Ig
theorem pJ{α:Type}(xs:List α)(d v:α)(k:Nat)(hk:xs[k]?=some v): (xs.take k++List.replicate (xs.length-k) d).set k v=xs.take (k+1)++List.replicate (xs.length-(k+1)) d:=by
 obtain⟨h,e⟩:=qG.1 hk;have e2:xs.length-k=(xs.length-(k+1))+1:=by omega
 rw[e2,qBn,List.set_append_right _ _ (by simp;omega)]
 simp[wZ,hk,xG (Nat.le_of_lt h)]
theorem iI(g:Int->Int->Int)(n:Int): (cU g n).length=n.toNat:=by simp[cU]
theorem sG(g:Int->Int->Int)(n x:Int)(h:nP x n): (fz g n x).length=n.toNat:=by
 have:=h.1;have:=h.2;simp only[fz,qF,qI,wQ,iI];omega
theorem vD(g:Int->Int->Int)(n i x:Int)(h:nP x n): (iy g n i x).length=n.toNat:=by
 have:=h.1;have:=h.2;simp only[iy,qF,qI,wQ,vY,wG];omega
theorem A8(g:Int->Int->Int)(n:Int): fz g n 0=List.replicate n.toNat []:=by simp[fz]
theorem ED(g:Int->Int->Int)(n i:Int): iy g n i 0=List.replicate n.toNat 0:=by simp[iy]
theorem EE(g:Int->Int->Int)(n i j:Int)(h0:0<=j)(h1:j<n): (iy g n i j).set j.toNat (g i j)=iy g n i (j+1):=by
 have e:(j+1).toNat=j.toNat+1:=by omega
 have:=pJ ((List.range n.toNat).map λj:Nat=>g i j) 0 (g i j) j.toNat (by
  rw[qP,wJ (by omega)];simp[vF h0])
 simp only[vY,wG]at this;unfold iy;rw[e];exact this
theorem I3(g:Int->Int->Int)(n i j:Int)(h:nP j n)(h1:¬j<n): iy g n i j=(List.range n.toNat).map λj:Nat=>g i j:=by
 have:=h.1;have:=h.2;have e:j.toNat=n.toNat:=by omega
 unfold iy;rw[e,qO (by simp)];simp
theorem Ba(g:Int->Int->Int)(n i j:Int)(h0:0<=i)(h1:i<n)(h:nP j n)(h2:¬j<n): (fz g n i).set i.toNat (iy g n i j)=fz g n (i+1):=by
 have e:(i+1).toNat=i.toNat+1:=by omega
 rw[I3 g n i j h h2];have:=pJ (cU g n) [] ((List.range n.toNat).map λj:Nat=>g i j) i.toNat (by
  unfold cU;rw[qP,wJ (by omega)];simp[vF h0])
 rw[iI]at this;unfold fz;rw[e];exact this
theorem EC(g:Int->Int->Int)(n i:Int)(h:nP i n)(h1:¬i<n): fz g n i=cU g n:=by
 have:=h.1;have:=h.2;have e:i.toNat=n.toNat:=by omega
 unfold fz;rw[e,qO (by rw[iI];exact qK _)];simp
theorem xq{l:Li}{k:Int}(h:0<=k): tl (bB l k)=bB l (k+1):=by
 unfold tl bB;rw[yK];congr 1;omega
theorem tZ(l:Li)(k:Int): hd (bB l k)=l.getD k.toNat 0:=by
 unfold hd bB;simp[]
theorem rM{l:Li}{k:Int}(h:0<=k): bq (bB l k)=decide (k<l.length):=by
 unfold bq bB;rw[wB,qBd];omega
theorem drop_drop{l:Li}{a b:Int}(ha:0<=a)(hb:0<=b): bB (bB l a) b=bB l (a+b):=by
 unfold bB;rw[yK];congr 1;omega
theorem HV(l:Li)(k:Int): (bB l k).length=l.length-k.toNat:=by unfold bB;rw[wB]
theorem ib(i m:Int): (i+1)*m=i*m+m:=by rw[Int.add_mul,Int.one_mul]
theorem Ax(m:Int)(l:Li): af Tryz.prog dU 208 [.ptr 1 1 0 0,.dat I m] [(1,.var [.dat R l])] ⟨LG m l/\nU m l=true,.dat M (jk m l),[(1,.var [.dat R (bB l (Ee m m))])]⟩/\
  cX Tryz.prog dU 208 [.ptr 1 1 0 0,.dat I m] [(1,.var [.dat R l])] ⟨LG m l,nU m l,du 39 190⟩:=by
 refine cn (c:=aP) aBW aL hm PG (Io m l ⟨rfl,λhp=>?_⟩)
 obtain⟨m0,m1,⟨hin,hl⟩⟩:=hp;have hl:l.length<=2000000000000000:=hl;have em:(Int.ofNat (Dc m))=m:=vF m0;have bd:∀{k:Int},0<=k->k<l.length->0<=l.getD k.toNat 0/\l.getD k.toNat 0<=65519:=λ{k} h0 h1=>cN.1 hin _ (aJ (by omega))
 simp only[em];simp only[qc,qd,Dt,Dp,Dc,Dx,Dj,En,Ep];refine⟨m0,by omega,by omega,by simp,⟨0,⟨⟨qM _,.inr rfl⟩,by rw[Int.zero_mul];exact vC _⟩,rfl,by rw[Int.zero_mul];rfl,(A8 _ _).symm⟩,λx hx=>⟨λhlt=>?_,λhge=>?_⟩⟩
 .have h0:=hx.1.1;have hln:=sG (tg l m) m x hx.1;have xm0:0<=x*m:=qAh h0 m0;have top:(x+1)*m<=m*m:=qAt (by omega) m0
  rw[ib]at top;have em2:(m.toNat:Int)=m:=vF m0;have hlx:x<((fz (tg l m) m x).length:Int):=by rw[hln];omega
  refine⟨m0,by omega,by omega,hln,h0,hlx,hln,by simp,hln,h0,hlx,hln,by simp,⟨0,⟨⟨qM _,.inr rfl⟩,by have:=hx.2;omega⟩,rfl,by rw[Int.add_zero],(ED _ _ _).symm⟩,λy hy=>⟨λhy1=>?_,λhy1=>?_⟩⟩
  .have y0:=hy.1.1;have hrl:=vD (tg l m) m x y hy.1;have hly:y<((iy (tg l m) m x y).length:Int):=by rw[hrl];omega
   have eo:=rM (l:=l) (k:=x*m+y) (by omega)
   refine⟨hln,h0,hlx,hln,λho=>?_,λho=>?_⟩
   .have hlt2:x*m+y<l.length:=by rw[eo]at ho;exact vO ho
    obtain⟨b0,b1⟩:=bd (k:=x*m+y) (by omega) hlt2
    have eh:hd (bB l (x*m+y))-1=tg l m x y:=by rw[tZ];rfl
    refine⟨hln,h0,hlx,hln,ho,aB (by rw[tZ];omega),hrl,y0,hly,hrl,aB (by omega),y+1,⟨⟨by omega,.inl (by omega)⟩,by omega⟩,⟨rfl,?_,?_⟩,by omega⟩
    .rw[xq (by omega),Int.add_assoc]
    .rw[eh];exact EE (tg l m) m x y y0 hy1
   .rw[eo,vW]at ho;unfold nU;rw[vW];omega
  .have hy2:y=m:=by rcases hy.1 with⟨y0,y1⟩;omega
   refine⟨aB (by omega),x+1,⟨⟨by omega,.inl (by omega)⟩,by rw[ib];have:=hy.2;omega⟩,⟨rfl,by rw[ib,hy2],vD _ _ _ _ hy.1,Ba (tg l m) m x y h0 hlt hy.1 hy1⟩,by omega⟩
 .have hx2:x=m:=by rcases hx.1 with⟨x0,x1⟩;omega
  have htab:nU m l=true:=by
   unfold nU;rw[qE];have:=hx.2;rw[hx2]at this;exact this
  refine⟨htab,sG _ _ _ hx.1,EC _ _ _ hx.1 hge,?_⟩;rw[hx2]
theorem aBV: al Tryz.prog dU aEE:=aj (pB λ(_,m,_) xs=>(Ax m xs).1) aBW
theorem VT: bL Tryz.prog dU KP7:=iC (tw λ(_,m,_) xs=>(Ax m xs).2) PG
theorem fa{l:Li}(h:dJ l)(k:Int): dJ (bB l k):=
 ⟨cN.2 λx hx=>cN.1 h.1 x (List.mem_of_mem_drop hx),by show(bB l k).length<=_;rw[HV];have:l.length<=2000000000000000:=h.2;omega⟩
theorem U7(l:Li): af Tryz.prog dU 142 [.ptr 1 1 0 0] [(1,.var [.dat R l])] ⟨dJ l/\mD l=true,.agg [.dat I (aw l).1,.dat I (aw l).2.1,.dat M (aw l).2.2.1,.dat (.sl M) (aw l).2.2.2],[(1,.var [.dat R (bK l)])]⟩/\
  cX Tryz.prog dU 142 [.ptr 1 1 0 0] [(1,.var [.dat R l])] ⟨dJ l,mD l,du 39 190⟩:=by
 refine cn (c:=c7) aBV aL hm VT (Wm l ⟨rfl,λhp=>?_⟩)
 have hl:l.length<=2000000000000000:=hp.2;have t1:tl l=bB l 1:=rfl;have t2:tl (tl l)=bB l 2:=by rw[t1,xq (by decide)];rfl
 have t3:tl (tl (tl l))=bB l 3:=by rw[t2,xq (by decide)];rfl
 have t4:tl (tl (tl (tl l)))=bB l 4:=by rw[t3,xq (by decide)];rfl
 have h0:hd l=at0 l 0:=rfl;have h1:hd (tl l)=at0 l 1:=by rw[t1,tZ];rfl
 have h2:hd (tl (tl l))=at0 l 2:=by rw[t2,tZ];rfl
 have h3:hd (tl (tl (tl l)))=at0 l 3:=by rw[t3,tZ];rfl
 have o0:bq l=decide (0<l.length):=rfl;have o1:bq (tl l)=decide (1<l.length):=by rw[t1,rM (by decide),qBd];omega
 have o2:bq (tl (tl l))=decide (2<l.length):=by rw[t2,rM (by decide),qBd];omega
 have o3:bq (tl (tl (tl l)))=decide (3<l.length):=by rw[t3,rM (by decide),qBd];omega
 have bd:∀k:Nat,0<=at0 l k/\at0 l k<=65519:=λk=>by
  unfold at0;by_cases hk:k<l.length
  .exact cN.1 hp.1 _ (aJ hk)
  .rw[qA,zG (by omega)];exact⟨by decide,by decide⟩
 obtain⟨a0,a1⟩:=bd 0;obtain⟨b0,b1⟩:=bd 1;obtain⟨m0,m1⟩:=bd 2;obtain⟨q0,q1⟩:=bd 3;have epl:mD l=(decide (4<=l.length)&&ql l&&decide (4+at0 l 2*at0 l 2+at0 l 3*(at0 l 2*at0 l 2)<=l.length)):=rfl;have ehd:ql l=decide (at0 l 2<=12/\at0 l 3<=4/\at0 l 0<at0 l 1/\at0 l 1<=at0 l 0+60/\at0 l 1<=600):=rfl;have shrt:l.length<4->mD l=false:=λh=>by rw[epl,vK (by omega)];rfl
 have noHd:ql l=false->mD l=false:=λh=>by rw[epl,h];simp
 have noLen:¬4+at0 l 2*at0 l 2+at0 l 3*(at0 l 2*at0 l 2)<=l.length->mD l=false:=λh=>by rw[epl,vK h];simp
 simp only[h0,h1,h2,h3,o0,o1,o2,o3,t4];have eq3:Int.ofNat (Dc (at0 l 3))=at0 l 3:=vF q0;simp only[eq3];simp only[qc,Dk,qd,Dt,Dp,Eh,Dc,Dx,Dj,En,Ep];obtain⟨mm,hmm⟩:∃mm,mm=at0 l 2*at0 l 2:=⟨_,rfl⟩;have mm0:0<=mm:=by rw[hmm];exact qAh m0 m0
 have eK:∀k,I4 (at0 l 3) (at0 l 2) l k=bB l (4+mm+k*mm):=λk=>by unfold I4;rw[hmm]
 have tabA:∀k:Int,0<=k->(nU (at0 l 2) (bB l k)=true↔mm<=((l.length-k.toNat:Nat):Int)):=λk hk=>by
  unfold nU;rw[qE,HV,hmm]
 have ePL:mD l=true↔4<=l.length/\ql l=true/\4+mm+at0 l 3*mm<=l.length:=by
  rw[epl,qC,qC,qE,qE,hmm,qDg]
 have tl_len:(rz (at0 l 3) (at0 l 2) (bB l (4+mm))).length=(at0 l 3).toNat:=by unfold rz;simp
 have tT_len:∀{x:Int},nP x (at0 l 3)->(nT (at0 l 3) (at0 l 2) (bB l (4+mm)) x).length=(at0 l 3).toNat:=λ{x} ⟨h1,h2⟩=>by
  unfold nT;rw[qF,qI,wQ,tl_len];omega
 simp only[eK,<- hmm];refine⟨λh=>shrt (by omega),λl0=>⟨l0,λh=>shrt (by omega),λl1=>⟨l1,λh=>shrt (by omega),λl2=>⟨l2,λh=>shrt (by omega),λl3=>⟨l3,λh=>noHd ?_,λhA=>⟨hA,λh=>aB (by omega),λh=>noHd ?_,λhB=>⟨hB,?_⟩⟩⟩⟩⟩⟩⟩
 .rw[ehd,vW];intro g;exact h g.1 g.2.1
 .rw[ehd,vW];intro g;exact h ⟨g.2.2.1,g.2.2.2.1⟩ g.2.2.2.2
 have hH:ql l=true:=by rw[ehd,qE];exact⟨hA.1,hA.2,hB.1.1,hB.1.2,hB.2⟩
 have tP:∀k,LG (at0 l 2) (bB l k):=λk=>⟨m0,hA.1,fa hp k⟩
 have mono:∀{k:Int},0<=k->k<=at0 l 3->k*mm<=at0 l 3*mm:=λh1 h2=>qAt h2 mm0
 have kmm:∀{k:Int},0<=k->0<=k*mm:=λh=>qAh h mm0
 have bad:¬(4+mm+at0 l 3*mm<=l.length)->mD l=false:=λh=>by
  cases e:mD l with
  | false=>rfl
  | true=>exact absurd (ePL.1 e).2.2 h
 refine⟨⟨tP 4,λh=>bad ?_⟩,λhT=>⟨⟨tP 4,hT⟩,q0,by omega,by omega,by simp,by simp,⟨0,⟨⟨qM _,.inr rfl⟩,?_⟩,rfl,?_,?_⟩,λx hx=>⟨λhlt=>⟨tP _,λhT2=>?_,λhT2=>bad ?_⟩,λhge=>?_⟩⟩⟩
 .have:¬mm<=((l.length-(4:Int).toNat:Nat):Int):=λg=>by rw[(tabA 4 (by decide)).2 g]at h;cases h
  have:=kmm q0;have e4:(4:Int).toNat=4:=rfl;omega
 .have:=(tabA 4 (by decide)).1 hT
  have e4:(4:Int).toNat=4:=rfl;show(0+1)*(at0 l 2*at0 l 2)<=(l.length:Int)-4;rw[<- hmm];omega
 .rw[drop_drop (by decide) mm0,Int.zero_mul,Int.add_zero]
 .unfold nT;simp
 .have h0:=hx.1.1;have hl2:=tT_len hx.1;have h2':=hx.2;rw[<- hmm,ib]at h2';have hT3:=(tabA _ (by have:=kmm h0;omega)).1 hT2
  have:=kmm h0;refine⟨⟨tP _,hT2⟩,hl2,h0,by rw[hl2];omega,hl2,aB (by omega),x+1,⟨⟨by omega,.inl (by omega)⟩,?_⟩,⟨rfl,?_,?_⟩,by omega⟩
  .rw[<- hmm,ib,ib];omega
  .rw[drop_drop (by omega) mm0];congr 1;rw[ib];omega
  .have e:(x+1).toNat=x.toNat+1:=by omega
   have:=pJ (rz (at0 l 3) (at0 l 2) (bB l (4+mm))) [] (jk (at0 l 2) (bB l (4+mm+x*mm))) x.toNat (by
    unfold rz;rw[qP,wJ (by omega),zU,vF h0,drop_drop (by omega) (by rw[<- hmm];exact kmm h0),<- hmm])
   rw[tl_len]at this;unfold nT;rw[e];exact this
 .have h0:=hx.1.1;have hx0:=kmm h0;have hn:¬mm<=((l.length-(4+mm+x*mm).toNat:Nat):Int):=λg=>by rw[(tabA _ (by omega)).2 g]at hT2;cases hT2
  have:=mono (k:=x+1) (by omega) (by omega)
  rw[ib]at this;omega
 .have hxe:x=at0 l 3:=by rcases hx.1 with⟨h1,h2⟩;omega
  subst hxe;have h2':=hx.2;rw[<- hmm,ib]at h2';refine⟨tT_len hx.1,ePL.2 ⟨by omega,hH,by omega⟩,rfl,rfl,rfl,tT_len hx.1,?_,?_⟩
  .unfold nT;rw[qO (by rw[tl_len];exact qK _),qAx]
   show _++[]=_;rw[wL,hmm];rfl
  .rw[hmm];rfl
theorem aEt: al Tryz.prog dU aFf:=aj (pB λ_ xs=>(U7 xs).1) aBV
theorem aB0: bL Tryz.prog dU KP8:=iC (tw λ_ xs=>(U7 xs).2) VT
end Go.Eng.In
namespace Go.Eng.Sv
abbrev Line:=ByteArray×Int×Int×Int×Int×Int
abbrev Ll:=List Line
end Go.Eng.Sv
namespace Go.Eng.Sv
def br(l:Line): Int:=l.2.1
def lTo(l:Line): Int:=l.2.2.1
def lAt(l:Line): Int:=l.2.2.2.1
def aY(l:Line): Int:=l.2.2.2.2.1
def cell(xs:List Int)(a b:Nat): Int:=xs.getD (a*12+b) 0
def dX(xs:List Int)(a b len:Int): List Int:=
 bif decide (cell xs a.toNat b.toNat=-1)||decide (len<cell xs a.toNat b.toNat)then xs.set (a.toNat*12+b.toNat) len else xs
def FK: List Int:=(List.range 144).map λi=>if i/12=i%12 then 0 else -1
def oG(ls:Ll): List Int:=ls.foldl (λxs l=>dX xs (br l) (lTo l) (aY l)) FK
def xw(xs:List Int)(q:Nat): List Int:=
 bif (cell xs (q/12%12) (q/144) != -1)&&(cell xs (q/144) (q%12) != -1)then dX xs (q/12%12:Nat) (q%12:Nat) (cell xs (q/12%12) (q/144)+cell xs (q/144) (q%12))else xs
def fwN(ls:Ll)(k:Nat): List Int:=(List.range k).foldl xw (oG ls)
def yg(ls:Ll): List Int:=fwN ls 1728
structure cB (n:Nat) (ls:Ll):Prop where
 n12:n<=12
 at_:∀l∈ls,0<=br l/\br l<n/\0<=lTo l/\lTo l<n/\br l≠lTo l/\1<=aY l/\aY l<=5000
theorem UB{xs:List Int}{a b c d:Nat}{x:Int}(hb:b<12)(hd:d<12)(hl:a*12+b<xs.length):
  cell (xs.set (a*12+b) x) c d=if c=a/\d=b then x else cell xs c d:=by
 unfold cell;rw[List.getD_eq_getElem?_getD,List.getElem?_set,List.getD_eq_getElem?_getD];by_cases h:c=a/\d=b
 .obtain⟨rfl,rfl⟩:=h;simp[hl]
 .rw[if_neg h,if_neg (by omega)]
theorem gY(xs:List Int)(a b len:Int): (dX xs a b len).length=xs.length:=by
 unfold dX;cases(decide (cell xs a.toNat b.toNat=-1)||decide (len<cell xs a.toNat b.toNat))<;>simp
theorem dH{xs:List Int}(hl:xs.length=144){a b:Nat}(ha:a<12)(hb:b<12){len:Int}{c d:Nat}(hd:d<12):
  cell (dX xs a b len) c d=if c=a/\d=b/\(cell xs a b=-1\/len<cell xs a b)then len else cell xs c d:=by
 unfold dX;simp only[Int.toNat_natCast];by_cases h:cell xs a b=-1\/len<cell xs a b
 .have:(decide (cell xs a b=-1)||decide (len<cell xs a b))=true:=by simpa using h
  rw[this,cond_true,UB hb hd (by omega)]
  by_cases e:c=a/\d=b
  .rw[if_pos e,if_pos ⟨e.1,e.2,h⟩]
  .rw[if_neg e,if_neg λg=>e ⟨g.1,g.2.1⟩]
 .have:(decide (cell xs a b=-1)||decide (len<cell xs a b))=false:=by
   rw[Bool.eq_false_iff];simpa using h
  rw[this,cond_false,if_neg λg=>h g.2.2]
theorem oD(ls:Ll): (oG ls).length=144:=by
 unfold oG;have:∀(ls:Ll) (xs:List Int),(ls.foldl (λxs l=>dX xs (br l) (lTo l) (aY l)) xs).length=xs.length:=by
  intro ls;induction ls with
  | nil=>intro xs;rfl
  | cons l ls ih=>intro xs;rw[List.foldl_cons,ih,gY]
 rw[this];rfl
theorem AI(xs:List Int)(q:Nat): (xw xs q).length=xs.length:=by
 unfold xw;cases(cell xs (q/12%12) (q/144) != -1)&&(cell xs (q/144) (q%12) != -1)<;>simp[gY]
theorem zb(ls:Ll)(k:Nat): fwN ls (k+1)=xw (fwN ls k) k:=by
 unfold fwN;rw[List.range_succ,List.foldl_append];rfl
theorem pI(ls:Ll): ∀k,(fwN ls k).length=144
 | 0=>oD ls
 | k+1=>by rw[zb,AI,pI ls k]
inductive Walk (ls:Ll):Nat->Nat->Int->Prop
 | nil (a:Nat):Walk ls a a 0
 | snoc {a:Nat} {n:Int} (l:Line):l∈ls->Walk ls a (br l).toNat n->Walk ls a (lTo l).toNat (n+aY l)
inductive Wk (ls:Ll) (k:Nat):Nat->Nat->Int->Prop
 | refl (a:Nat):Wk ls k a a 0
 | edge (l:Line):l∈ls->Wk ls k (br l).toNat (lTo l).toNat (aY l)
 | via {a b c:Nat} {m n:Int}:c<k->Wk ls k a c m->Wk ls k c b n->Wk ls k a b (m+n)
theorem Walk.trans {ls:Ll} {a b c:Nat} {m n:Int} (h:Walk ls a b m) (g:Walk ls b c n):Walk ls a c (m+n):=by
 induction g with
 | nil=>simpa using h
 | snoc l hl _ ih=>rw[<- Int.add_assoc];exact .snoc l hl ih
theorem Wk.nonneg {N:Nat} {ls:Ll} (ok:cB N ls) {k a b:Nat} {n:Int} (h:Wk ls k a b n):0<=n:=by
 induction h with
 | refl=>exact Int.le_refl _
 | edge l hl=>have:=(ok.at_ l hl).2.2.2.2.2.1;omega
 | via _ _ _ h1 h2=>omega
theorem Wk.split {N:Nat} {ls:Ll} (ok:cB N ls) {k a b:Nat} {n:Int} (h:Wk ls (k+1) a b n):
  (∃m,m<=n/\Wk ls k a b m)\/∃m1 m2,m1+m2<=n/\Wk ls k a k m1/\Wk ls k k b m2:=by
 induction h with
 | refl a=>exact .inl ⟨0,Int.le_refl _,.refl a⟩
 | edge l hl=>exact .inl ⟨_,Int.le_refl _,.edge l hl⟩
 | @via a b c m n hc _ _ h1 h2=>
  by_cases e:c=k
  .subst e
   right
   have l1:∃m1,m1<=m/\Wk ls c a c m1:=by
    rcases h1 with⟨x,hx,g⟩ | ⟨x,y,hx,g,g'⟩
    .exact⟨x,hx,g⟩
    .have:=g'.nonneg ok;exact⟨x,by omega,g⟩
   have l2:∃m2,m2<=n/\Wk ls c c b m2:=by
    rcases h2 with⟨x,hx,g⟩ | ⟨x,y,hx,g,g'⟩
    .exact⟨x,hx,g⟩
    .have:=g.nonneg ok;exact⟨y,by omega,g'⟩
   obtain⟨x,hx,g⟩:=l1;obtain⟨y,hy,g'⟩:=l2;exact⟨x,y,by omega,g,g'⟩
  .have hc:c<k:=by omega
   rcases h1 with⟨x,hx,g⟩ | ⟨x,y,hx,g,g'⟩<;>rcases h2 with⟨u,hu,q⟩ | ⟨u,v,hu,q,q'⟩
   .exact .inl ⟨x+u,by omega,.via hc g q⟩
   .exact .inr ⟨x+u,v,by omega,.via hc g q,q'⟩
   .exact .inr ⟨x,y+u,by omega,g,.via hc g' q⟩
   .have:=g'.nonneg ok;have:=q.nonneg ok;exact .inr ⟨x,v,by omega,g,q'⟩
structure Za (ls:Ll) (xs:List Int):Prop where
 len:xs.length=144
 diag:∀a,a<12->cell xs a a=0
 walk:∀a b,a<12->b<12->cell xs a b=-1\/(0<=cell xs a b/\Walk ls a b (cell xs a b))
def Below(xs:List Int)(a b:Nat)(n:Int): Prop:=cell xs a b≠-1/\cell xs a b<=n
def aB8(ls:Ll)(k:Nat)(xs:List Int): Prop:=∀a b n,a<12->b<12->Wk ls k a b n->Below xs a b n
theorem lL{xs:List Int}(hl:xs.length=144){a b c d:Nat}(ha:a<12)(hb:b<12)(hd:d<12){len n:Int}(hlen:len≠-1)(h:Below xs c d n): Below (dX xs a b len) c d n:=by
 unfold Below at h ⊢;rw[dH hl ha hb hd];split
 .rename_i g;obtain⟨rfl,rfl,g⟩:=g;exact⟨hlen,by omega⟩
 .exact h
theorem Bg{xs:List Int}(hl:xs.length=144){a b:Nat}(ha:a<12)(hb:b<12){len:Int}(hlen:len≠-1): Below (dX xs a b len) a b len:=by
 unfold Below;rw[dH hl ha hb hb];split
 .exact⟨hlen,Int.le_refl _⟩
 .rename_i g;simp only[true_and,not_or]at g;exact⟨g.1,by omega⟩
theorem sU{ls:Ll}{xs:List Int}(h:Za ls xs){a b:Nat}(ha:a<12)(hb:b<12){len:Int}(h0:0<=len)(hw:Walk ls a b len): Za ls (dX xs a b len):=by
 refine⟨by rw[gY];exact h.len,λc hc=>?_,λc d hc hd=>?_⟩
 .rw[dH h.len ha hb hc];split
  .rename_i g;obtain⟨rfl,rfl,g⟩:=g;have:=h.diag c hc;omega
  .exact h.diag c hc
 .rw[dH h.len ha hb hd];split
  .rename_i g;obtain⟨rfl,rfl,g⟩:=g;exact .inr ⟨h0,hw⟩
  .exact h.walk c d hc hd
theorem mI{a b:Nat}(ha:a<12)(hb:b<12): cell FK a b=if a=b then 0 else -1:=by
 unfold cell FK;rw[List.getD_eq_getElem?_getD,List.getElem?_map,List.getElem?_range (by omega)]
 simp only[Option.map_some,Option.getD_some];rw[show(a*12+b)/12=a by omega,show(a*12+b)%12=b by omega]
theorem Ju(ls:Ll): Za ls FK:=by
 refine⟨rfl,λa ha=>by rw[mI ha ha,if_pos rfl],λa b ha hb=>?_⟩
 rw[mI ha hb];split
 .rename_i e;subst e;exact .inr ⟨Int.le_refl _,.nil a⟩
 .exact .inl rfl
theorem toNat_lt{N:Nat}{x:Int}(h0:0<=x)(h1:x<N)(hN:N<=12): x.toNat<12:=by omega
theorem tJ{N:Nat}{ls:Ll}(ok:cB N ls): ∀(rs:Ll) (xs:List Int),(∀l∈rs,l∈ls)->Za ls xs->(∀a b,a<12->b<12->cell xs a b<=5000)->
  Za ls (rs.foldl (λxs l=>dX xs (br l) (lTo l) (aY l)) xs)/\
  (∀a b n,a<12->b<12->Below xs a b n->Below (rs.foldl (λxs l=>dX xs (br l) (lTo l) (aY l)) xs) a b n)/\
  (∀l∈rs,Below (rs.foldl (λxs l=>dX xs (br l) (lTo l) (aY l)) xs) (br l).toNat (lTo l).toNat (aY l))/\
  (∀a b,a<12->b<12->cell (rs.foldl (λxs l=>dX xs (br l) (lTo l) (aY l)) xs) a b<=5000)
 | [],xs,_,h,hb=>⟨h,λ_ _ _ _ _ h=>h,(λl hl=>by cases hl),hb⟩
 | l::rs,xs,hrs,h,hb=>by
  have hl:=hrs l (by simp)
  obtain⟨o1,o2,o3,o4,o5,o6,o7⟩:=ok.at_ l hl;have ha:=toNat_lt o1 o2 ok.n12;have hb':=toNat_lt o3 o4 ok.n12;have e:dX xs (br l) (lTo l) (aY l)=dX xs ((br l).toNat:Nat) ((lTo l).toNat:Nat) (aY l):=by
   rw[Int.toNat_of_nonneg o1,Int.toNat_of_nonneg o3]
  have hw:Walk ls (br l).toNat (lTo l).toNat (aY l):=by
   have:=Walk.snoc l hl (.nil (br l).toNat)
   rwa [Int.zero_add]at this
  obtain⟨g1,g2,g3,g4⟩:=tJ ok rs (dX xs (br l) (lTo l) (aY l)) (λx hx=>hrs x (by simp[hx])) (by rw[e];exact sU h ha hb' (by omega) hw) (λa b h1 h2=>by
   rw[e,dH h.len ha hb' h2];split
   .exact o7
   .exact hb a b h1 h2)
  rw[List.foldl_cons];refine⟨g1,λa b n h1 h2 hB=>g2 a b n h1 h2 (by rw[e];exact lL h.len ha hb' h2 (by omega) hB),λx hx=>?_,g4⟩
  rcases List.mem_cons.1 hx with rfl | hx
  .exact g2 _ _ _ ha hb' (by rw[e];exact Bg h.len ha hb' (by omega))
  .exact g3 x hx
theorem Fo{N:Nat}{ls:Ll}(ok:cB N ls): Za ls (oG ls)/\aB8 ls 0 (oG ls)/\∀a b,a<12->b<12->cell (oG ls) a b<=5000:=by
 obtain⟨g1,g2,g3,g4⟩:=tJ ok ls FK (λ_ h=>h) (Ju ls) (λa b h1 h2=>by rw[mI h1 h2];split<;>omega)
 refine⟨g1,λa b n ha hb hw=>?_,g4⟩
 cases hw with
 | refl=>refine g2 a a 0 ha ha ?_;unfold Below;rw[mI ha ha,if_pos rfl];omega
 | edge l hl=>exact g3 l hl
 | via hc=>omega
structure Mid (ls:Ll) (o i:Nat) (xs:List Int):Prop where
 sane:Za ls xs
 compl:aB8 ls o xs
 done:∀a b m n,a<12->b<12->a*12+b<i->Wk ls o a o m->Wk ls o o b n->Below xs a b (m+n)
 edge:∀a,a<12->cell xs a o<=5000*2 ^ o/\cell xs o a<=5000*2 ^ o
 all:∀a b,a<12->b<12->cell xs a b<=2*(5000*2 ^ o)
theorem Mid.step {N:Nat} {ls:Ll} (ok:cB N ls) {o i:Nat} (ho:o<12) (hi:i<144) {xs:List Int} (h:Mid ls o i xs):Mid ls o (i+1) (xw xs (o*144+i)):=by
 have e1:(o*144+i)/12%12=i/12:=by omega
 have e2:(o*144+i)/144=o:=by omega
 have e3:(o*144+i)%12=i%12:=by omega
 have ha:i/12<12:=by omega
 have hb:i%12<12:=by omega
 unfold xw;rw[e1,e2,e3];cases hc:(cell xs (i/12) o != -1)&&(cell xs o (i%12) != -1)with
 | false=>
  rw[cond_false];refine⟨h.sane,h.compl,λa b m n h1 h2 h3 w1 w2=>?_,h.edge,h.all⟩
  by_cases e:a*12+b<i
  .exact h.done a b m n h1 h2 e w1 w2
  .have ea:a=i/12:=by omega
   have eb:b=i%12:=by omega
   have g1:=h.compl a o m h1 ho w1;have g2:=h.compl o b n ho h2 w2;rw[<- ea,<- eb]at hc;simp only[Bool.and_eq_false_iff,bne_eq_false_iff_eq]at hc;rcases hc with hc | hc
   .exact(g1.1 hc).elim
   .exact(g2.1 hc).elim
 | true=>
  rw[cond_true];simp only[Bool.and_eq_true,bne_iff_ne,ne_eq]at hc;obtain⟨c1,c2⟩:=hc;obtain⟨p1,p2⟩:=(h.sane.walk _ _ ha ho).resolve_left c1;obtain⟨p3,p4⟩:=(h.sane.walk _ _ ho hb).resolve_left c2;have hne:cell xs (i/12) o+cell xs o (i%12)≠-1:=by omega
  refine⟨sU h.sane ha hb (by omega) (p2.trans p4),λa b n h1 h2 w=>lL h.sane.len ha hb h2 hne (h.compl a b n h1 h2 w),λa b m n h1 h2 h3 w1 w2=>?_,λa h1=>?_,λa b h1 h2=>?_⟩
  .by_cases e:a*12+b<i
   .exact lL h.sane.len ha hb h2 hne (h.done a b m n h1 h2 e w1 w2)
   .have ea:a=i/12:=by omega
    have eb:b=i%12:=by omega
    have g1:=(h.compl a o m h1 ho w1).2;have g2:=(h.compl o b n ho h2 w2).2;rw[<- ea,<- eb]at hne ⊢;have g3:=Bg (a:=a) (b:=b) h.sane.len h1 h2 hne;exact⟨g3.1,by have:=g3.2;omega⟩
  .have hd:=h.sane.diag o ho;have q:=h.edge a h1;constructor
   .rw[dH h.sane.len ha hb ho];split
    .rename_i g;obtain⟨rfl,g5,g6⟩:=g;rw[<- g5,hd]at g6;have:=q.1;omega
    .exact q.1
   .rw[dH h.sane.len ha hb h1];split
    .rename_i g;obtain⟨g5,rfl,g6⟩:=g;rw[<- g5,hd]at g6;have:=q.2;omega
    .exact q.2
  .rw[dH h.sane.len ha hb h2];split
   .have q1:=(h.edge (i/12) ha).1;have q2:=(h.edge (i%12) hb).2;omega
   .exact h.all a b h1 h2
theorem Mid.next {N:Nat} {ls:Ll} (ok:cB N ls) {o:Nat} (ho:o+1<12) {xs:List Int} (h:Mid ls o 144 xs):Mid ls (o+1) 0 xs:=by
 have e:5000*2 ^ (o+1)=2*(5000*2 ^ o:Int):=by rw[Int.pow_succ];omega
 refine⟨h.sane,λa b n h1 h2 w=>?_,λa b m n h1 h2 h3=>by omega,λa h1=>by rw[e];exact⟨h.all a (o+1) h1 ho,h.all (o+1) a ho h1⟩,λa b h1 h2=>?_⟩
 .rcases w.split ok with⟨m,hm,g⟩ | ⟨m1,m2,hm,g1,g2⟩
  .have:=h.compl a b m h1 h2 g;exact⟨this.1,by have:=this.2;omega⟩
  .have:=h.done a b m1 m2 h1 h2 (by omega) g1 g2;exact⟨this.1,by have:=this.2;omega⟩
 .have:=h.all a b h1 h2;have h0:(0:Int)<=5000*2 ^ o:=Int.mul_nonneg (by decide) (Int.le_of_lt (Int.pow_pos (by decide)))
  rw[e];omega
theorem YC{N:Nat}{ls:Ll}(ok:cB N ls): ∀(o:Nat),o<12->∀i,i<=144->Mid ls o i (fwN ls (o*144+i)):=by
 intro o;have row:∀o,o<12->Mid ls o 0 (fwN ls (o*144))->∀i,i<=144->Mid ls o i (fwN ls (o*144+i)):=by
  intro o ho h i;induction i with
  | zero=>intro _;exact h
  | succ i ih=>
   intro hi;rw[<- Nat.add_assoc,zb];exact(ih (by omega)).step ok ho (by omega)
 induction o with
 | zero=>
  intro _;refine row 0 (by decide) ?_
  obtain⟨g1,g2,g3⟩:=Fo ok;refine⟨g1,g2,λa b m n h1 h2 h3=>by omega,λa h1=>⟨?_,?_⟩,λa b h1 h2=>?_⟩
  .have:=g3 a 0 h1 (by decide)
   show cell (oG ls) a 0<=5000*2 ^ 0;omega
  .have:=g3 0 a (by decide) h1
   show cell (oG ls) 0 a<=5000*2 ^ 0;omega
  .have:=g3 a b h1 h2;simp only[Int.pow_zero,Int.mul_one];show cell (oG ls) a b<=_;omega
 | succ o ih=>
  intro ho;refine row (o+1) ho ?_;have:=(ih (by omega) 144 (Nat.le_refl _)).next ok ho
  rw[show o*144+144=(o+1)*144 by omega]at this
  exact this
theorem Cb{N:Nat}{ls:Ll}(ok:cB N ls){k:Nat}(hk:k<=1728){a b:Nat}(ha:a<12)(hb:b<12): -1<=cell (fwN ls k) a b/\cell (fwN ls k) a b<=20480000:=by
 have h:∃o i,o<12/\i<=144/\k=o*144+i:=by
  by_cases e:k=1728
  .exact⟨11,144,by decide,by decide,by omega⟩
  .exact⟨k/144,k%144,by omega,by omega,by omega⟩
 obtain⟨o,i,ho,hi,rfl⟩:=h;have m:=YC ok o ho i hi;have h1:=m.all a b ha hb;have h2:=m.sane.walk a b ha hb;have h3:(2:Int) ^ o<=2 ^ 11:=by
  have:(2:Nat) ^ o<=2 ^ 11:=Nat.pow_le_pow_right (by decide) (by omega)
  exact_mod_cast this
 have h4:(2:Int) ^ 11=2048:=by decide
 constructor
 .rcases h2 with h2 | h2<;>omega
 .omega
structure mo (ls:Ll) (a:Nat) (d:Nat->Int):Prop where
 self:d a=0
 low:∀b,b<12->-1<=d b
 line:∀l∈ls,0<=d (br l).toNat->0<=d (lTo l).toNat/\d (lTo l).toNat<=d (br l).toNat+aY l
 last:∀b,b<12->b≠a->0<=d b->∃l∈ls,(lTo l).toNat=b/\0<=d (br l).toNat/\d b=d (br l).toNat+aY l
theorem mo.walk {N:Nat} {ls:Ll} (ok:cB N ls) {a:Nat} {d:Nat->Int} (h:mo ls a d) {b:Nat} {n:Int} (w:Walk ls a b n):0<=d b/\d b<=n:=by
 induction w with
 | nil=>rw[h.self];exact⟨Int.le_refl _,Int.le_refl _⟩
 | snoc l hl _ ih=>have:=h.line l hl ih.1;have:=ih.2;omega
theorem Walk.wk {N:Nat} {ls:Ll} (ok:cB N ls) {a b:Nat} {n:Int} (w:Walk ls a b n):Wk ls 12 a b n:=by
 induction w with
 | nil=>exact .refl _
 | snoc l hl _ ih=>
  have o:=ok.at_ l hl;exact .via (toNat_lt o.1 o.2.1 ok.n12) ih (.edge l hl)
theorem mo.toWalk {N:Nat} {ls:Ll} (ok:cB N ls) {a:Nat} {d:Nat->Int} (h:mo ls a d):∀(k b:Nat),b<12->0<=d b->(d b).toNat<=k->Walk ls a b (d b):=by
 intro k;induction k with
 | zero=>
  intro b hb h0 hk;by_cases e:b=a
  .subst e;rw[h.self];exact .nil b
  .obtain⟨l,hl,e1,e2,e3⟩:=h.last b hb e h0;have:=(ok.at_ l hl).2.2.2.2.2.1;omega
 | succ k ih=>
  intro b hb h0 hk;by_cases e:b=a
  .subst e;rw[h.self];exact .nil b
  .obtain⟨l,hl,e1,e2,e3⟩:=h.last b hb e h0;have o:=ok.at_ l hl;have:=o.2.2.2.2.2.1;have w:=ih _ (toNat_lt o.1 o.2.1 ok.n12) e2 (by omega)
   have:=Walk.snoc l hl w;rw[e1,<- e3]at this;exact this
theorem mo.unique {N:Nat} {ls:Ll} (ok:cB N ls) {a:Nat} {d e:Nat->Int} (h:mo ls a d) (g:mo ls a e) {b:Nat} (hb:b<12):d b=e b:=by
 have h1:=h.low b hb;have h2:=g.low b hb;by_cases p:0<=d b
 .have:=g.walk ok (h.toWalk ok _ b hb p (Nat.le_refl _));have:=h.walk ok (g.toWalk ok _ b hb this.1 (Nat.le_refl _));omega
 .by_cases q:0<=e b
  .have:=h.walk ok (g.toWalk ok _ b hb q (Nat.le_refl _));omega
  .omega
def at1(row:List Int)(b:Nat): Int:=row.getD b 0
def gV(row:List Int)(l:Line): List Int:=
 bif decide (0<=at1 row (br l).toNat)&&(decide (at1 row (lTo l).toNat<0)||decide (at1 row (lTo l).toNat>at1 row (br l).toNat+aY l))then row.set (lTo l).toNat (at1 row (br l).toNat+aY l)else row
def oZ(m:Nat)(a:Nat): List Int:=(List.range m).map λb=>if b=a then 0 else -1
def Af(ls:Ll)(row:List Int): List Int:=ls.foldl gV row
def bfN(ls:Ll)(m a r:Nat): List Int:=(List.range r).foldl (λrow _=>Af ls row) (oZ m a)
theorem Y2{row:List Int}{i b:Nat}{x:Int}(hi:i<row.length): at1 (row.set i x) b=if b=i then x else at1 row b:=by
 unfold at1;rw[List.getD_eq_getElem?_getD,List.getElem?_set,List.getD_eq_getElem?_getD];by_cases h:i=b
 .subst h;simp[hi]
 .rw[if_neg h,if_neg (λe=>h e.symm)]
theorem kB(row:List Int)(l:Line): (gV row l).length=row.length:=by
 unfold gV;cases(decide (0<=at1 row (br l).toNat)&&(decide (at1 row (lTo l).toNat<0)||decide (at1 row (lTo l).toNat>at1 row (br l).toNat+aY l)))<;>simp
theorem oY{row:List Int}{l:Line}(ht:(lTo l).toNat<row.length)(b:Nat): at1 (gV row l) b =
  if b=(lTo l).toNat/\0<=at1 row (br l).toNat/\(at1 row (lTo l).toNat<0\/at1 row (lTo l).toNat>at1 row (br l).toNat+aY l)then at1 row (br l).toNat+aY l else at1 row b:=by
 unfold gV;by_cases h:0<=at1 row (br l).toNat/\(at1 row (lTo l).toNat<0\/at1 row (lTo l).toNat>at1 row (br l).toNat+aY l)
 .have e:(decide (0<=at1 row (br l).toNat)&&(decide (at1 row (lTo l).toNat<0)||decide (at1 row (lTo l).toNat>at1 row (br l).toNat+aY l)))=true:=by simpa using h
  rw[e,cond_true,Y2 ht];by_cases hb:b=(lTo l).toNat
  .rw[if_pos hb,if_pos ⟨hb,h⟩]
  .rw[if_neg hb,if_neg λg=>hb g.1]
 .have e:(decide (0<=at1 row (br l).toNat)&&(decide (at1 row (lTo l).toNat<0)||decide (at1 row (lTo l).toNat>at1 row (br l).toNat+aY l)))=false:=by
   rw[Bool.eq_false_iff];simpa using h
  rw[e,cond_false,if_neg λg=>h g.2]
def Abv(m:Nat)(d:Nat->Int)(row:List Int): Prop:=row.length=m/\∀b,b<m->at1 row b=-1\/(0<=d b/\d b<=at1 row b)
def US(d:Nat->Int)(row:List Int)(b:Nat): Prop:=0<=d b/\at1 row b=d b
section
variable {m:Nat} {ls:Ll} {a:Nat} {d:Nat->Int}
theorem J3(ok:cB m ls)(h:mo ls a d){row:List Int}(hr:Abv m d row){l:Line}(hl:l∈ls): Abv m d (gV row l):=by
 have o:=ok.at_ l hl;refine⟨by rw[kB];exact hr.1,λb hb=>?_⟩
 rw[oY (by rw[hr.1];omega)]
 split
 .rename_i g;obtain⟨rfl,g1,g2⟩:=g;rcases hr.2 (br l).toNat (by omega)with q | q
  .omega
  .have:=h.line l hl q.1
   right
   omega
 .exact hr.2 b hb
theorem xe(ok:cB m ls)(h:mo ls a d){row:List Int}(hr:Abv m d row){l:Line}(hl:l∈ls){b:Nat}(hb:b<m)(hs:US d row b): US d (gV row l) b:=by
 have o:=ok.at_ l hl;refine⟨hs.1,?_⟩;rw[oY (by rw[hr.1];omega)]
 split
 .rename_i g;obtain⟨rfl,g1,g2⟩:=g;rcases hr.2 (br l).toNat (by omega)with q | q
  .omega
  .have:=h.line l hl q.1;have:=hs.1;have:=hs.2;omega
 .exact hs.2
theorem J1(ok:cB m ls){row:List Int}(hr:Abv m d row){l:Line}(hl:l∈ls)(hs:US d row (br l).toNat)(h0:0<=d (lTo l).toNat)(he:d (lTo l).toNat=d (br l).toNat+aY l): US d (gV row l) (lTo l).toNat:=by
 have o:=ok.at_ l hl;refine⟨h0,?_⟩;have e1:=hs.2;have e2:=hs.1;rw[oY (by rw[hr.1];omega)]
 split
 .omega
 .rename_i g;have g':¬(0<=at1 row (br l).toNat/\(at1 row (lTo l).toNat<0\/at1 row (lTo l).toNat>at1 row (br l).toNat+aY l)):=λq=>g ⟨rfl,q⟩
  rcases hr.2 (lTo l).toNat (by omega)with q | q<;>omega
theorem VK(ok:cB m ls)(h:mo ls a d): ∀(rs:Ll) (row:List Int),(∀l∈rs,l∈ls)->Abv m d row->Abv m d (rs.foldl gV row)/\(∀b,b<m->US d row b->US d (rs.foldl gV row) b)/\
  ∀l∈rs,US d row (br l).toNat->0<=d (lTo l).toNat->d (lTo l).toNat=d (br l).toNat+aY l->US d (rs.foldl gV row) (lTo l).toNat
 | [],row,_,hr=>⟨hr,λ_ _ h=>h,(λl hl=>by cases hl)⟩
 | x::rs,row,hrs,hr=>by
  have hx:=hrs x (by simp)
  have ox:=ok.at_ x hx;obtain⟨g1,g2,g3⟩:=VK ok h rs (gV row x) (λl hl=>hrs l (by simp[hl])) (J3 ok h hr hx)
  rw[List.foldl_cons];refine⟨g1,λb hb hs=>g2 b hb (xe ok h hr hx hb hs),λl hl hs h0 he=>?_⟩
  have o:=ok.at_ l (hrs l hl);rcases List.mem_cons.1 hl with rfl | hl
  .exact g2 _ (by omega) (J1 ok hr hx hs h0 he)
  .exact g3 l hl (xe ok h hr hx (by omega) hs) h0 he
def rank(m:Nat)(d:Nat->Int)(b:Nat): Nat:=((List.range m).filter λx=>decide (0<=d x/\d x<d b)).length
theorem filter_lt{α:Type}{p q:α->Bool}: ∀{l:List α} {x:α},(∀y,p y=true->q y=true)->x∈l->p x=false->q x=true->(l.filter p).length<(l.filter q).length
 | [],_,_,h,_,_=>by cases h
 | y::l,x,hpq,hx,hp,hq=>by
  have le:∀l:List α,(l.filter p).length<=(l.filter q).length:=by
   intro l;induction l with
   | nil=>exact Nat.le_refl _
   | cons z l ih=>
    simp only[List.filter_cons];cases h1:p z with
    | true=>rw[hpq z h1];simpa using ih
    | false=>cases q z<;>simp<;>omega
  rcases List.mem_cons.1 hx with rfl | hx
  .simp only[List.filter_cons,hp,hq,Bool.false_eq_true,if_false,if_true,List.length_cons];have:=le l;omega
  .have ih:=filter_lt hpq hx hp hq;simp only[List.filter_cons];cases h1:p y with
   | true=>rw[hpq y h1];simpa using ih
   | false=>cases q y<;>simp<;>omega
theorem Nc{b c:Nat}(hc:c<m)(h0:0<=d c)(h1:d c<d b): rank m d c<rank m d b:=by
 refine filter_lt (x:=c) (λy hy=>?_) (List.mem_range.2 hc) ?_ ?_
 .have:=of_decide_eq_true hy;exact decide_eq_true (by omega)
 .exact decide_eq_false (by omega)
 .exact decide_eq_true (by omega)
theorem C5{x:Nat}(hx:x<m): at1 (oZ m a) x=if x=a then 0 else -1:=by
 unfold at1 oZ;rw[List.getD_eq_getElem?_getD,List.getElem?_map,List.getElem?_range hx];rfl
theorem Ag(ls:Ll)(m a r:Nat): bfN ls m a (r+1)=Af ls (bfN ls m a r):=by
 unfold bfN;rw[List.range_succ,List.foldl_append];rfl
theorem UJ(ok:cB m ls)(h:mo ls a d)(ha:a<m): ∀r,Abv m d (bfN ls m a r)/\∀b,b<m->0<=d b->rank m d b<=r->US d (bfN ls m a r) b
 | 0=>by
  have e:bfN ls m a 0=oZ m a:=rfl;rw[e];refine⟨⟨by simp[oZ],λb hb=>?_⟩,λb hb h0 hr=>?_⟩
  .rw[C5 hb];split
   .rename_i e;subst e;right;rw[h.self];omega
   .exact .inl rfl
  .by_cases e:b=a
   .subst e;exact⟨h0,by rw[C5 hb,if_pos rfl,h.self]⟩
   .obtain⟨l,hl,e1,e2,e3⟩:=h.last b (Nat.lt_of_lt_of_le hb ok.n12) e h0;have:=(ok.at_ l hl).2.2.2.2.2.1;have:=Nc (m:=m) (d:=d) (b:=b) (c:=a) ha (by rw[h.self];omega) (by rw[h.self];omega)
    omega
 | r+1=>by
  obtain⟨g1,g2⟩:=UJ ok h ha r;obtain⟨f1,f2,f3⟩:=VK ok h ls (bfN ls m a r) (λ_ h=>h) g1
  rw[Ag];refine⟨f1,λb hb h0 hr=>?_⟩
  by_cases e:b=a
  .have:rank m d b<=r\/rank m d b=r+1:=by omega
   have hz:rank m d b=0:=by
    unfold rank;rw[List.length_eq_zero_iff,List.filter_eq_nil_iff];intro x _;rw[e,h.self];exact λg=>by have:=of_decide_eq_true g;omega
   exact f2 b hb (g2 b hb h0 (by omega))
  .obtain⟨l,hl,e1,e2,e3⟩:=h.last b (Nat.lt_of_lt_of_le hb ok.n12) e h0;have o:=ok.at_ l hl;have hlt:=Nc (m:=m) (d:=d) (b:=b) (c:=(br l).toNat) (by omega) e2 (by omega)
   have hs:=g2 _ (by omega) e2 (by omega)
   have:=f3 l hl hs (by rw[e1];exact h0) (by rw[e1];exact e3)
   rwa [e1]at this
end
end Go.Eng.Sv
set_option maxRecDepth 100000
noncomputable section
namespace Go.Eng.Sv
open Go.Proofs
abbrev I: Ty:=.int .i64
abbrev U: Ty:=.int .u8
abbrev B: Ty:=.sl .bool
abbrev R: Ty:=.sl I
abbrev LC: Type:=List (Int×List Bool×Li)
abbrev LB: Type:=List ByteArray
abbrev C: Ty:=.pair I (.pair B R)
abbrev S: Ty:=.str
abbrev cal(z:Int)(w:List Bool)(h:Li): AV:=.agg [.dat I z,.dat B w,.dat R h]
def kw: List ByteArray:=[⟨#[99,97,108,101,110,100,97,114]⟩,⟨#[111,112,101,114,97,116,111,114]⟩,⟨#[111,102,102,105,99,101]⟩,⟨#[108,105,110,101]⟩,⟨#[99,108,97,115,115]⟩,⟨#[122,111,110,101]⟩,⟨#[119,101,101,107]⟩,⟨#[104,111,108,105,100,97,121]⟩,⟨#[112,111,99,107,101,116,115]⟩,⟨#[112,97,115,115,101,115]⟩,⟨#[109,105,110,117,116,101,115]⟩,⟨#[99,111,100,101,115]⟩,⟨#[97,116]⟩,⟨#[116,114,97,118,101,108]⟩,⟨#[108,111,97,100]⟩,⟨#[99,117,116]⟩,⟨#[100,101,108,105,118,101,114]⟩]
def jt(b:Int): Bool:=decide (97<=b/\b<=122)
def fk(b:Int): Bool:=decide (48<=b/\b<=57)
def dD(v a b:Int): Bool:=decide (a<=v/\v<=b)
def nameB(b:Int): Bool:=jt b||fk b||decide (b=95)
def uq(b:Int): Bool:=fk b||decide (65<=b/\b<=90)
def isKey(s:ByteArray): Bool:=kw.any λw=>w.toList==s.toList
def cj(s:ByteArray): Bool:=decide (1<=s.size/\s.size<=16)&&jt ((s.data.getD 0 0).toNat:Int)&&(s.data.toList.all λb=>nameB (b.toNat:Int))&&!isKey s
def dd(s:ByteArray): Bool:=decide (1<=s.size/\s.size<=8)&&s.data.toList.all λb=>uq (b.toNat:Int)
def oq(s:ByteArray)(k:Int): Prop:=0<=k/\k<=s.size/\(s.data.toList.take k.toNat).all (λb=>nameB (b.toNat:Int))=true
def oQ(s:ByteArray)(k:Int): Prop:=0<=k/\k<=s.size/\(s.data.toList.take k.toNat).all (λb=>uq (b.toNat:Int))=true
def pG(s:ByteArray)(k:Int): Prop:=0<=k/\k<=17/\(kw.take k.toNat).any (λw=>w.toList==s.toList)=false
def ax(z:Int)(w:List Bool)(h:Li): Bool:=decide (-720<=z/\z<=840/\w.length=7/\h.length<=40)&&(List.range (h.length-1)).all λi=>decide (h.getD i 0<h.getD (i+1) 0)
def gR(w:List Bool)(h:Li): Bool:=decide (w.length<=20)&&decide (h.length<=60)
def rD(h:Li)(k:Int): Prop:=1<=k/\(k<=h.length\/k=1)/\h.length<=40/\∀i:Nat,(i:Int)+1<k->h.getD i 0<h.getD (i+1) 0
def iU(k:Int): Int:=if k=3 then 12 else if k=4 then 40 else if k=5 then 4 else 6
def K0: Kt:=λf args m=>none
def G0: List (Nat×AV):=[(0,.ia S kw)]
def KI0: FuncId->List AV->Option ja:=λ_ _=>none
noncomputable def mkc(K:Kt): Cfg:=⟨Tryz.prog,G0,K,λ_=>false,KI0,false,λ_ _ _=>none,λ_=>false⟩
def GK(h:Li): Ann:=⟨λid s=>match id with
 | 4=>some {α:=Int,inv:=λk=>rD h k,st:=λk=>put s [(3,.dat I k)],μ:=λk=>Dc (Dh (Df h) k)}
 | _=>none,λ_ _=>none,λ_ _=>none⟩
theorem xm(z:Int)(w:List Bool)(h:Li)(hvc:
 let c1:=Dp z (-720);let c2:=Di c1;let c3:=Eb c1 true (Ei z 840);let c4:=Di c3;let c5:=Eb c3 true (Ea (Df w) 7);let c6:=Di c5;let c7:=Eb c5 true (Ei (Df h) 40);let c8:=(z,w,h);true/\(True->(c2->c2->c2)/\(c2->c2->c2)/\(Dk true c2->c2)/\(c4->c4->c4)/\(c4->c4->c4)/\(c4->c4->c4)/\(Dk true c4->c4)/\(c6->c6->c6)/\(c6->c6->c6)/\(c6->c6->c6)/\(Dk true c6->c6)/\(c7->false=ax z w h/\True)/\(c7=false->(∃x,rD h x/\c8=c8/\1=x/\True)/\∀(x:Int),let c9:=Dp x (Df h);let c10:=x-1;let c11:=Eh (Du h (Dc x) 0) (Du h (Dc c10) 0);let c12:=x+1;rD h x->(c9->0<=x/\x<Df h/\inR .i64 c10/\0<=c10/\c10<Df h/\(c11->false=ax z w h/\True)/\(c11=false->inR .i64 c12/\∃y,rD h y/\(c8=c8/\c12=y/\True)/\Dc (Df h-y)<Dc (Df h-x)))/\(c9=false->true=ax z w h/\True)))):
  evF (mkc K0) (lvA [(4,[1,2,3])] (GK h)) 161 [cal z w h] [] ⟨True,.dat .bool (ax z w h),[]⟩:=oE hvc
theorem KE(z:Int)(w:List Bool)(h:Li)(hvc:
 let c1:=Dp z (-720);let c2:=Di c1;let c3:=Eb c1 true (Ei z 840);let c4:=Di c3;let c13:=c4->c4->c4;let c5:=Eb c3 true (Ea (Df w) 7);let c6:=Di c5;let c14:=c6->c6->c6;let c7:=Eb c5 true (Ei (Df h) 40);let c8:=(z,w,h);true/\(True->(c2->c2->c2)/\(c2->c2->c2)/\(Dk true c2->c2)/\c13/\c13/\c13/\(Dk true c4->c4)/\c14/\c14/\c14/\(Dk true c6->c6)/\(c7->false=ax z w h/\True)/\(c7=false->(∃x,rD h x/\c8=c8/\1=x/\True)/\∀(x:Int),let c9:=Dp x (Df h);let c10:=x-1;let c11:=Ed (Du h (Dc c10) 0) (Du h (Dc x) 0);let c12:=x+1;rD h x->(c9->inR .i64 c10/\0<=c10/\c10<Df h/\0<=x/\x<Df h/\(c11->false=ax z w h/\True)/\(c11=false->inR .i64 c12/\∃y,rD h y/\(c8=c8/\c12=y/\True)/\Dc (Df h-y)<Dc (Df h-x)))/\(c9=false->true=ax z w h/\True)))):
  evF (mkc K0) (lvA [(4,[1,2,3])] (GK h)) 118 [cal z w h] [] ⟨True,.dat .bool (ax z w h),[]⟩:=oE hvc
theorem Qp(z:Int)(w:List Bool)(h:Li)(hvc:
 let c1:=Eh (Df w) 20;let c2:=c1->c1->c1;true/\(True->c2/\c2/\c2/\(Dk true c1->c1)/\Eb c1 (Eh (Df h) 60) false=gR w h/\True)):
  evF (mkc K0) aA 167 [cal z w h] [] ⟨True,.dat .bool (gR w h),[]⟩:=oE hvc
theorem Iy(b:Int)(hvc:
 let c1:=Ed b 97;true/\(True->(c1->c1->c1)/\(Dk true c1->c1)/\Eb c1 (Eh b 122) false=jt b/\True)):
  evF (mkc K0) aA 283 [.dat U b] [] ⟨True,.dat .bool (jt b),[]⟩:=oE hvc
theorem Iz(b:Int)(hvc:
 let c1:=Ed b 48;true/\(True->(c1->c1->c1)/\(Dk true c1->c1)/\Eb c1 (Eh b 57) false=fk b/\True)):
  evF (mkc K0) aA 284 [.dat U b] [] ⟨True,.dat .bool (fk b),[]⟩:=oE hvc
theorem Q8(b:Int)(hvc:
 let c1:=Ed b 48;true/\(True->(c1->c1->c1)/\(Dk true c1->c1)/\Eb c1 (Eh b 57) false=fk b/\True)):
  evF (mkc K0) aA 297 [.dat U b] [] ⟨True,.dat .bool (fk b),[]⟩:=oE hvc
theorem KR(v a b:Int)(hvc:
 let c1:=Ed v a->Ed v a->Ed v a;true/\(True->c1/\c1/\(Dk true (Ed v a)->Ed v a)/\Eb (Ed v a) (Eh v b) false=dD v a b/\True)):
  evF (mkc K0) aA 248 [.dat I v,.dat I a,.dat I b] [] ⟨True,.dat .bool (dD v a b),[]⟩:=oE hvc
theorem IH(v a b:Int)(hvc:
 let c1:=Ed v a->Ed v a->Ed v a;true/\(True->c1/\c1/\(Dk true (Ed v a)->Ed v a)/\Eb (Ed v a) (Eh v b) false=dD v a b/\True)):
  evF (mkc K0) aA 300 [.dat I v,.dat I a,.dat I b] [] ⟨True,.dat .bool (dD v a b),[]⟩:=oE hvc
theorem QN(k:Int)(hvc:
 let c1:=Dy k 3;let c2:=Dy k 4;let c3:=Dy k 5;true/\(True->(c1->12=iU k/\True)/\(c1=false->(c2->40=iU k/\True)/\(c2=false->(c3->4=iU k/\True)/\(c3=false->6=iU k/\True))))):
  evF (mkc K0) aA 226 [.dat I k] [] ⟨True,.dat I (iU k),[]⟩:=oE hvc
theorem WB(hvc:
 true/\(True->[ByteArray.mk #[(99:UInt8),(97:UInt8),(108:UInt8),(101:UInt8),(110:UInt8),(100:UInt8),(97:UInt8),(114:UInt8)],ByteArray.mk #[(111:UInt8),(112:UInt8),(101:UInt8),(114:UInt8),(97:UInt8),(116:UInt8),(111:UInt8),(114:UInt8)],ByteArray.mk #[(111:UInt8),(102:UInt8),(102:UInt8),(105:UInt8),(99:UInt8),(101:UInt8)],ByteArray.mk #[(108:UInt8),(105:UInt8),(110:UInt8),(101:UInt8)],ByteArray.mk #[(99:UInt8),(108:UInt8),(97:UInt8),(115:UInt8),(115:UInt8)],ByteArray.mk #[(122:UInt8),(111:UInt8),(110:UInt8),(101:UInt8)],ByteArray.mk #[(119:UInt8),(101:UInt8),(101:UInt8),(107:UInt8)],ByteArray.mk #[(104:UInt8),(111:UInt8),(108:UInt8),(105:UInt8),(100:UInt8),(97:UInt8),(121:UInt8)],ByteArray.mk #[(112:UInt8),(111:UInt8),(99:UInt8),(107:UInt8),(101:UInt8),(116:UInt8),(115:UInt8)],ByteArray.mk #[(112:UInt8),(97:UInt8),(115:UInt8),(115:UInt8),(101:UInt8),(115:UInt8)],ByteArray.mk #[(109:UInt8),(105:UInt8),(110:UInt8),(117:UInt8),(116:UInt8),(101:UInt8),(115:UInt8)],ByteArray.mk #[(99:UInt8),(111:UInt8),(100:UInt8),(101:UInt8),(115:UInt8)],ByteArray.mk #[(97:UInt8),(116:UInt8)],ByteArray.mk #[(116:UInt8),(114:UInt8),(97:UInt8),(118:UInt8),(101:UInt8),(108:UInt8)],ByteArray.mk #[(108:UInt8),(111:UInt8),(97:UInt8),(100:UInt8)],ByteArray.mk #[(99:UInt8),(117:UInt8),(116:UInt8)],ByteArray.mk #[(100:UInt8),(101:UInt8),(108:UInt8),(105:UInt8),(118:UInt8),(101:UInt8),(114:UInt8)]]=kw/\True)):
  evF (mkc K0) aA 303 [] [] ⟨True,.dat (.sl S) kw,[]⟩:=oE hvc
def K1: Kt:=λf args m=>match f,args,m with
 | 161,[.agg [.dat (.int .i64) z,.dat (.sl .bool) w,.dat (.sl (.int .i64)) h]],[]=>some ⟨True,.dat .bool (ax z w h),[]⟩
 | 118,[.agg [.dat (.int .i64) z,.dat (.sl .bool) w,.dat (.sl (.int .i64)) h]],[]=>some ⟨True,.dat .bool (ax z w h),[]⟩
 | 167,[.agg [.dat (.int .i64) z,.dat (.sl .bool) w,.dat (.sl (.int .i64)) h]],[]=>some ⟨True,.dat .bool (gR w h),[]⟩
 | 283,[.dat (.int .u8) b],[]=>some ⟨True,.dat .bool (jt b),[]⟩
 | 284,[.dat (.int .u8) b],[]=>some ⟨True,.dat .bool (fk b),[]⟩
 | 297,[.dat (.int .u8) b],[]=>some ⟨True,.dat .bool (fk b),[]⟩
 | 248,[.dat (.int .i64) v,.dat (.int .i64) a,.dat (.int .i64) b],[]=>some ⟨True,.dat .bool (dD v a b),[]⟩
 | 300,[.dat (.int .i64) v,.dat (.int .i64) a,.dat (.int .i64) b],[]=>some ⟨True,.dat .bool (dD v a b),[]⟩
 | 226,[.dat (.int .i64) k],[]=>some ⟨True,.dat I (iU k),[]⟩
 | 303,[],[]=>some ⟨True,.dat (.sl S) kw,[]⟩
 | _,_,_=>none
def Yw(s:ByteArray): Ann:=⟨λid st=>match id with
 | 4=>some {α:=Int,inv:=λk=>oq s k,st:=λk=>put st [(24,.dat I k)],μ:=λk=>Dc (Dh (Et s) k)}
 | 10=>some {α:=Int,inv:=λk=>pG s k,st:=λk=>put st [(42,.dat I k)],μ:=λk=>Dc (Dh 17 k)}
 | _=>none,λ_ _=>none,λ_ _=>none⟩
def Yx(s:ByteArray): Ann:=⟨λid st=>match id with
 | 4=>some {α:=Int,inv:=λk=>oQ s k,st:=λk=>put st [(16,.dat I k)],μ:=λk=>Dc (Dh (Et s) k)}
 | _=>none,λ_ _=>none,λ_ _=>none⟩
def aFo(s:ByteArray): Ann:=⟨λid st=>match id with
 | 3=>some {α:=Int,inv:=λk=>pG s k,st:=λk=>put st [(4,.dat I k)],μ:=λk=>Dc (Dh 17 k)}
 | _=>none,λ_ _=>none,λ_ _=>none⟩
theorem DU(v:Int)(hvc:
 let c1:=dD v 0 1439;true/\(True->True/\c1=c1/\True)):
  evF (mkc K1) aA 202 [.dat I v] [] ⟨True,.dat .bool (dD v 0 1439),[]⟩:=oE hvc
theorem KQ(s:ByteArray)(hvc:
 let c15:=Fp s;let c1:=Dp (Et s) 1;let c2:=Di c1;let c3:=Eb c1 true (Ei (Et s) 16);let c4:=Di c3;let c16:=c4->c4->c4;let c5:=Eb c3 true (Di (jt (Gf s 0)));true/\(True->(c2->c2->c2)/\(c2->c2->c2)/\(Dk true c2->c2)/\c16/\(c4->Dl 0 0)/\(c4->0<Et s)/\c16/\(c4->True)/\c16/\(Dk true c4->c4)/\(c5->false=cj s/\True)/\(c5=false->(∃x,oq s x/\s=s/\Fp s=Fp s/\Df c15=Df c15/\0=x/\True)/\∀(x:Int),let c6:=Dp x (Df c15);let c7:=Du c15 (Dc x) 0;let c8:=Di (jt c7);let c9:=Eb c8 (Di (fk c7)) false;let c10:=Eb c9 (Ea c7 95) false;let c11:=x+1;oq s x->(c6->0<=x/\x<Df c15/\True/\(c8->c8->c8)/\(c8->True)/\(c8->c8->c8)/\(Dk true c8->c8)/\(c9->c9->c9)/\(Dk true c9->c9)/\(c10->false=cj s/\True)/\(c10=false->inR .i64 c11/\∃y,oq s y/\(s=s/\Fp s=Fp s/\Df c15=Df c15/\c11=y/\True)/\Dc (Et s-y)<Dc (Et s-x)))/\(c6=false->Dj kw=17/\(∃x,pG s x/\s=s/\kw=kw/\0=x/\True)/\∀(x:Int),let c12:=Dp x 17;let c13:=Fv s (Du kw (Dc x) (ByteArray.mk #[]));let c14:=x+1;pG s x->(c12->0<=x/\x<Dx (17)/\Dj kw=17/\(c13->false=cj s/\True)/\(c13=false->inR .i64 c14/\∃y,pG s y/\(s=s/\kw=kw/\c14=y/\True)/\Dc (17-y)<Dc (17-x)))/\(c12=false->true=cj s/\True))))):
  evF (mkc K1) (lvA [(4,[0,2,4,6,22,23,24,41,42]),(10,[0,2,6,41,42])] (Yw s)) 236 [.dat S s] [] ⟨True,.dat .bool (cj s),[]⟩:=oE hvc
theorem KT(s:ByteArray)(hvc:
 let c10:=Fp s;let c1:=Dp (Et s) 1;let c2:=Di c1;let c3:=Eb c1 true (Ei (Et s) 8);true/\(True->(c2->c2->c2)/\(c2->c2->c2)/\(Dk true c2->c2)/\(c3->false=dd s/\True)/\(c3=false->(∃x,oQ s x/\Fp s=Fp s/\Df c10=Df c10/\0=x/\True)/\∀(x:Int),let c4:=Dp x (Df c10);let c5:=Du c10 (Dc x) 0;let c6:=Di (fk c5);let c12:=c6->c6->c6;let c7:=Dp c5 65;let c11:=Di c7;let c8:=Eb c6 (Eb c7 true (Ei c5 90)) false;let c9:=x+1;oQ s x->(c4->0<=x/\x<Df c10/\True/\c12/\c12/\(Dk c6 c11->Dk c6 c11->Dk c6 c11)/\c12/\(c6->Dk c6 c11->Dk c6 c11)/\(Dk true c6->c6)/\(c8->false=dd s/\True)/\(c8=false->inR .i64 c9/\∃y,oQ s y/\(Fp s=Fp s/\Df c10=Df c10/\c9=y/\True)/\Dc (Et s-y)<Dc (Et s-x)))/\(c4=false->true=dd s/\True)))):
  evF (mkc K1) (lvA [(4,[2,4,14,15,16])] (Yx s)) 247 [.dat S s] [] ⟨True,.dat .bool (dd s),[]⟩:=oE hvc
theorem tS(s:ByteArray)(hvc:
 true/\(True->True/\(∃x,pG s x/\s=s/\kw=kw/\0=x/\True)/\∀(x:Int),let c1:=Dp x (Df kw);let c2:=Fv (Du kw (Dc x) (ByteArray.mk #[])) s;let c3:=x+1;pG s x->(c1->0<=x/\x<Df kw/\(c2->true=isKey s/\True)/\(c2=false->inR IntKind.i64 c3/\∃y,pG s y/\(s=s/\kw=kw/\c3=y/\True)/\Dc (17-y)<Dc (17-x)))/\(c1=false->false=isKey s/\True))):
  evF (mkc K1) (lvA [(3,[0,2,3,4])] (aFo s)) 296 [.dat S s] [] ⟨True,.dat .bool (isKey s),[]⟩:=oE hvc
def K2: Kt:=λf args m=>match f,args,m with
 | 202,[.dat (.int .i64) v],[]=>some ⟨True,.dat .bool (dD v 0 1439),[]⟩
 | 236,[.dat .str s],[]=>some ⟨True,.dat .bool (cj s),[]⟩
 | 247,[.dat .str s],[]=>some ⟨True,.dat .bool (dd s),[]⟩
 | 296,[.dat .str s],[]=>some ⟨True,.dat .bool (isKey s),[]⟩
 | _,_,_=>K1 f args m
theorem ri(x y:Bool): Eb x true y=(x||y):=by cases x<;>rfl
theorem jf(x y:Bool): Eb x y false=(x&&y):=by cases x<;>rfl
theorem hm: Tryz.prog.follows .mixedOrders=true:=by kernel_rfl
theorem KS0: al Tryz.prog G0 K0:=λf args m c h=>by cases h
theorem aL: bu Tryz.prog G0 KI0:=λf args c h=>by cases h
def Px(z:Int)(w:List Bool)(h:Li): Prop:=(-720<=z/\z<=840/\w.length=7/\h.length<=40)/\∀i:Nat,i+1<h.length->h.getD i 0<h.getD (i+1) 0
theorem bM{z:Int}{w:List Bool}{h:Li}: ax z w h=true↔Px z w h:=by
 unfold ax Px;rw[qC,qE,qL];refine and_congr_right λ_=>⟨λg i hi=>?_,λg i hi=>?_⟩
 .have:=g i (qU.2 (by omega))
  simpa using this
 .have:=qU.1 hi;simpa using g i (by omega)
theorem pi{z:Int}{w:List Bool}{h:Li}(hn:¬Px z w h): false=ax z w h:=by
 cases hv:ax z w h with
 | false=>rfl
 | true=>exact(hn (bM.1 hv)).elim
theorem B5{h:Li}(hl:¬(h.length:Int)>40): rD h 1:=⟨qM _,.inr rfl,by omega,λi hi=>by omega⟩
theorem wx{h:Li}{x:Int}(hx:rD h x)(hlt:x<h.length)(hn:h.getD (x-1).toNat 0<h.getD x.toNat 0): rD h (x+1):=by
 obtain⟨g1,g2,g3,g4⟩:=hx;refine⟨by omega,by omega,g3,λi hi=>?_⟩
 by_cases e:(i:Int)+1<x
 .exact g4 i e
 .have e1:(x-1).toNat=i:=by omega
  have e2:x.toNat=i+1:=by omega
  rwa [e1,e2]at hn
theorem B6{z:Int}{w:List Bool}{h:Li}{x:Int}(hx:rD h x)(hlt:x<h.length)(hn:h.getD x.toNat 0<=h.getD (x-1).toNat 0): false=ax z w h:=by
 refine pi λhv=>?_
 have:=hx.1;have:=hv.2 (x-1).toNat (by omega)
 rw[show(x-1).toNat+1=x.toNat by omega]at this
 omega
theorem B7{z:Int}{w:List Bool}{h:Li}{x:Int}(hx:rD h x)(hge:¬x<h.length)(h1:-720<=z)(h2:z<=840)(h3:w.length=7): true=ax z w h:=
 (bM.2 ⟨⟨h1,h2,h3,by have:=hx.2.2.1;omega⟩,λi hi=>hx.2.2.2 i (by omega)⟩).symm
theorem EA(z:Int)(w:List Bool)(h:Li): af Tryz.prog G0 161 [cal z w h] [] ⟨True,.dat .bool (ax z w h),[]⟩:=by
 refine ae (c:=mkc K0) KS0 aL hm (xm z w h ⟨rfl,λ_=>?_⟩)
 simp only[qc,Dk,Di,qd,Ea,Dp,Ei,Eh,Df,Dc,Du];refine⟨λhb=>pi λhv=>?_,λ⟨⟨⟨h1,h2⟩,h3⟩,h4⟩=>⟨B5 h4,λx hx=>⟨λhlt=>?_,λhge=>B7 hx hge (by omega) (by omega) (by omega)⟩⟩⟩
 .obtain⟨⟨g1,g2,g3,g4⟩,_⟩:=hv;omega
 .have hx1:=hx.1;have hx3:=hx.2.2.1;refine⟨by omega,hlt,⟨by omega,by omega⟩,by omega,by omega,λhle=>B6 hx hlt hle,λhn=>⟨⟨by omega,by omega⟩,x+1,wx hx hlt (by omega),rfl,by omega⟩⟩
theorem Sz(z:Int)(w:List Bool)(h:Li): af Tryz.prog G0 118 [cal z w h] [] ⟨True,.dat .bool (ax z w h),[]⟩:=by
 refine ae (c:=mkc K0) KS0 aL hm (KE z w h ⟨rfl,λ_=>?_⟩)
 simp only[qc,Dk,Di,qd,Ea,Dp,Ei,Ed,Df,Dc,Du];refine⟨λhb=>pi λhv=>?_,λ⟨⟨⟨h1,h2⟩,h3⟩,h4⟩=>⟨B5 h4,λx hx=>⟨λhlt=>?_,λhge=>B7 hx hge (by omega) (by omega) (by omega)⟩⟩⟩
 .obtain⟨⟨g1,g2,g3,g4⟩,_⟩:=hv;omega
 .have hx1:=hx.1;have hx3:=hx.2.2.1;refine⟨⟨by omega,by omega⟩,by omega,by omega,by omega,hlt,λhle=>B6 hx hlt hle,λhn=>⟨⟨by omega,by omega⟩,x+1,wx hx hlt (by omega),rfl,by omega⟩⟩
theorem XU(z:Int)(w:List Bool)(h:Li): af Tryz.prog G0 167 [cal z w h] [] ⟨True,.dat .bool (gR w h),[]⟩:=by
 refine ae (c:=mkc K0) KS0 aL hm (Qp z w h ⟨rfl,λ_=>?_⟩)
 simp only[qc,Dk,gR,Eh,Df]
 congr 1<;>congr 1<;>exact propext (by omega)
theorem mj(p q:Prop)[Decidable p][Decidable q]: (decide p&&decide q)=decide (p/\q):=by by_cases hp:p<;>by_cases hq:q<;>simp[hp,hq]
theorem MG(b:Int): af Tryz.prog G0 283 [.dat U b] [] ⟨True,.dat .bool (jt b),[]⟩:=by
 refine ae (c:=mkc K0) KS0 aL hm (Iy b ⟨rfl,λ_=>?_⟩)
 simp only[qc,Dk,jt,Ed,Eh,mj,kV]
theorem MH(b:Int): af Tryz.prog G0 284 [.dat U b] [] ⟨True,.dat .bool (fk b),[]⟩:=by
 refine ae (c:=mkc K0) KS0 aL hm (Iz b ⟨rfl,λ_=>?_⟩)
 simp only[qc,Dk,fk,Ed,Eh,mj,kV]
theorem XZ(b:Int): af Tryz.prog G0 297 [.dat U b] [] ⟨True,.dat .bool (fk b),[]⟩:=by
 refine ae (c:=mkc K0) KS0 aL hm (Q8 b ⟨rfl,λ_=>?_⟩)
 simp only[qc,Dk,fk,Ed,Eh,mj,kV]
theorem SB(v a b:Int): af Tryz.prog G0 248 [.dat I v,.dat I a,.dat I b] [] ⟨True,.dat .bool (dD v a b),[]⟩:=by
 refine ae (c:=mkc K0) KS0 aL hm (KR v a b ⟨rfl,λ_=>?_⟩)
 simp only[qc,Dk,dD,Ed,Eh,mj,kV]
theorem MK(v a b:Int): af Tryz.prog G0 300 [.dat I v,.dat I a,.dat I b] [] ⟨True,.dat .bool (dD v a b),[]⟩:=by
 refine ae (c:=mkc K0) KS0 aL hm (IH v a b ⟨rfl,λ_=>?_⟩)
 simp only[qc,Dk,dD,Ed,Eh,mj,kV]
theorem XW(k:Int): af Tryz.prog G0 226 [.dat I k] [] ⟨True,.dat I (iU k),[]⟩:=by
 refine ae (c:=mkc K0) KS0 aL hm (QN k ⟨rfl,λ_=>?_⟩)
 simp only[qc,qd,Dy,iU];refine⟨λh=>by rw[if_pos h],λh1=>⟨λh=>by rw[if_neg h1,if_pos h],λh2=>⟨λh=>by rw[if_neg h1,if_neg h2,if_pos h],λh=>by rw[if_neg h1,if_neg h2,if_neg h]⟩⟩⟩
theorem aAK: af Tryz.prog G0 303 [] [] ⟨True,.dat (.sl S) kw,[]⟩:=
 ae (c:=mkc K0) KS0 aL hm (WB ⟨rfl,λ_=>⟨rfl,trivial⟩⟩)
theorem KS1: al Tryz.prog G0 K1:=by
 intro f args m c h;unfold K1 at h;split at h
 .cases h;exact EA _ _ _
 .cases h;exact Sz _ _ _
 .cases h;exact XU _ _ _
 .cases h;exact MG _
 .cases h;exact MH _
 .cases h;exact XZ _
 .cases h;exact SB _ _ _
 .cases h;exact MK _ _ _
 .cases h;exact XW _
 .cases h;exact aAK
 .cases h
theorem JU(s:ByteArray)(i:Nat): (Fp s).getD i 0=((s.data.getD i 0).toNat:Int):=by
 show(List.map (λb:UInt8=>(b.toNat:Int)) s.data.toList).getD i 0=_
 rw[qA,qP,yB,qJ];cases s.data[i]?<;>rfl
theorem CY(s:ByteArray)(x:Int): (Fp s).getD x.toNat 0=Gf s x:=JU s x.toNat
theorem rj(s:ByteArray): (Fp s).length=s.size:=by
 show(List.map _ s.data.toList).length=s.data.size;rw[vY,vI]
theorem mN(s:ByteArray): s.data.toList.length=s.size:=vI
theorem ik{α:Type}{l:List α}{p:α->Bool}{d:α}{k:Nat}(h:(l.take k).all p=true)(hk:k<l.length)(hp:p (l.getD k d)=true): (l.take (k+1)).all p=true:=by
 rw[wZ,qB hk,qAa,h];rw[qA,qB hk]at hp;simpa using hp
theorem pU{α:Type}{l:List α}{p:α->Bool}{d:α}{k:Nat}(hk:k<l.length)(hp:p (l.getD k d)=false): l.all p=false:=by
 rw[qA,qB hk]at hp;rw[qCx];exact⟨l[k],wO hk,by simpa using hp⟩
theorem VO{α:Type}{l:List α}{p:α->Bool}{d:α}{k:Nat}(hk:k<l.length)(hp:p (l.getD k d)=true): l.any p=true:=by
 rw[qA,qB hk]at hp;exact kG.2 ⟨l[k],wO hk,by simpa using hp⟩
theorem xh{α:Type}{l:List α}{p:α->Bool}{d:α}{k:Nat}(h:(l.take k).any p=false)(hk:k<l.length)(hp:p (l.getD k d)=false): (l.take (k+1)).any p=false:=by
 rw[wZ,qB hk,List.any_append,h];rw[qA,qB hk]at hp;simpa using hp
theorem oP(s:ByteArray)(i:Nat): s.data.toList.getD i 0=s.data.getD i 0:=by
 rw[qA,yB,qJ]
theorem EW(s:ByteArray): oq s 0:=⟨qM _,vC _,by simp⟩
theorem F4(s:ByteArray): oQ s 0:=⟨qM _,vC _,by simp⟩
theorem wo(s:ByteArray): pG s 0:=⟨qM _,by decide,by simp⟩
theorem EX{s:ByteArray}{x:Int}(h:oq s x)(hx:x<s.size)(hp:nameB (Gf s x)=true): oq s (x+1):=by
 obtain⟨h0,h1,h2⟩:=h;refine⟨by omega,by omega,?_⟩
 rw[show(x+1).toNat=x.toNat+1 by omega]
 exact ik (d:=0) h2 (by rw[mN];omega) (by rw[oP];exact hp)
theorem F5{s:ByteArray}{x:Int}(h:oQ s x)(hx:x<s.size)(hp:uq (Gf s x)=true): oQ s (x+1):=by
 obtain⟨h0,h1,h2⟩:=h;refine⟨by omega,by omega,?_⟩
 rw[show(x+1).toNat=x.toNat+1 by omega]
 exact ik (d:=0) h2 (by rw[mN];omega) (by rw[oP];exact hp)
theorem Jf{s:ByteArray}{x:Int}(h:oq s x)(hx:¬x<s.size): (s.data.toList.all λb=>nameB (b.toNat:Int))=true:=by
 obtain⟨h0,h1,h2⟩:=h
 rwa [qO (by rw[mN];omega)]at h2
theorem JK{s:ByteArray}{x:Int}(h:oQ s x)(hx:¬x<s.size): (s.data.toList.all λb=>uq (b.toNat:Int))=true:=by
 obtain⟨h0,h1,h2⟩:=h
 rwa [qO (by rw[mN];omega)]at h2
theorem Tn{s:ByteArray}{x:Int}(h:oq s x)(hx:x<s.size)(hp:nameB (Gf s x)=false): (s.data.toList.all λb=>nameB (b.toNat:Int))=false:=
 pU (d:=0) (k:=x.toNat) (by rw[mN];have:=h.1;omega) (by rw[oP];exact hp)
theorem Uo{s:ByteArray}{x:Int}(h:oQ s x)(hx:x<s.size)(hp:uq (Gf s x)=false): (s.data.toList.all λb=>uq (b.toNat:Int))=false:=
 pU (d:=0) (k:=x.toNat) (by rw[mN];have:=h.1;omega) (by rw[oP];exact hp)
theorem wq{s:ByteArray}{x:Int}(h:pG s x)(hx:x<17)(hp:s.toList≠(kw.getD x.toNat ⟨#[]⟩).toList): pG s (x+1):=by
 obtain⟨h0,h1,h2⟩:=h;refine⟨by omega,by omega,?_⟩
 rw[show(x+1).toNat=x.toNat+1 by omega]
 exact xh (d:=⟨#[]⟩) h2 (by show x.toNat<17;omega) (by simpa using λe=>hp e.symm)
theorem Vv{s:ByteArray}{x:Int}(h:pG s x)(hx:x<17)(hp:s.toList=(kw.getD x.toNat ⟨#[]⟩).toList): isKey s=true:=
 VO (d:=⟨#[]⟩) (k:=x.toNat) (by have:=h.1;show x.toNat<17;omega) (by simpa using hp.symm)
theorem BW{s:ByteArray}{x:Int}(h:pG s x)(hx:¬x<17): isKey s=false:=by
 obtain⟨h0,h1,h2⟩:=h;have:x=17:=by omega
 subst this;exact h2
theorem EV{s:ByteArray}(h:cj s=true->False): false=cj s:=by
 cases e:cj s with
 | false=>rfl
 | true=>exact(h e).elim
theorem ON{s:ByteArray}(h:dd s=true->False): false=dd s:=by
 cases e:dd s with
 | false=>rfl
 | true=>exact(h e).elim
theorem kq{s:ByteArray}: cj s=true↔(1<=s.size/\s.size<=16)/\jt (Gf s 0)=true/\(s.data.toList.all λb=>nameB (b.toNat:Int))=true/\isKey s=false:=by
 unfold cj;simp only[qC,qE,zL,qDg];exact Iff.rfl
theorem nE{s:ByteArray}: dd s=true↔(1<=s.size/\s.size<=8)/\(s.data.toList.all λb=>uq (b.toNat:Int))=true:=by
 unfold dd;simp only[qC,qE]
theorem EY{b:Int}(h1:jt b=false)(h2:fk b=false)(h3:b≠95): nameB b=false:=by simp[nameB,h1,h2,h3]
theorem IY(v:Int): af Tryz.prog G0 202 [.dat I v] [] ⟨True,.dat .bool (dD v 0 1439),[]⟩:=
 ae (c:=mkc K1) KS1 aL hm (DU v ⟨rfl,λ_=>⟨trivial,rfl,trivial⟩⟩)
theorem Tq{b:Int}(h:jt b=false->fk b=false->b=95): nameB b=true:=by
 unfold nameB;cases q1:jt b with
 | true=>rfl
 | false=>cases q2:fk b with
  | true=>rfl
  | false=>simpa using h q1 q2
theorem Ur{b:Int}(h:fk b=false->65<=b/\b<=90): uq b=true:=by
 unfold uq;cases q1:fk b with
 | true=>rfl
 | false=>simpa using h q1
theorem F7{b:Int}(h1:fk b=false)(h2:b<65\/b>90): uq b=false:=by
 unfold uq;rw[h1];simp;omega
theorem SA(s:ByteArray): af Tryz.prog G0 236 [.dat S s] [] ⟨True,.dat .bool (cj s),[]⟩:=by
 refine ae (c:=mkc K1) KS1 aL hm (KQ s ⟨rfl,λ_=>?_⟩)
 simp only[qc,Dk,Di,qd,Ea,Dp,Ei,Df,Et,Dl,Dc,Dx,Dj,Du,CY,rj];refine⟨λ_=>qM _,λh=>by omega,λh=>EV λg=>?_,λ⟨⟨h1,h2⟩,h3⟩=>⟨EW s,λx hx=>⟨λhlt=>?_,λhge=>?_⟩⟩⟩
 .rw[kq]at g;rcases h with h | h
  .omega
  .rw[g.2.1]at h;cases h
 .refine⟨hx.1,hlt,λ⟨⟨b1,b2⟩,b3⟩=>EV λg=>?_,λhb=>⟨⟨by have:=hx.1;omega,by omega⟩,x+1,EX hx hlt (Tq λq1 q2=>hb ⟨q1,q2⟩),rfl,by have:=hx.1;omega⟩⟩
  have:=Tn hx hlt (EY b1 b2 b3);rw[(kq.1 g).2.2.1]at this;cases this
 .refine⟨rfl,wo s,λy hy=>⟨λhlt=>⟨hy.1,by omega,rfl,λhe=>EV λg=>?_,λhne=>⟨⟨by have:=hy.1;omega,by omega⟩,y+1,wq hy hlt hne,rfl,by have:=hy.1;omega⟩⟩,λhge2=>(kq.2 ⟨by omega,h3,Jf hx hge,BW hy hge2⟩).symm⟩⟩
  have:=Vv hy hlt he;rw[(kq.1 g).2.2.2]at this;cases this
theorem SC(s:ByteArray): af Tryz.prog G0 247 [.dat S s] [] ⟨True,.dat .bool (dd s),[]⟩:=by
 refine ae (c:=mkc K1) KS1 aL hm (KT s ⟨rfl,λ_=>?_⟩)
 simp only[qc,Dk,Di,qd,Dp,Ei,Df,Et,Dc,Du,CY,rj];refine⟨λh=>ON λg=>by rw[nE]at g;omega,λ⟨h1,h2⟩=>⟨F4 s,λx hx=>⟨λhlt=>?_,λhge=>(nE.2 ⟨by omega,JK hx hge⟩).symm⟩⟩⟩
 refine⟨hx.1,hlt,λ⟨b1,b2⟩=>ON λg=>?_,λhb=>⟨⟨by have:=hx.1;omega,by omega⟩,x+1,F5 hx hlt (Ur λq1=>by have:=hb q1;omega),rfl,by have:=hx.1;omega⟩⟩
 have:=Uo hx hlt (F7 b1 b2);rw[(nE.1 g).2]at this;cases this
theorem aDM(s:ByteArray): af Tryz.prog G0 296 [.dat S s] [] ⟨True,.dat .bool (isKey s),[]⟩:=by
 refine ae (c:=mkc K1) KS1 aL hm (tS s ⟨rfl,λ_=>?_⟩)
 simp only[qc,qd,Dp,Df,Dc,Du];have hl:(kw.length:Int)=17:=rfl;refine⟨wo s,λy hy=>⟨λhlt=>⟨hy.1,hlt,λhe=>(Vv hy (by omega) he.symm).symm,λhne=>⟨⟨by have:=hy.1;omega,by omega⟩,y+1,wq hy (by omega) (λe=>hne e.symm),rfl,by have:=hy.1;omega⟩⟩,λhge=>(BW hy (by omega)).symm⟩⟩
theorem KS2: al Tryz.prog G0 K2:=by
 intro f args m c h;unfold K2 at h;split at h
 .cases h;exact IY _
 .cases h;exact SA _
 .cases h;exact SC _
 .cases h;exact aDM _
 .exact KS1 _ _ _ _ h
end Go.Eng.Sv
set_option maxRecDepth 100000
noncomputable section
namespace Go.Eng.Sv
open Go.Proofs
abbrev Of: Ty:=.pair S (.pair I (.pair I (.pair I (.pair I (.pair I (.sl S))))))
abbrev Ln: Ty:=.pair S (.pair I (.pair I (.pair I (.pair I I))))
abbrev Kl: Ty:=.pair S (.pair I I)
abbrev Fa: Ty:=.pair I (.pair I I)
abbrev N: Ty:=.pair (.sl C) (.pair (.sl S) (.pair (.sl S) (.pair (.sl Of) (.pair (.sl Ln) (.sl Kl)))))
abbrev Off:=ByteArray×Int×Int×Int×Int×Int×List ByteArray
abbrev Lo:=List Off
abbrev Cla:=ByteArray×Int×Int
abbrev Lk:=List Cla
abbrev Net:=List (Int×List Bool×Li)×List ByteArray×List ByteArray×Lo×Ll×Lk
abbrev net(cs:LC)(ns os:LB)(fs:Lo)(ls:Ll)(ks:Lk): AV:=.agg [.dat (.sl C) cs,.dat (.sl S) ns,.dat (.sl S) os,.dat (.sl Of) fs,.dat (.sl Ln) ls,.dat (.sl Kl) ks]
def dO(i n:Int): Bool:=decide (0<=i/\i<n)
def idx(i n:Int): Prop:=0<=i/\i<n
def qD(i n:Int): Prop:=0<=i/\i<n/\i<=1000
def ky(l:List ByteArray)(k:Int): Prop:=0<=k/\k<=l.length/\(l.take k.toNat).all dd=true
def cT(n:Net)(o:Off): Bool:=dO o.2.1 n.2.2.1.length&&dO o.2.2.1 n.1.length&&decide (o.2.2.2.2.2.2.length<=20)&&o.2.2.2.2.2.2.all dd&&dD o.2.2.2.1 2 64&&dD o.2.2.2.2.1 1 4&&dD o.2.2.2.2.2.1 1 240
def di(n:Net)(l:Line): Bool:=dO l.2.1 n.2.2.2.1.length&&dO l.2.2.1 n.2.2.2.1.length&&decide (l.2.1≠l.2.2.1)&&dD l.2.2.2.1 0 1439&&dD l.2.2.2.2.1 1 5000&&dD l.2.2.2.2.2 1 40
def gA(k:Cla): Bool:=dD k.2.1 0 1439&&dD k.2.2 0 1439
def az(cs:List (Int×List Bool×Li))(ns:List ByteArray): List ByteArray:=(List.range cs.length).map λi=>ns.getD i ⟨#[]⟩
def aD(fs:Lo): List ByteArray:=fs.map (·.1)
def aE(ls:Ll): List ByteArray:=ls.map (·.1)
def aF(ks:Lk): List ByteArray:=ks.map (·.1)
def bh(cs:List (Int×List Bool×Li)): List Bool:=cs.map λc=>ax c.1 c.2.1 c.2.2
def bT(os:List ByteArray): List Bool:=os.map λ_=>true
def cQ(n:Net): List Bool:=n.2.2.2.1.map (cT n)
def cD(n:Net): List Bool:=n.2.2.2.2.1.map (di n)
def bv(ks:Lk): List Bool:=ks.map gA
def gy(l:List ByteArray)(i:Int): ByteArray:=l.getD i.toNat ⟨#[]⟩
def bF(l:List ByteArray)(i:Int): Int:=if cj (gy l i)then 0 else 1
def rule2(l:List ByteArray)(i:Int): Int:=if(l.take i.toNat).any (λw=>w.toList==(gy l i).toList)then 4 else 0
def bN(g:List Bool)(i:Int): Int:=if g.getD i.toNat false then 0 else 1
def uL(l:List ByteArray)(i k:Int): Prop:=0<=k/\k<=i/\(l.take k.toNat).any (λw=>w.toList==(gy l i).toList)=false
def bY(l:List ByteArray)(g:List Bool)(i k:Int): Prop:=0<=k/\k<=3/\(0<k->bF l i=0)/\(1<k->rule2 l i=0)/\(2<k->bN g i=0)
def HU(l:List ByteArray)(g:List Bool)(i:Int): Int:=if bF l i≠0 then bF l i else if rule2 l i≠0 then rule2 l i else bN g i
def aS(kind:Int)(l:List ByteArray)(g:List Bool)(k:Int): List (Int×Int×Int):=(List.range k.toNat).filterMap λi:Nat=>if HU l g i=0 then none else some (kind,(i:Int),HU l g i)
def Jb(kind lim:Int)(l:List ByteArray): List (Int×Int×Int):=if lim<l.length then[(kind,lim,2)]else[]
def bD(kind lim:Int)(l:List ByteArray)(g:List Bool): List (Int×Int×Int):=aS kind l g (min l.length lim)++Jb kind lim l
def cV(k n lim:Int): Prop:=0<=k/\k<=n/\k<=lim
def FP(n:Net): List (Int×Int×Int):=if n.2.1.length=n.1.length then[]else[(1,-1,1)]
def aQ(n:Net)(k:Int): List ByteArray:=if k=1 then az n.1 n.2.1 else if k=2 then n.2.2.1 else if k=3 then aD n.2.2.2.1 else if k=4 then aE n.2.2.2.2.1 else if k=5 then aF n.2.2.2.2.2 else[]
def Oc(n:Net)(k:Int): List Bool:=if k=1 then bh n.1 else if k=2 then bT n.2.2.1 else if k=3 then cQ n else if k=4 then cD n else if k=5 then bv n.2.2.2.2.2 else[]
def iZ(n:Net)(k:Int): List (Int×Int×Int):=FP n++(List.range (k.toNat-1)).flatMap λj:Nat=>bD (j+1) (iU (j+1)) (aQ n (j+1)) (Oc n (j+1))
def fe(n:Net): List (Int×Int×Int):=iZ n 6
def l8(n:Net): Bool:=decide (n.1.length<=10/\n.2.1.length<=10/\n.2.2.1.length<=10/\n.2.2.2.1.length<=16/\n.2.2.2.2.1.length<=50/\n.2.2.2.2.2.length<=8)
theorem QQ(i:Int)(xs:List Of.den)(hvc:
 let c1:=Ed i 0;let c3:=c1->c1->c1;let c2:=Df xs;true/\(True->c3/\c3/\c3/\(Dk true c1->c1)/\Eb c1 (Dp i c2) false=dO i c2/\True)):
  evF (mkc K2) aA 252 [.dat I i,.dat (.sl Of) xs] [] ⟨True,.dat .bool (dO i (Df xs)),[]⟩:=oE hvc
theorem WC(i:Int)(xs:List S.den)(hvc:
 let c1:=Ed i 0;let c2:=c1->c1->c1;true/\(True->c2/\c2/\c2/\(Dk true c1->c1)/\Eb c1 (Dp i (Df xs)) false=dO i (Df xs)/\True)):
  evF (mkc K2) aA 245 [.dat I i,.dat (.sl S) xs] [] ⟨True,.dat .bool (dO i (Df xs)),[]⟩:=oE hvc
theorem WE(i:Int)(xs:List C.den)(hvc:
 let c1:=Ed i 0;let c3:=c1->c1->c1;let c2:=Df xs;true/\(True->c3/\c3/\c3/\(Dk true c1->c1)/\Eb c1 (Dp i c2) false=dO i c2/\True)):
  evF (mkc K2) aA 246 [.dat I i,.dat (.sl C) xs] [] ⟨True,.dat .bool (dO i (Df xs)),[]⟩:=oE hvc
def K3: Kt:=kOr 252 (ay [.val I,.val (.sl Of)] (λ_=>True) λ(i,xs,_)=>.dat .bool (dO i (Df xs)))
 (kOr 245 (ay [.val I,.val (.sl S)] (λ_=>True) λ(i,xs,_)=>.dat .bool (dO i (Df xs)))
 (kOr 246 (ay [.val I,.val (.sl C)] (λ_=>True) λ(i,xs,_)=>.dat .bool (dO i (Df xs))) K2))
def aBz(l:List ByteArray): Ann:=⟨λid st=>match id with
 | 4=>some {α:=Int,inv:=λk=>ky l k,st:=λk=>put st [(30,.dat I k)],μ:=λk=>Dc (Dh (Df l) k)}
 | _=>none,λ_ _=>none,λ_ _=>none⟩
theorem xn(cs:LC)(ns os:LB)(fs:Lo)(ls:Ll)(ks:Lk)(e1:ByteArray)(e2 e3 e4 e5 e6:Int)(e7:List ByteArray)(hvc:
 let c1:=Di (dO e2 (Df os));let c2:=Di c1;let c13:=c2->c2->c2;let c3:=Eb c1 true (Di (dO e3 (Df cs)));let c4:=Di c3;let c14:=c4->c4->c4;let c5:=Eb c3 true (Ei (Df e7) 20);let c6:=(e1,e2,e3,e4,e5,e6,e7);let c7:=cT (cs,ns,os,fs,ls,ks) c6;let c8:=dD e4 2 64;let c9:=Eb c8 (dD e5 1 4) false;true/\(True->True/\c13/\c13/\c13/\c13/\(c2->True)/\c13/\(Dk true c2->c2)/\c14/\c14/\c14/\(Dk true c4->c4)/\(c5->false=c7/\True)/\(c5=false->(∃x,ky e7 x/\c6=c6/\e7=e7/\Df e7=Df e7/\0=x/\True)/\∀(x:Int),let c10:=Dp x (Df e7);let c11:=Di (dd (Du e7 (Dc x) (ByteArray.mk #[])));let c12:=x+1;ky e7 x->(c10->0<=x/\x<Df e7/\True/\(c11->false=c7/\True)/\(c11=false->inR .i64 c12/\∃y,ky e7 y/\(c6=c6/\e7=e7/\Df e7=Df e7/\c12=y/\True)/\Dc (Df e7-y)<Dc (Df e7-x)))/\(c10=false->True/\(c8->c8->c8)/\(c8->c8->c8)/\(c8->True)/\(Dk true c8->c8)/\(c9->c9->c9)/\(c9->c9->c9)/\(c9->True)/\(Dk true c9->c9)/\Eb c9 (dD e6 1 240) false=c7/\True)))):
  evF (mkc K3) (lvA [(4,[3,4,6,28,29,30])] (aBz e7)) 194 [net cs ns os fs ls ks,.agg [.dat .str e1,.dat (.int .i64) e2,.dat (.int .i64) e3,.dat (.int .i64) e4,.dat (.int .i64) e5,.dat (.int .i64) e6,.dat (.sl .str) e7]] [] ⟨True,.dat .bool (cT (cs,ns,os,fs,ls,ks) (e1,e2,e3,e4,e5,e6,e7)),[]⟩:=oE hvc
theorem DW(cs:LC)(ns os:LB)(fs:Lo)(ls:Ll)(ks:Lk)(e1:ByteArray)(e2 e3 e4 e5 e6:Int)(hvc:
 let c1:=Df fs;let c2:=Di (dO e2 c1);let c3:=Di c2;let c10:=c3->c3->c3;let c4:=Eb c2 true (Di (dO e3 c1));let c5:=Di c4;let c11:=c5->c5->c5;let c6:=Eb c4 true (Dy e2 e3);let c7:=di (cs,ns,os,fs,ls,ks) (e1,e2,e3,e4,e5,e6);let c8:=dD e4 0 1439;let c9:=Eb c8 (dD e5 1 5000) false;true/\(True->True/\c10/\c10/\c10/\c10/\(c3->True)/\c10/\(Dk true c3->c3)/\c11/\c11/\c11/\c11/\(Dk true c5->c5)/\(c6->false=c7/\True)/\(c6=false->True/\(c8->c8->c8)/\(c8->c8->c8)/\(c8->True)/\(Dk true c8->c8)/\(c9->c9->c9)/\(c9->c9->c9)/\(c9->True)/\(Dk true c9->c9)/\Eb c9 (dD e6 1 40) false=c7/\True))):
  evF (mkc K3) aA 198 [net cs ns os fs ls ks,.agg [.dat .str e1,.dat (.int .i64) e2,.dat (.int .i64) e3,.dat (.int .i64) e4,.dat (.int .i64) e5,.dat (.int .i64) e6]] [] ⟨True,.dat .bool (di (cs,ns,os,fs,ls,ks) (e1,e2,e3,e4,e5,e6)),[]⟩:=oE hvc
def K4: Kt:=kOr 194 (ay [.row N,.row Of] (λ_=>True) λ(n,o,_)=>.dat .bool (cT n o))
 (kOr 198 (ay [.row N,.row Ln] (λ_=>True) λ(n,l,_)=>.dat .bool (di n l)) K3)
theorem gD(i:Int)(cs:LC)(ns os:LB)(fs:Lo)(ls:Ll)(ks:Lk)(hvc:
 let c1:=Dp i (Df ns);let c2:=gy (az cs ns) i;true/\(idx i (Df cs)->(c1->0<=i/\i<Df ns/\Du ns (Dc i) (ByteArray.mk #[])=c2/\True)/\(c1=false->ByteArray.mk #[]=c2/\True))):
  evF (mkc K4) aA 186 [.dat I i,.ip N (cs,ns,os,fs,ls,ks)] [] ⟨idx i (Df cs),.dat S (gy (az cs ns) i),[]⟩:=oE hvc
theorem fT(i:Int)(cs:LC)(ns os:LB)(fs:Lo)(ls:Ll)(ks:Lk)(hvc:
 true/\(idx i (Df os)->0<=i/\i<Df os/\Du os (Dc i) (ByteArray.mk #[])=gy os i/\True)):
  evF (mkc K4) aA 188 [.dat I i,.ip N (cs,ns,os,fs,ls,ks)] [] ⟨idx i (Df os),.dat S (gy os i),[]⟩:=oE hvc
theorem oA(e1:ByteArray)(hvc:
 true/\(True->true/\True)):
  evF (mkc K4) aA 190 [.agg [.dat .str e1]] [] ⟨True,.dat .bool true,[]⟩:=oE hvc
theorem fI(i:Int)(cs:LC)(ns os:LB)(fs:Lo)(ls:Ll)(ks:Lk)(hvc:
 let c1:=Df fs;true/\(idx i c1->0<=i/\i<c1/\(Du fs (Dc i) (ByteArray.mk #[],(0:Int),(0:Int),(0:Int),(0:Int),(0:Int),Dt ByteArray)).1=gy (aD fs) i/\True)):
  evF (mkc K4) aA 191 [.dat I i,.ip N (cs,ns,os,fs,ls,ks)] [] ⟨idx i (Df fs),.dat S (gy (aD fs) i),[]⟩:=oE hvc
theorem kI(cs:LC)(ns os:LB)(fs:Lo)(ls:Ll)(ks:Lk)(e1:ByteArray)(e2 e3 e4 e5 e6:Int)(e7:List ByteArray)(hvc:
 let c1:=cT (cs,ns,os,fs,ls,ks) (e1,e2,e3,e4,e5,e6,e7);true/\(True->True/\c1=c1/\True)):
  evF (mkc K4) aA 193 [.agg [.dat .str e1,.dat (.int .i64) e2,.dat (.int .i64) e3,.dat (.int .i64) e4,.dat (.int .i64) e5,.dat (.int .i64) e6,.dat (.sl .str) e7],.ip N (cs,ns,os,fs,ls,ks)] [] ⟨True,.dat .bool (cT (cs,ns,os,fs,ls,ks) (e1,e2,e3,e4,e5,e6,e7)),[]⟩:=oE hvc
theorem Z9(i:Int)(cs:LC)(ns os:LB)(fs:Lo)(ls:Ll)(ks:Lk)(hvc:
 let c1:=Df ls;true/\(idx i c1->0<=i/\i<c1/\(Du ls (Dc i) (ByteArray.mk #[],(0:Int),(0:Int),(0:Int),(0:Int),(0:Int))).1=gy (aE ls) i/\True)):
  evF (mkc K4) aA 195 [.dat I i,.ip N (cs,ns,os,fs,ls,ks)] [] ⟨idx i (Df ls),.dat S (gy (aE ls) i),[]⟩:=oE hvc
theorem iX(cs:LC)(ns os:LB)(fs:Lo)(ls:Ll)(ks:Lk)(e1:ByteArray)(e2 e3 e4 e5 e6:Int)(hvc:
 let c1:=di (cs,ns,os,fs,ls,ks) (e1,e2,e3,e4,e5,e6);true/\(True->True/\c1=c1/\True)):
  evF (mkc K4) aA 197 [.agg [.dat .str e1,.dat (.int .i64) e2,.dat (.int .i64) e3,.dat (.int .i64) e4,.dat (.int .i64) e5,.dat (.int .i64) e6],.ip N (cs,ns,os,fs,ls,ks)] [] ⟨True,.dat .bool (di (cs,ns,os,fs,ls,ks) (e1,e2,e3,e4,e5,e6)),[]⟩:=oE hvc
theorem Z8(i:Int)(cs:LC)(ns os:LB)(fs:Lo)(ls:Ll)(ks:Lk)(hvc:
 let c1:=Df ks;true/\(idx i c1->0<=i/\i<c1/\(Du ks (Dc i) (ByteArray.mk #[],(0:Int),(0:Int))).1=gy (aF ks) i/\True)):
  evF (mkc K4) aA 199 [.dat I i,.ip N (cs,ns,os,fs,ls,ks)] [] ⟨idx i (Df ks),.dat S (gy (aF ks) i),[]⟩:=oE hvc
theorem iB(e1:ByteArray)(e2 e3:Int)(hvc:
 let c1:=dD e2 0 1439;true/\(True->True/\(c1->c1->c1)/\(c1->c1->c1)/\(c1->True)/\(Dk true c1->c1)/\Eb c1 (dD e3 0 1439) false=gA (e1,e2,e3)/\True)):
  evF (mkc K4) aA 201 [.agg [.dat .str e1,.dat (.int .i64) e2,.dat (.int .i64) e3]] [] ⟨True,.dat .bool (gA (e1,e2,e3)),[]⟩:=oE hvc
def K5: Kt:=kOr 186 (ay [.val I,.ptr N] (λ(i,(cs,ns,os,fs,ls,ks),_)=>idx i (Df cs)) λ(i,(cs,ns,os,fs,ls,ks),_)=>.dat S (gy (az cs ns) i))
 (kOr 188 (ay [.val I,.ptr N] (λ(i,(cs,ns,os,fs,ls,ks),_)=>idx i (Df os)) λ(i,(cs,ns,os,fs,ls,ks),_)=>.dat S (gy (os) i))
 (kOr 190 (ay [.row S] (λ_=>True) λ_=>.dat .bool true)
 (kOr 191 (ay [.val I,.ptr N] (λ(i,(cs,ns,os,fs,ls,ks),_)=>idx i (Df fs)) λ(i,(cs,ns,os,fs,ls,ks),_)=>.dat S (gy (aD fs) i))
 (kOr 193 (ay [.row Of,.ptr N] (λ_=>True) λ(o,n,_)=>.dat .bool (cT n o))
 (kOr 195 (ay [.val I,.ptr N] (λ(i,(cs,ns,os,fs,ls,ks),_)=>idx i (Df ls)) λ(i,(cs,ns,os,fs,ls,ks),_)=>.dat S (gy (aE ls) i))
 (kOr 197 (ay [.row Ln,.ptr N] (λ_=>True) λ(l,n,_)=>.dat .bool (di n l))
 (kOr 199 (ay [.val I,.ptr N] (λ(i,(cs,ns,os,fs,ls,ks),_)=>idx i (Df ks)) λ(i,(cs,ns,os,fs,ls,ks),_)=>.dat S (gy (aF ks) i))
 (kOr 201 (ay [.row Kl] (λ_=>True) λ(k,_)=>.dat .bool (gA k)) K4))))))))
def twA(l:List ByteArray)(i:Int): Ann:=⟨λid st=>match id with
 | 2=>some {α:=Int,inv:=λk=>uL l i k,st:=λk=>put st [(6,.dat I k)],μ:=λk=>Dc (Dh i k)}
 | _=>none,λ_ _=>none,λ_ _=>none⟩
theorem Z5(i:Int)(cs:LC)(ns os:LB)(fs:Lo)(ls:Ll)(ks:Lk)(hvc:
 let c1:=Di (cj (gy (az cs ns) i));let c2:=bF (az cs ns) i;true/\(idx i (Df cs)->idx i (Df cs)/\True/\(c1->1=c2/\True)/\(c1=false->0=c2/\True))):
  evF (mkc K5) aA 235 [.dat I i,.ipv (.fn 186 [.ip N (cs,ns,os,fs,ls,ks)])] [] ⟨idx i (Df cs),.dat I (bF (az cs ns) i),[]⟩:=oE hvc
theorem ZZ(i:Int)(cs:LC)(ns os:LB)(fs:Lo)(ls:Ll)(ks:Lk)(hvc:
 let c6:=az cs ns;let c1:=Df cs;let c2:=(cs,ns,os,fs,ls,ks);let c3:=rule2 c6 i;true/\(qD i c1->(∃x,uL c6 i x/\i=i/\c2=c2/\i=i/\0=x/\True)/\∀(x:Int),let c4:=Fv (gy c6 x) (gy c6 i);let c5:=x+1;uL c6 i x->(Dp x i->idx x c1/\idx i c1/\(c4->4=c3/\True)/\(c4=false->inR IntKind.i64 c5/\∃y,uL c6 i y/\(i=i/\c2=c2/\i=i/\c5=y/\True)/\Dc (i-y)<Dc (i-x)))/\(Dp x i=false->0=c3/\True))):
  evF (mkc K5) (lvA [(2,[0,1,3,4,5,6])] (twA (az cs ns) i)) 237 [.dat I i,.ipv (.fn 186 [.ip N (cs,ns,os,fs,ls,ks)])] [] ⟨qD i (Df cs),.dat I (rule2 (az cs ns) i),[]⟩:=oE hvc
theorem ZU(i:Int)(cs:LC)(ns os:LB)(fs:Lo)(ls:Ll)(ks:Lk)(hvc:
 let c1:=Df cs;let c2:=Du cs (Dc i) ((0:Int),Dt Bool,Dt Int);let c4:=Di (ax c2.1 c2.2.1 c2.2.2);true/\(idx i c1->0<=i/\i<c1/\True/\(c4->1=bN (bh cs) i/\True)/\(c4=false->0=bN (bh cs) i/\True))):
  evF (mkc K5) aA 238 [.dat I i,.ipv (.fn 161 []),.ip (.sl C) cs] [] ⟨idx i (Df cs),.dat I (bN (bh cs) i),[]⟩:=oE hvc
theorem Z4(i:Int)(cs:LC)(ns os:LB)(fs:Lo)(ls:Ll)(ks:Lk)(hvc:
 let c1:=Di (cj (gy os i));true/\(idx i (Df os)->idx i (Df os)/\True/\(c1->1=bF os i/\True)/\(c1=false->0=bF os i/\True))):
  evF (mkc K5) aA 239 [.dat I i,.ipv (.fn 188 [.ip N (cs,ns,os,fs,ls,ks)])] [] ⟨idx i (Df os),.dat I (bF (os) i),[]⟩:=oE hvc
theorem ZY(i:Int)(cs:LC)(ns os:LB)(fs:Lo)(ls:Ll)(ks:Lk)(hvc:
 let c4:=Df os;let c1:=(cs,ns,os,fs,ls,ks);true/\(qD i c4->(∃x,uL os i x/\i=i/\c1=c1/\i=i/\0=x/\True)/\∀(x:Int),let c2:=Fv (gy os x) (gy os i);let c3:=x+1;uL os i x->(Dp x i->idx x c4/\idx i c4/\(c2->4=rule2 os i/\True)/\(c2=false->inR .i64 c3/\∃y,uL os i y/\(i=i/\c1=c1/\i=i/\c3=y/\True)/\Dc (i-y)<Dc (i-x)))/\(Dp x i=false->0=rule2 os i/\True))):
  evF (mkc K5) (lvA [(2,[0,1,3,4,5,6])] (twA (os) i)) 240 [.dat I i,.ipv (.fn 188 [.ip N (cs,ns,os,fs,ls,ks)])] [] ⟨qD i (Df os),.dat I (rule2 (os) i),[]⟩:=oE hvc
theorem ZT(i:Int)(cs:LC)(ns os:LB)(fs:Lo)(ls:Ll)(ks:Lk)(hvc:
 true/\(idx i (Df os)->0<=i/\i<Df os/\True/\(Di true->1=bN (bT os) i/\True)/\(Di true=false->0=bN (bT os) i/\True))):
  evF (mkc K5) aA 241 [.dat I i,.ipv (.fn 190 []),.ip (.sl S) os] [] ⟨idx i (Df os),.dat I (bN (bT os) i),[]⟩:=oE hvc
theorem Z3(i:Int)(cs:LC)(ns os:LB)(fs:Lo)(ls:Ll)(ks:Lk)(hvc:
 let c1:=Di (cj (gy (aD fs) i));true/\(idx i (Df fs)->idx i (Df fs)/\True/\(c1->1=bF (aD fs) i/\True)/\(c1=false->0=bF (aD fs) i/\True))):
  evF (mkc K5) aA 242 [.dat I i,.ipv (.fn 191 [.ip N (cs,ns,os,fs,ls,ks)])] [] ⟨idx i (Df fs),.dat I (bF (aD fs) i),[]⟩:=oE hvc
theorem ZX(i:Int)(cs:LC)(ns os:LB)(fs:Lo)(ls:Ll)(ks:Lk)(hvc:
 let c1:=Df fs;let c2:=(cs,ns,os,fs,ls,ks);true/\(qD i c1->(∃x,uL (aD fs) i x/\i=i/\c2=c2/\i=i/\0=x/\True)/\∀(x:Int),let c3:=Fv (gy (aD fs) x) (gy (aD fs) i);let c4:=x+1;uL (aD fs) i x->(Dp x i->idx x c1/\idx i c1/\(c3->4=rule2 (aD fs) i/\True)/\(c3=false->inR .i64 c4/\∃y,uL (aD fs) i y/\(i=i/\c2=c2/\i=i/\c4=y/\True)/\Dc (i-y)<Dc (i-x)))/\(Dp x i=false->0=rule2 (aD fs) i/\True))):
  evF (mkc K5) (lvA [(2,[0,1,3,4,5,6])] (twA (aD fs) i)) 243 [.dat I i,.ipv (.fn 191 [.ip N (cs,ns,os,fs,ls,ks)])] [] ⟨qD i (Df fs),.dat I (rule2 (aD fs) i),[]⟩:=oE hvc
theorem ZS(i:Int)(cs:LC)(ns os:LB)(fs:Lo)(ls:Ll)(ks:Lk)(hvc:
 let c1:=Df fs;let c2:=(cs,ns,os,fs,ls,ks);let c9:=Di (cT c2 (Du fs (Dc i) (ByteArray.mk #[],(0:Int),(0:Int),(0:Int),(0:Int),(0:Int),Dt ByteArray)));let c10:=bN (cQ c2) i;true/\(idx i c1->0<=i/\i<c1/\True/\(c9->1=c10/\True)/\(c9=false->0=c10/\True))):
  evF (mkc K5) aA 244 [.dat I i,.ipv (.fn 193 [.ip N (cs,ns,os,fs,ls,ks)]),.ip (.sl Of) fs] [] ⟨idx i (Df fs),.dat I (bN (cQ (cs,ns,os,fs,ls,ks)) i),[]⟩:=oE hvc
theorem Z2(i:Int)(cs:LC)(ns os:LB)(fs:Lo)(ls:Ll)(ks:Lk)(hvc:
 let c1:=Di (cj (gy (aE ls) i));true/\(idx i (Df ls)->idx i (Df ls)/\True/\(c1->1=bF (aE ls) i/\True)/\(c1=false->0=bF (aE ls) i/\True))):
  evF (mkc K5) aA 249 [.dat I i,.ipv (.fn 195 [.ip N (cs,ns,os,fs,ls,ks)])] [] ⟨idx i (Df ls),.dat I (bF (aE ls) i),[]⟩:=oE hvc
theorem ZW(i:Int)(cs:LC)(ns os:LB)(fs:Lo)(ls:Ll)(ks:Lk)(hvc:
 let c1:=Df ls;let c2:=(cs,ns,os,fs,ls,ks);true/\(qD i c1->(∃x,uL (aE ls) i x/\i=i/\c2=c2/\i=i/\0=x/\True)/\∀(x:Int),let c3:=Fv (gy (aE ls) x) (gy (aE ls) i);let c4:=x+1;uL (aE ls) i x->(Dp x i->idx x c1/\idx i c1/\(c3->4=rule2 (aE ls) i/\True)/\(c3=false->inR .i64 c4/\∃y,uL (aE ls) i y/\(i=i/\c2=c2/\i=i/\c4=y/\True)/\Dc (i-y)<Dc (i-x)))/\(Dp x i=false->0=rule2 (aE ls) i/\True))):
  evF (mkc K5) (lvA [(2,[0,1,3,4,5,6])] (twA (aE ls) i)) 250 [.dat I i,.ipv (.fn 195 [.ip N (cs,ns,os,fs,ls,ks)])] [] ⟨qD i (Df ls),.dat I (rule2 (aE ls) i),[]⟩:=oE hvc
theorem ZR(i:Int)(cs:LC)(ns os:LB)(fs:Lo)(ls:Ll)(ks:Lk)(hvc:
 let c1:=Df ls;let c2:=(cs,ns,os,fs,ls,ks);let c8:=Di (di c2 (Du ls (Dc i) (ByteArray.mk #[],(0:Int),(0:Int),(0:Int),(0:Int),(0:Int))));let c9:=bN (cD c2) i;true/\(idx i c1->0<=i/\i<c1/\True/\(c8->1=c9/\True)/\(c8=false->0=c9/\True))):
  evF (mkc K5) aA 251 [.dat I i,.ipv (.fn 197 [.ip N (cs,ns,os,fs,ls,ks)]),.ip (.sl Ln) ls] [] ⟨idx i (Df ls),.dat I (bN (cD (cs,ns,os,fs,ls,ks)) i),[]⟩:=oE hvc
theorem Z1(i:Int)(cs:LC)(ns os:LB)(fs:Lo)(ls:Ll)(ks:Lk)(hvc:
 let c1:=Di (cj (gy (aF ks) i));true/\(idx i (Df ks)->idx i (Df ks)/\True/\(c1->1=bF (aF ks) i/\True)/\(c1=false->0=bF (aF ks) i/\True))):
  evF (mkc K5) aA 253 [.dat I i,.ipv (.fn 199 [.ip N (cs,ns,os,fs,ls,ks)])] [] ⟨idx i (Df ks),.dat I (bF (aF ks) i),[]⟩:=oE hvc
theorem ZV(i:Int)(cs:LC)(ns os:LB)(fs:Lo)(ls:Ll)(ks:Lk)(hvc:
 let c1:=Df ks;let c2:=(cs,ns,os,fs,ls,ks);true/\(qD i c1->(∃x,uL (aF ks) i x/\i=i/\c2=c2/\i=i/\0=x/\True)/\∀(x:Int),let c3:=Fv (gy (aF ks) x) (gy (aF ks) i);let c4:=x+1;uL (aF ks) i x->(Dp x i->idx x c1/\idx i c1/\(c3->4=rule2 (aF ks) i/\True)/\(c3=false->inR .i64 c4/\∃y,uL (aF ks) i y/\(i=i/\c2=c2/\i=i/\c4=y/\True)/\Dc (i-y)<Dc (i-x)))/\(Dp x i=false->0=rule2 (aF ks) i/\True))):
  evF (mkc K5) (lvA [(2,[0,1,3,4,5,6])] (twA (aF ks) i)) 254 [.dat I i,.ipv (.fn 199 [.ip N (cs,ns,os,fs,ls,ks)])] [] ⟨qD i (Df ks),.dat I (rule2 (aF ks) i),[]⟩:=oE hvc
theorem ZQ(i:Int)(cs:LC)(ns os:LB)(fs:Lo)(ls:Ll)(ks:Lk)(hvc:
 let c1:=Df ks;let c4:=Di (gA (Du ks (Dc i) (ByteArray.mk #[],(0:Int),(0:Int))));true/\(idx i c1->0<=i/\i<c1/\True/\(c4->1=bN (bv ks) i/\True)/\(c4=false->0=bN (bv ks) i/\True))):
  evF (mkc K5) aA 255 [.dat I i,.ipv (.fn 201 []),.ip (.sl Kl) ks] [] ⟨idx i (Df ks),.dat I (bN (bv ks) i),[]⟩:=oE hvc
def K6: Kt:=
 kOr 235 (ay [.val I,.fnp 186 N] (λ(i,(cs,ns,os,fs,ls,ks),_)=>idx i (Df cs)) λ(i,(cs,ns,os,fs,ls,ks),_)=>.dat I (bF (az cs ns) i)) <|
 kOr 237 (ay [.val I,.fnp 186 N] (λ(i,(cs,ns,os,fs,ls,ks),_)=>qD i (Df cs)) λ(i,(cs,ns,os,fs,ls,ks),_)=>.dat I (rule2 (az cs ns) i)) <|
 kOr 238 (ay [.val I,.fnp0 161,.ptr (.sl C)] (λ(i,_,cs,_)=>idx i (Df cs)) λ(i,_,cs,_)=>.dat I (bN (bh cs) i)) <|
 kOr 239 (ay [.val I,.fnp 188 N] (λ(i,(cs,ns,os,fs,ls,ks),_)=>idx i (Df os)) λ(i,(cs,ns,os,fs,ls,ks),_)=>.dat I (bF (os) i)) <|
 kOr 240 (ay [.val I,.fnp 188 N] (λ(i,(cs,ns,os,fs,ls,ks),_)=>qD i (Df os)) λ(i,(cs,ns,os,fs,ls,ks),_)=>.dat I (rule2 (os) i)) <|
 kOr 241 (ay [.val I,.fnp0 190,.ptr (.sl S)] (λ(i,_,os,_)=>idx i (Df os)) λ(i,_,os,_)=>.dat I (bN (bT os) i)) <|
 kOr 242 (ay [.val I,.fnp 191 N] (λ(i,(cs,ns,os,fs,ls,ks),_)=>idx i (Df fs)) λ(i,(cs,ns,os,fs,ls,ks),_)=>.dat I (bF (aD fs) i)) <|
 kOr 243 (ay [.val I,.fnp 191 N] (λ(i,(cs,ns,os,fs,ls,ks),_)=>qD i (Df fs)) λ(i,(cs,ns,os,fs,ls,ks),_)=>.dat I (rule2 (aD fs) i)) <|
 kOr 244 (ay [.val I,.fnp 193 N,.ptr (.sl Of)] (λ(i,(cs,ns,os,fs,ls,ks),xs,_)=>idx i (Df fs)/\xs=fs) λ(i,(cs,ns,os,fs,ls,ks),_,_)=>.dat I (bN (cQ (cs,ns,os,fs,ls,ks)) i)) <|
 kOr 249 (ay [.val I,.fnp 195 N] (λ(i,(cs,ns,os,fs,ls,ks),_)=>idx i (Df ls)) λ(i,(cs,ns,os,fs,ls,ks),_)=>.dat I (bF (aE ls) i)) <|
 kOr 250 (ay [.val I,.fnp 195 N] (λ(i,(cs,ns,os,fs,ls,ks),_)=>qD i (Df ls)) λ(i,(cs,ns,os,fs,ls,ks),_)=>.dat I (rule2 (aE ls) i)) <|
 kOr 251 (ay [.val I,.fnp 197 N,.ptr (.sl Ln)] (λ(i,(cs,ns,os,fs,ls,ks),xs,_)=>idx i (Df ls)/\xs=ls) λ(i,(cs,ns,os,fs,ls,ks),_,_)=>.dat I (bN (cD (cs,ns,os,fs,ls,ks)) i)) <|
 kOr 253 (ay [.val I,.fnp 199 N] (λ(i,(cs,ns,os,fs,ls,ks),_)=>idx i (Df ks)) λ(i,(cs,ns,os,fs,ls,ks),_)=>.dat I (bF (aF ks) i)) <|
 kOr 254 (ay [.val I,.fnp 199 N] (λ(i,(cs,ns,os,fs,ls,ks),_)=>qD i (Df ks)) λ(i,(cs,ns,os,fs,ls,ks),_)=>.dat I (rule2 (aF ks) i)) <|
 kOr 255 (ay [.val I,.fnp0 201,.ptr (.sl Kl)] (λ(i,_,ks,_)=>idx i (Df ks)) λ(i,_,ks,_)=>.dat I (bN (bv ks) i)) <|
 K5
def CX(kind lim:Int)(l:List ByteArray)(g:List Bool): Ann:=⟨λid st=>match id with
 | 4=>some {α:=Int,inv:=λk=>cV k (Df l) lim,st:=λk=>iM (put st [(25,.dat I k),(12,.buf 100 (Dj (aS kind l g k)))]) 100 (.buf 177 Fa (aS kind l g k) []),μ:=λk=>Dc (Dh lim k)}
 | 7=>match st.sig.T 13 with
  | .dat (.int .i64) i=>some {α:=Int,inv:=λk=>bY l g i k,st:=λk=>put st [(29,.dat I k),(12,.buf 100 (Dj (aS kind l g i)))],μ:=λk=>Dc (Dh 3 k)}
  | _=>none
 | _=>none,λ_ _=>none,λ_ _=>none⟩
theorem tE(cs:LC)(ns os:LB)(fs:Lo)(ls:Ll)(ks:Lk)(hvc:
 let c11:=az cs ns;let c1:=Df cs;let c2:=Eu c1 6;let c3:=(cs,ns,os,fs,ls,ks);let c4:=Ei c1 6;let c5:=[((1:Int),(6:Int),(2:Int))];let c6:=bD 1 6 c11 (bh cs);true/\(True->1=1/\0=0/\(∃x,let c7:=aS 1 c11 (bh cs) x;cV x (Df c11) 6/\(1:Int)=(1:Int)/\(6:Int)=(6:Int)/\cs=cs/\Value.slice none (0) (0)=Value.slice none (0) (0)/\1=1/\0=0/\0=0/\Dj c7=0/\c7=Dt (Int×Int×Int)/\c2=c2/\0=x/\c3=c3/\c3=c3/\cs=cs/\c7=Dt (Int×Int×Int)/\True)/\∀(x:Int),let c8:=Df c11;let c9:=aS 1 c11 (bh cs) x;let c10:=Dj c9;let c12:=x+1;let c13:=c10+Dj c5;let c14:=Ef c9 c5;cV x c8 6->(Dp x c2->1=1/\0=0/\(∃x_3,bY c11 (bh cs) x x_3/\(1:Int)=(1:Int)/\(6:Int)=(6:Int)/\cs=cs/\Value.slice none (0) (0)=Value.slice none (0) (0)/\1=1/\0=0/\0=0/\c10=c10/\x=x/\c2=c2/\x=x/\c3=c3/\c3=c3/\cs=cs/\0=x_3/\c3=c3/\c3=c3/\cs=cs/\c9=c9/\True)/\∀(x_3:Int),let c15:=Dp x_3 3;let c16:=Du [bF c11 x,rule2 c11 x,bN (bh cs) x] (Dc x_3) 0;let c17:=Ea c16 0;let c18:=[((1:Int),x,c16)];let c19:=c10+Dj c18;let c20:=x_3+1;bY c11 (bh cs) x x_3->(c15->0<=x_3/\x_3<Dx (3)/\(Dc x_3=0->idx x c1)/\(Dc x_3=1->qD x c1)/\(Dc x_3=2->idx x c1)/\(c17->c10=c10/\(c19*(24))<=(140737488355328)/\c19<=(9223372036854775807)/\inR .i64 c12/\∃y,let c21:=aS 1 c11 (bh cs) y;
 cV y c8 6/\((1:Int)=(1:Int)/\(6:Int)=(6:Int)/\cs=cs/\Value.slice none (0) (0)=Value.slice none (0) (0)/\1=1/\0=0/\0=0/\c19=Dj c21/\c2=c2/\c12=y/\c3=c3/\c3=c3/\cs=cs/\Ef c9 c18=c21/\True)/\Dc (6-y)<Dc (6-x))/\(c17=false->inR .i64 c20/\∃y,bY c11 (bh cs) x y/\((1:Int)=(1:Int)/\(6:Int)=(6:Int)/\cs=cs/\Value.slice none (0) (0)=Value.slice none (0) (0)/\1=1/\0=0/\0=0/\c10=c10/\x=x/\c2=c2/\x=x/\c3=c3/\c3=c3/\cs=cs/\c20=y/\c3=c3/\c3=c3/\cs=cs/\c9=c9/\True)/\Dc (3-y)<Dc (3-x_3)))/\(c15=false->inR .i64 c12/\∃y,let c22:=aS 1 c11 (bh cs) y;cV y c8 6/\((1:Int)=(1:Int)/\(6:Int)=(6:Int)/\cs=cs/\Value.slice none (0) (0)=Value.slice none (0) (0)/\1=1/\0=0/\0=0/\c10=Dj c22/\c2=c2/\c12=y/\c3=c3/\c3=c3/\cs=cs/\c9=c22/\True)/\Dc (6-y)<Dc (6-x)))/\(Dp x c2=false->(c4->c10=c10/\(c13*(24))<=(140737488355328)/\c13<=(9223372036854775807)/\Dj c14=c13/\c14=c6/\True)/\(c4=false->c10=c10/\c9=c6/\True)))):
  evF (mkc K6) (lvA [(4,[0,1,7,10,11,12,13,15,16,24,25,28,29]),(7,[0,1,7,10,11,12,13,15,16,24,25,28,29])] (CX 1 6 (az cs ns) (bh cs))) 187 [.dat I 1,.dat I 6,.dat (.sl C) cs,.fn 186 [.ip N (cs,ns,os,fs,ls,ks)],.fn 161 []] [] ⟨True,.dat (.sl Fa) (bD 1 6 (az cs ns) (bh cs)),[]⟩:=oE hvc
theorem sI(cs:LC)(ns os:LB)(fs:Lo)(ls:Ll)(ks:Lk)(hvc:
 let c9:=Df os;let c1:=Eu c9 6;let c2:=(cs,ns,os,fs,ls,ks);let c3:=Ei c9 6;let c4:=[((2:Int),(6:Int),(2:Int))];let c5:=bD 2 6 os (bT os);true/\(True->1=1/\0=0/\(∃x,let c6:=aS 2 os (bT os) x;cV x c9 6/\(2:Int)=(2:Int)/\(6:Int)=(6:Int)/\os=os/\Value.slice none (0) (0)=Value.slice none (0) (0)/\1=1/\0=0/\0=0/\Dj c6=0/\c6=Dt (Int×Int×Int)/\c1=c1/\0=x/\c2=c2/\c2=c2/\os=os/\c6=Dt (Int×Int×Int)/\True)/\∀(x:Int),let c7:=aS 2 os (bT os) x;let c8:=Dj c7;let c10:=x+1;let c11:=c8+Dj c4;let c12:=Ef c7 c4;cV x c9 6->(Dp x c1->1=1/\0=0/\(∃x_3,bY os (bT os) x x_3/\(2:Int)=(2:Int)/\(6:Int)=(6:Int)/\os=os/\Value.slice none (0) (0)=Value.slice none (0) (0)/\1=1/\0=0/\0=0/\c8=c8/\x=x/\c1=c1/\x=x/\c2=c2/\c2=c2/\os=os/\0=x_3/\c2=c2/\c2=c2/\os=os/\c7=c7/\True)/\∀(x_3:Int),let c13:=Dp x_3 3;let c14:=Du [bF os x,rule2 os x,bN (bT os) x] (Dc x_3) 0;let c15:=Ea c14 0;let c16:=[((2:Int),x,c14)];let c17:=c8+Dj c16;let c18:=x_3+1;bY os (bT os) x x_3->(c13->0<=x_3/\x_3<Dx (3)/\(Dc x_3=0->idx x c9)/\(Dc x_3=1->qD x c9)/\(Dc x_3=2->idx x c9)/\(c15->c8=c8/\(c17*(24))<=(140737488355328)/\c17<=(9223372036854775807)/\inR .i64 c10/\∃y,let c19:=aS 2 os (bT os) y;
 cV y c9 6/\((2:Int)=(2:Int)/\(6:Int)=(6:Int)/\os=os/\Value.slice none (0) (0)=Value.slice none (0) (0)/\1=1/\0=0/\0=0/\c17=Dj c19/\c1=c1/\c10=y/\c2=c2/\c2=c2/\os=os/\Ef c7 c16=c19/\True)/\Dc (6-y)<Dc (6-x))/\(c15=false->inR .i64 c18/\∃y,bY os (bT os) x y/\((2:Int)=(2:Int)/\(6:Int)=(6:Int)/\os=os/\Value.slice none (0) (0)=Value.slice none (0) (0)/\1=1/\0=0/\0=0/\c8=c8/\x=x/\c1=c1/\x=x/\c2=c2/\c2=c2/\os=os/\c18=y/\c2=c2/\c2=c2/\os=os/\c7=c7/\True)/\Dc (3-y)<Dc (3-x_3)))/\(c13=false->inR IntKind.i64 c10/\∃y,let c20:=aS 2 os (bT os) y;cV y c9 6/\((2:Int)=(2:Int)/\(6:Int)=(6:Int)/\os=os/\Value.slice none (0) (0)=Value.slice none (0) (0)/\1=1/\0=0/\0=0/\c8=Dj c20/\c1=c1/\c10=y/\c2=c2/\c2=c2/\os=os/\c7=c20/\True)/\Dc (6-y)<Dc (6-x)))/\(Dp x c1=false->(c3->c8=c8/\(c11*(24))<=(140737488355328)/\c11<=(9223372036854775807)/\Dj c12=c11/\c12=c5/\True)/\(c3=false->c8=c8/\c7=c5/\True)))):
  evF (mkc K6) (lvA [(4,[0,1,7,10,11,12,13,15,16,24,25,28,29]),(7,[0,1,7,10,11,12,13,15,16,24,25,28,29])] (CX 2 6 (os) (bT os))) 189 [.dat I 2,.dat I 6,.dat (.sl S) os,.fn 188 [.ip N (cs,ns,os,fs,ls,ks)],.fn 190 []] [] ⟨True,.dat (.sl Fa) (bD 2 6 (os) (bT os)),[]⟩:=oE hvc
theorem oX(cs:LC)(ns os:LB)(fs:Lo)(ls:Ll)(ks:Lk)(hvc:
 let c11:=Df (aD fs);let c1:=(cs,ns,os,fs,ls,ks);let c2:=cQ c1;let c3:=Df fs;let c4:=Eu c3 12;let c5:=Ei c3 12;let c6:=[((3:Int),(12:Int),(2:Int))];let c7:=bD 3 12 (aD fs) c2;true/\(True->1=1/\0=0/\(∃x,let c8:=aS 3 (aD fs) c2 x;cV x c11 12/\(3:Int)=(3:Int)/\(12:Int)=(12:Int)/\fs=fs/\Value.slice none (0) (0)=Value.slice none (0) (0)/\1=1/\0=0/\0=0/\Dj c8=0/\c8=Dt (Int×Int×Int)/\c4=c4/\0=x/\c1=c1/\c1=c1/\c1=c1/\fs=fs/\c8=Dt (Int×Int×Int)/\True)/\∀(x:Int),let c9:=aS 3 (aD fs) c2 x;let c10:=Dj c9;let c12:=x+1;let c13:=c10+Dj c6;let c14:=Ef c9 c6;cV x c11 12->(Dp x c4->1=1/\0=0/\(∃x_3,bY (aD fs) c2 x x_3/\(3:Int)=(3:Int)/\(12:Int)=(12:Int)/\fs=fs/\Value.slice none (0) (0)=Value.slice none (0) (0)/\1=1/\0=0/\0=0/\c10=c10/\x=x/\c4=c4/\x=x/\c1=c1/\c1=c1/\c1=c1/\fs=fs/\0=x_3/\c1=c1/\c1=c1/\c1=c1/\fs=fs/\c9=c9/\True)/\∀(x_3:Int),let c15:=Dp x_3 3;let c16:=Du [bF (aD fs) x,rule2 (aD fs) x,bN c2 x] (Dc x_3) 0;let c17:=Ea c16 0;let c18:=[((3:Int),x,c16)];let c19:=c10+Dj c18;let c20:=x_3+1;bY (aD fs) c2 x x_3->(c15->0<=x_3/\x_3<Dx (3)/\(Dc x_3=0->idx x c3)/\(Dc x_3=1->qD x c3)/\(Dc x_3=2->idx x c3/\fs=fs)/\(c17->c10=c10/\(c19*(24))<=(140737488355328)/\c19<=(9223372036854775807)/\inR .i64 c12/\∃y,let c21:=aS 3 (aD fs) c2 y;
 cV y c11 12/\((3:Int)=(3:Int)/\(12:Int)=(12:Int)/\fs=fs/\Value.slice none (0) (0)=Value.slice none (0) (0)/\1=1/\0=0/\0=0/\c19=Dj c21/\c4=c4/\c12=y/\c1=c1/\c1=c1/\c1=c1/\fs=fs/\Ef c9 c18=c21/\True)/\Dc (12-y)<Dc (12-x))/\(c17=false->inR .i64 c20/\∃y,bY (aD fs) c2 x y/\((3:Int)=(3:Int)/\(12:Int)=(12:Int)/\fs=fs/\Value.slice none (0) (0)=Value.slice none (0) (0)/\1=1/\0=0/\0=0/\c10=c10/\x=x/\c4=c4/\x=x/\c1=c1/\c1=c1/\c1=c1/\fs=fs/\c20=y/\c1=c1/\c1=c1/\c1=c1/\fs=fs/\c9=c9/\True)/\Dc (3-y)<Dc (3-x_3)))/\(c15=false->inR .i64 c12/\∃y,let c22:=aS 3 (aD fs) c2 y;cV y c11 12/\((3:Int)=(3:Int)/\(12:Int)=(12:Int)/\fs=fs/\Value.slice none (0) (0)=Value.slice none (0) (0)/\1=1/\0=0/\0=0/\c10=Dj c22/\c4=c4/\c12=y/\c1=c1/\c1=c1/\c1=c1/\fs=fs/\c9=c22/\True)/\Dc (12-y)<Dc (12-x)))/\(Dp x c4=false->(c5->c10=c10/\(c13*(24))<=(140737488355328)/\c13<=(9223372036854775807)/\Dj c14=c13/\c14=c7/\True)/\(c5=false->c10=c10/\c9=c7/\True)))):
  evF (mkc K6) (lvA [(4,[0,1,7,10,11,12,13,15,16,24,25,28,29]),(7,[0,1,7,10,11,12,13,15,16,24,25,28,29])] (CX 3 12 (aD fs) (cQ (cs,ns,os,fs,ls,ks)))) 192 [.dat I 3,.dat I 12,.dat (.sl Of) fs,.fn 191 [.ip N (cs,ns,os,fs,ls,ks)],.fn 193 [.ip N (cs,ns,os,fs,ls,ks)]] [] ⟨True,.dat (.sl Fa) (bD 3 12 (aD fs) (cQ (cs,ns,os,fs,ls,ks))),[]⟩:=oE hvc
theorem oT(cs:LC)(ns os:LB)(fs:Lo)(ls:Ll)(ks:Lk)(hvc:
 let c11:=Df (aE ls);let c1:=(cs,ns,os,fs,ls,ks);let c2:=cD c1;let c3:=Df ls;let c4:=Eu c3 40;let c5:=Ei c3 40;let c6:=[((4:Int),(40:Int),(2:Int))];let c7:=bD 4 40 (aE ls) c2;true/\(True->1=1/\0=0/\(∃x,let c8:=aS 4 (aE ls) c2 x;cV x c11 40/\(4:Int)=(4:Int)/\(40:Int)=(40:Int)/\ls=ls/\Value.slice none (0) (0)=Value.slice none (0) (0)/\1=1/\0=0/\0=0/\Dj c8=0/\c8=Dt (Int×Int×Int)/\c4=c4/\0=x/\c1=c1/\c1=c1/\c1=c1/\ls=ls/\c8=Dt (Int×Int×Int)/\True)/\∀(x:Int),let c9:=aS 4 (aE ls) c2 x;let c10:=Dj c9;let c12:=x+1;let c13:=c10+Dj c6;let c14:=Ef c9 c6;cV x c11 40->(Dp x c4->1=1/\0=0/\(∃x_3,bY (aE ls) c2 x x_3/\(4:Int)=(4:Int)/\(40:Int)=(40:Int)/\ls=ls/\Value.slice none (0) (0)=Value.slice none (0) (0)/\1=1/\0=0/\0=0/\c10=c10/\x=x/\c4=c4/\x=x/\c1=c1/\c1=c1/\c1=c1/\ls=ls/\0=x_3/\c1=c1/\c1=c1/\c1=c1/\ls=ls/\c9=c9/\True)/\∀(x_3:Int),let c15:=Dp x_3 3;let c16:=Du [bF (aE ls) x,rule2 (aE ls) x,bN c2 x] (Dc x_3) 0;let c17:=Ea c16 0;let c18:=[((4:Int),x,c16)];let c19:=c10+Dj c18;let c20:=x_3+1;bY (aE ls) c2 x x_3->(c15->0<=x_3/\x_3<Dx (3)/\(Dc x_3=0->idx x c3)/\(Dc x_3=1->qD x c3)/\(Dc x_3=2->idx x c3/\ls=ls)/\(c17->c10=c10/\(c19*(24))<=(140737488355328)/\c19<=(9223372036854775807)/\inR .i64 c12/\∃y,let c21:=aS 4 (aE ls) c2 y;
 cV y c11 40/\((4:Int)=(4:Int)/\(40:Int)=(40:Int)/\ls=ls/\Value.slice none (0) (0)=Value.slice none (0) (0)/\1=1/\0=0/\0=0/\c19=Dj c21/\c4=c4/\c12=y/\c1=c1/\c1=c1/\c1=c1/\ls=ls/\Ef c9 c18=c21/\True)/\Dc (40-y)<Dc (40-x))/\(c17=false->inR .i64 c20/\∃y,bY (aE ls) c2 x y/\((4:Int)=(4:Int)/\(40:Int)=(40:Int)/\ls=ls/\Value.slice none (0) (0)=Value.slice none (0) (0)/\1=1/\0=0/\0=0/\c10=c10/\x=x/\c4=c4/\x=x/\c1=c1/\c1=c1/\c1=c1/\ls=ls/\c20=y/\c1=c1/\c1=c1/\c1=c1/\ls=ls/\c9=c9/\True)/\Dc (3-y)<Dc (3-x_3)))/\(c15=false->inR .i64 c12/\∃y,let c22:=aS 4 (aE ls) c2 y;cV y c11 40/\((4:Int)=(4:Int)/\(40:Int)=(40:Int)/\ls=ls/\Value.slice none (0) (0)=Value.slice none (0) (0)/\1=1/\0=0/\0=0/\c10=Dj c22/\c4=c4/\c12=y/\c1=c1/\c1=c1/\c1=c1/\ls=ls/\c9=c22/\True)/\Dc (40-y)<Dc (40-x)))/\(Dp x c4=false->(c5->c10=c10/\(c13*(24))<=(140737488355328)/\c13<=(9223372036854775807)/\Dj c14=c13/\c14=c7/\True)/\(c5=false->c10=c10/\c9=c7/\True)))):
  evF (mkc K6) (lvA [(4,[0,1,7,10,11,12,13,15,16,24,25,28,29]),(7,[0,1,7,10,11,12,13,15,16,24,25,28,29])] (CX 4 40 (aE ls) (cD (cs,ns,os,fs,ls,ks)))) 196 [.dat I 4,.dat I 40,.dat (.sl Ln) ls,.fn 195 [.ip N (cs,ns,os,fs,ls,ks)],.fn 197 [.ip N (cs,ns,os,fs,ls,ks)]] [] ⟨True,.dat (.sl Fa) (bD 4 40 (aE ls) (cD (cs,ns,os,fs,ls,ks))),[]⟩:=oE hvc
theorem oF(cs:LC)(ns os:LB)(fs:Lo)(ls:Ll)(ks:Lk)(hvc:
 let c10:=Df (aF ks);let c1:=Df ks;let c2:=Eu c1 4;let c3:=(cs,ns,os,fs,ls,ks);let c4:=Ei c1 4;let c5:=[((5:Int),(4:Int),(2:Int))];let c6:=bD 5 4 (aF ks) (bv ks);true/\(True->1=1/\0=0/\(∃x,let c7:=aS 5 (aF ks) (bv ks) x;cV x c10 4/\(5:Int)=(5:Int)/\(4:Int)=(4:Int)/\ks=ks/\Value.slice none (0) (0)=Value.slice none (0) (0)/\1=1/\0=0/\0=0/\Dj c7=0/\c7=Dt (Int×Int×Int)/\c2=c2/\0=x/\c3=c3/\c3=c3/\ks=ks/\c7=Dt (Int×Int×Int)/\True)/\∀(x:Int),let c8:=aS 5 (aF ks) (bv ks) x;let c9:=Dj c8;let c11:=x+1;let c12:=c9+Dj c5;let c13:=Ef c8 c5;cV x c10 4->(Dp x c2->1=1/\0=0/\(∃x_3,bY (aF ks) (bv ks) x x_3/\(5:Int)=(5:Int)/\(4:Int)=(4:Int)/\ks=ks/\Value.slice none (0) (0)=Value.slice none (0) (0)/\1=1/\0=0/\0=0/\c9=c9/\x=x/\c2=c2/\x=x/\c3=c3/\c3=c3/\ks=ks/\0=x_3/\c3=c3/\c3=c3/\ks=ks/\c8=c8/\True)/\∀(x_3:Int),let c14:=Dp x_3 3;let c15:=Du [bF (aF ks) x,rule2 (aF ks) x,bN (bv ks) x] (Dc x_3) 0;let c16:=Ea c15 0;let c17:=[((5:Int),x,c15)];let c18:=c9+Dj c17;let c19:=x_3+1;bY (aF ks) (bv ks) x x_3->(c14->0<=x_3/\x_3<Dx (3)/\(Dc x_3=0->idx x c1)/\(Dc x_3=1->qD x c1)/\(Dc x_3=2->idx x c1)/\(c16->c9=c9/\(c18*(24))<=(140737488355328)/\c18<=(9223372036854775807)/\inR .i64 c11/\∃y,let c20:=aS 5 (aF ks) (bv ks) y;
 cV y c10 4/\((5:Int)=(5:Int)/\(4:Int)=(4:Int)/\ks=ks/\Value.slice none (0) (0)=Value.slice none (0) (0)/\1=1/\0=0/\0=0/\c18=Dj c20/\c2=c2/\c11=y/\c3=c3/\c3=c3/\ks=ks/\Ef c8 c17=c20/\True)/\Dc (4-y)<Dc (4-x))/\(c16=false->inR .i64 c19/\∃y,bY (aF ks) (bv ks) x y/\((5:Int)=(5:Int)/\(4:Int)=(4:Int)/\ks=ks/\Value.slice none (0) (0)=Value.slice none (0) (0)/\1=1/\0=0/\0=0/\c9=c9/\x=x/\c2=c2/\x=x/\c3=c3/\c3=c3/\ks=ks/\c19=y/\c3=c3/\c3=c3/\ks=ks/\c8=c8/\True)/\Dc (3-y)<Dc (3-x_3)))/\(c14=false->inR .i64 c11/\∃y,let c21:=aS 5 (aF ks) (bv ks) y;cV y c10 4/\((5:Int)=(5:Int)/\(4:Int)=(4:Int)/\ks=ks/\Value.slice none (0) (0)=Value.slice none (0) (0)/\1=1/\0=0/\0=0/\c9=Dj c21/\c2=c2/\c11=y/\c3=c3/\c3=c3/\ks=ks/\c8=c21/\True)/\Dc (4-y)<Dc (4-x)))/\(Dp x c2=false->(c4->c9=c9/\(c12*(24))<=(140737488355328)/\c12<=(9223372036854775807)/\Dj c13=c12/\c13=c6/\True)/\(c4=false->c9=c9/\c8=c6/\True)))):
  evF (mkc K6) (lvA [(4,[0,1,7,10,11,12,13,15,16,24,25,28,29]),(7,[0,1,7,10,11,12,13,15,16,24,25,28,29])] (CX 5 4 (aF ks) (bv ks))) 200 [.dat I 5,.dat I 4,.dat (.sl Kl) ks,.fn 199 [.ip N (cs,ns,os,fs,ls,ks)],.fn 201 []] [] ⟨True,.dat (.sl Fa) (bD 5 4 (aF ks) (bv ks)),[]⟩:=oE hvc
def K7: Kt:=
 kOr 187 (ay [.val I,.val I,.val (.sl C),.fn 186 N,.fn0 161] (λ(k,m,xs,(cs,ns,os,fs,ls,ks),_,_)=>k=1/\m=6/\xs=cs) λ(_,_,_,(cs,ns,os,fs,ls,ks),_,_)=>.dat (.sl Fa) (bD 1 6 (az cs ns) (bh cs))) <|
 kOr 189 (ay [.val I,.val I,.val (.sl S),.fn 188 N,.fn0 190] (λ(k,m,xs,(cs,ns,os,fs,ls,ks),_,_)=>k=2/\m=6/\xs=os) λ(_,_,_,(cs,ns,os,fs,ls,ks),_,_)=>.dat (.sl Fa) (bD 2 6 (os) (bT os))) <|
 kOr 192 (ay [.val I,.val I,.val (.sl Of),.fn 191 N,.fn 193 N] (λ(k,m,xs,(cs,ns,os,fs,ls,ks),n2,_)=>k=3/\m=12/\xs=fs/\n2=(cs,ns,os,fs,ls,ks)) λ(_,_,_,(cs,ns,os,fs,ls,ks),_,_)=>.dat (.sl Fa) (bD 3 12 (aD fs) (cQ (cs,ns,os,fs,ls,ks)))) <|
 kOr 196 (ay [.val I,.val I,.val (.sl Ln),.fn 195 N,.fn 197 N] (λ(k,m,xs,(cs,ns,os,fs,ls,ks),n2,_)=>k=4/\m=40/\xs=ls/\n2=(cs,ns,os,fs,ls,ks)) λ(_,_,_,(cs,ns,os,fs,ls,ks),_,_)=>.dat (.sl Fa) (bD 4 40 (aE ls) (cD (cs,ns,os,fs,ls,ks)))) <|
 kOr 200 (ay [.val I,.val I,.val (.sl Kl),.fn 199 N,.fn0 201] (λ(k,m,xs,(cs,ns,os,fs,ls,ks),_,_)=>k=5/\m=4/\xs=ks) λ(_,_,_,(cs,ns,os,fs,ls,ks),_,_)=>.dat (.sl Fa) (bD 5 4 (aF ks) (bv ks))) <|
 K6
theorem KU(cs:LC)(ns os:LB)(fs:Lo)(ls:Ll)(ks:Lk)(hvc:
 let c37:=(5:Int)=(5:Int)/\(4:Int)=(4:Int)/\ks=ks;let c36:=(2:Int)=(2:Int)/\(6:Int)=(6:Int)/\os=os;let c35:=(1:Int)=(1:Int)/\(6:Int)=(6:Int)/\cs=cs;let c1:=Ea (Df ns) (Df cs);let c2:=[((1:Int),(-1:Int),(1:Int))];let c3:=Dj c2;let c4:=bD 1 6 (az cs ns) (bh cs);let c5:=Dj c4;let c6:=c3+c5;let c7:=Ef c2 c4;let c8:=bD 2 6 os (bT os);let c9:=Dj c8;let c10:=c6+c9;let c11:=(cs,ns,os,fs,ls,ks);let c34:=(4:Int)=(4:Int)/\(40:Int)=(40:Int)/\ls=ls/\c11=c11;let c33:=(3:Int)=(3:Int)/\(12:Int)=(12:Int)/\fs=fs/\c11=c11;let c12:=Ef c7 c8;let c13:=bD 3 12 (aD fs) (cQ c11);let c14:=Dj c13;let c15:=c10+c14;let c16:=Ef c12 c13;let c17:=bD 4 40 (aE ls) (cD c11);let c18:=Dj c17;let c19:=c15+c18;let c20:=Ef c16 c17;let c21:=bD 5 4 (aF ks) (bv ks);let c22:=Dj c21;let c23:=c19+c22;let c24:=fe c11;let c25:=Dj c24;let c26:=c5+c9;let c27:=Ef c4 c8;let c28:=c26+c14;let c29:=Ef c27 c13;let c30:=c28+c18;let c31:=Ef c29 c17;let c32:=c30+c22;
 true/\(True->(c1->(c3*(24))<=(140737488355328)/\c3<=(9223372036854775807)/\c35/\c3=c3/\(c6*(24))<=(140737488355328)/\c6<=(9223372036854775807)/\c36/\Dj c7=c6/\(c10*(24))<=(140737488355328)/\c10<=(9223372036854775807)/\c33/\Dj c12=c10/\(c15*(24))<=(140737488355328)/\c15<=(9223372036854775807)/\c34/\Dj c16=c15/\(c19*(24))<=(140737488355328)/\c19<=(9223372036854775807)/\c37/\Dj c20=c19/\(c23*(24))<=(140737488355328)/\c23<=(9223372036854775807)/\c23=c25/\Ef c20 c21=c24/\True)/\(c1=false->c35/\(c5*(24))<=(140737488355328)/\c5<=(9223372036854775807)/\c36/\c5=c5/\(c26*(24))<=(140737488355328)/\c26<=(9223372036854775807)/\c33/\Dj c27=c26/\(c28*(24))<=(140737488355328)/\c28<=(9223372036854775807)/\c34/\Dj c29=c28/\(c30*(24))<=(140737488355328)/\c30<=(9223372036854775807)/\c37/\Dj c31=c30/\(c32*(24))<=(140737488355328)/\c32<=(9223372036854775807)/\c32=c25/\Ef c31 c21=c24/\True))):
  evF (mkc K7) aA 129 [net cs ns os fs ls ks] [] ⟨True,.buf 0 (Dj (fe (cs,ns,os,fs,ls,ks))),[(0,.buf 177 Fa (fe (cs,ns,os,fs,ls,ks)) [])]⟩:=oE hvc
theorem Xw(i:Int)(xs:List Of.den): af Tryz.prog G0 252 [.dat I i,.dat (.sl Of) xs] [] ⟨True,.dat .bool (dO i (Df xs)),[]⟩:=by
 refine ae (c:=mkc K2) KS2 aL hm (QQ i xs ⟨rfl,λ_=>?_⟩)
 simp only[qc,Dk,dO,Ed,Dp,mj,kV]
theorem aAp(i:Int)(xs:List S.den): af Tryz.prog G0 245 [.dat I i,.dat (.sl S) xs] [] ⟨True,.dat .bool (dO i (Df xs)),[]⟩:=by
 refine ae (c:=mkc K2) KS2 aL hm (WC i xs ⟨rfl,λ_=>?_⟩)
 simp only[qc,Dk,dO,Ed,Dp,mj,kV]
theorem aAq(i:Int)(xs:List C.den): af Tryz.prog G0 246 [.dat I i,.dat (.sl C) xs] [] ⟨True,.dat .bool (dO i (Df xs)),[]⟩:=by
 refine ae (c:=mkc K2) KS2 aL hm (WE i xs ⟨rfl,λ_=>?_⟩)
 simp only[qc,Dk,dO,Ed,Dp,mj,kV]
theorem KS3: al Tryz.prog G0 K3:=
 aj (ag λ(i,xs,_)=>Xw i xs)<|aj (ag λ(i,xs,_)=>aAp i xs)<|aj (ag λ(i,xs,_)=>aAq i xs) KS2
theorem CQ(l:List ByteArray): ky l 0:=⟨qM _,vC _,by simp⟩
theorem CS{l:List ByteArray}{x:Int}(h:ky l x)(hx:x<l.length)(hp:dd (l.getD x.toNat ⟨#[]⟩)=true): ky l (x+1):=by
 obtain⟨h0,h1,h2⟩:=h;refine⟨by omega,by omega,?_⟩
 rw[show(x+1).toNat=x.toNat+1 by omega]
 exact ik (d:=⟨#[]⟩) h2 (by omega) hp
theorem OM{l:List ByteArray}{x:Int}(h:ky l x)(hx:x<l.length)(hp:dd (l.getD x.toNat ⟨#[]⟩)=false): l.all dd=false:=
 pU (d:=⟨#[]⟩) (k:=x.toNat) (by have:=h.1;omega) hp
theorem F3{l:List ByteArray}{x:Int}(h:ky l x)(hx:¬x<l.length): l.all dd=true:=by
 obtain⟨h0,h1,h2⟩:=h
 rwa [qO (by omega)]at h2
theorem AA(cs:LC)(ns os:LB)(fs:Lo)(ls:Ll)(ks:Lk)(e1:ByteArray)(e2 e3 e4 e5 e6:Int)(e7:List ByteArray): af Tryz.prog G0 194 [net cs ns os fs ls ks,.agg [.dat .str e1,.dat (.int .i64) e2,.dat (.int .i64) e3,.dat (.int .i64) e4,.dat (.int .i64) e5,.dat (.int .i64) e6,.dat (.sl .str) e7]] [] ⟨True,.dat .bool (cT (cs,ns,os,fs,ls,ks) (e1,e2,e3,e4,e5,e6,e7)),[]⟩:=by
 refine ae (c:=mkc K3) KS3 aL hm (xn cs ns os fs ls ks e1 e2 e3 e4 e5 e6 e7 ⟨rfl,λ_=>?_⟩)
 simp only[qc,Dk,Di,qd,Dp,Ei,Df,Dc,Du];refine⟨λh=>?_,λ⟨⟨h1,h2⟩,h3⟩=>⟨CQ e7,λx hx=>⟨λhlt=>⟨hx.1,hlt,λhb=>?_,λhg=>⟨⟨by have:=hx.1;omega,by omega⟩,x+1,CS hx hlt hg,rfl,by have:=hx.1;omega⟩⟩,λhge=>?_⟩⟩⟩
 .unfold cT;rcases h with(h | h) | h
  .rw[show dO _ _=false from h];rfl
  .rw[show dO e3 _=false from h];simp
  .have:decide (e7.length<=20)=false:=vK (by omega)
   simp[this]
 .have:=OM hx hlt hb;simp[cT,this]
 .have h4:=F3 hx hge;have h5:decide (e7.length<=20)=true:=qW (by omega)
  have h1':dO e2 (os.length:Int)=true:=h1;have h2':dO e3 (cs.length:Int)=true:=h2;simp only[cT,h1',h2',h4,h5,zQ]
theorem IU(cs:LC)(ns os:LB)(fs:Lo)(ls:Ll)(ks:Lk)(e1:ByteArray)(e2 e3 e4 e5 e6:Int): af Tryz.prog G0 198 [net cs ns os fs ls ks,.agg [.dat .str e1,.dat (.int .i64) e2,.dat (.int .i64) e3,.dat (.int .i64) e4,.dat (.int .i64) e5,.dat (.int .i64) e6]] [] ⟨True,.dat .bool (di (cs,ns,os,fs,ls,ks) (e1,e2,e3,e4,e5,e6)),[]⟩:=by
 refine ae (c:=mkc K3) KS3 aL hm (DW cs ns os fs ls ks e1 e2 e3 e4 e5 e6 ⟨rfl,λ_=>?_⟩)
 simp only[qc,Dk,Di,qd,Dy,Df];refine⟨λh=>?_,λ⟨⟨h1,h2⟩,h3⟩=>?_⟩
 .unfold di;rcases h with(h | h) | h
  .rw[show dO _ _=false from h];rfl
  .rw[show dO e3 _=false from h];simp
  .simp[h]
 .have h1':dO e2 (fs.length:Int)=true:=h1;have h2':dO e3 (fs.length:Int)=true:=h2;have h3':decide (e2≠e3)=true:=qW h3;simp only[di,h1',h2',h3',zQ]
theorem KS4: al Tryz.prog G0 K4:=
 aj (ag λ((cs,ns,os,fs,ls,ks),(e1,e2,e3,e4,e5,e6,e7),_)=>AA cs ns os fs ls ks e1 e2 e3 e4 e5 e6 e7)<|aj (ag λ((cs,ns,os,fs,ls,ks),(e1,e2,e3,e4,e5,e6),_)=>IU cs ns os fs ls ks e1 e2 e3 e4 e5 e6) KS3
theorem km{α β:Type}(f:α->β)(l:List α)(i:Nat)(d:α)(e:β)(hi:i<l.length): (l.map f).getD i e=f (l.getD i d):=by
 simp only[qA,qP,qB hi,zU,qR]
theorem uw{cs:List (Int×List Bool×Li)}{ns:List ByteArray}{i:Int}(h0:0<=i)(h1:i<cs.length): gy (az cs ns) i=ns.getD i.toNat ⟨#[]⟩:=by
 unfold gy az;rw[km (λi=>ns.getD i ⟨#[]⟩) _ _ 0 _ (by rw[wG];omega)]
 show ns.getD ((List.range cs.length).getD i.toNat 0) _=_;rw[show(List.range cs.length).getD i.toNat 0=i.toNat by rw[qA,wJ (by omega)];rfl]
theorem Jc{α:Type}{f:α->ByteArray}{l:List α}{i:Int}(d:α)(h0:0<=i)(h1:i<l.length): gy (l.map f) i=f (l.getD i.toNat d):=km _ _ _ _ _ (by omega)
theorem aDn(i:Int)(cs:LC)(ns os:LB)(fs:Lo)(ls:Ll)(ks:Lk): af Tryz.prog G0 186 [.dat I i,.ip N (cs,ns,os,fs,ls,ks)] [] ⟨idx i (Df cs),.dat S (gy (az cs ns) i),[]⟩:=by
 refine ae (c:=mkc K4) KS4 aL hm (gD i cs ns os fs ls ks ⟨rfl,λ⟨h0,h1⟩=>?_⟩)
 have h0:0<=i:=h0;have h1:i<(cs.length:Int):=h1;simp only[qc,qd,Dp,Df,Dc,Du,uw h0 h1];refine⟨λh=>⟨h0,h⟩,λh=>?_⟩
 rw[qA,zG (by omega)];rfl
theorem aDm(i:Int)(cs:LC)(ns os:LB)(fs:Lo)(ls:Ll)(ks:Lk): af Tryz.prog G0 188 [.dat I i,.ip N (cs,ns,os,fs,ls,ks)] [] ⟨idx i (Df os),.dat S (gy os i),[]⟩:=by
 refine ae (c:=mkc K4) KS4 aL hm (fT i cs ns os fs ls ks ⟨rfl,λ⟨h0,h1⟩=>?_⟩)
 simp only[qc,Df,Dc,Du];exact⟨h0,h1,rfl⟩
theorem aDA(e1:ByteArray): af Tryz.prog G0 190 [.agg [.dat .str e1]] [] ⟨True,.dat .bool true,[]⟩:=
 ae (c:=mkc K4) KS4 aL hm (oA e1 ⟨rfl,λ_=>⟨rfl,trivial⟩⟩)
theorem aDl(i:Int)(cs:LC)(ns os:LB)(fs:Lo)(ls:Ll)(ks:Lk): af Tryz.prog G0 191 [.dat I i,.ip N (cs,ns,os,fs,ls,ks)] [] ⟨idx i (Df fs),.dat S (gy (aD fs) i),[]⟩:=by
 refine ae (c:=mkc K4) KS4 aL hm (fI i cs ns os fs ls ks ⟨rfl,λ⟨h0,h1⟩=>?_⟩)
 simp only[qc,Dt,Df,Dc,Du];exact⟨h0,h1,(Jc _ h0 h1).symm⟩
theorem aDz(cs:LC)(ns os:LB)(fs:Lo)(ls:Ll)(ks:Lk)(e1:ByteArray)(e2 e3 e4 e5 e6:Int)(e7:List ByteArray): af Tryz.prog G0 193 [.agg [.dat .str e1,.dat (.int .i64) e2,.dat (.int .i64) e3,.dat (.int .i64) e4,.dat (.int .i64) e5,.dat (.int .i64) e6,.dat (.sl .str) e7],.ip N (cs,ns,os,fs,ls,ks)] [] ⟨True,.dat .bool (cT (cs,ns,os,fs,ls,ks) (e1,e2,e3,e4,e5,e6,e7)),[]⟩:=
 ae (c:=mkc K4) KS4 aL hm (kI cs ns os fs ls ks e1 e2 e3 e4 e5 e6 e7 ⟨rfl,λ_=>by simp only[qc]⟩)
theorem aDk(i:Int)(cs:LC)(ns os:LB)(fs:Lo)(ls:Ll)(ks:Lk): af Tryz.prog G0 195 [.dat I i,.ip N (cs,ns,os,fs,ls,ks)] [] ⟨idx i (Df ls),.dat S (gy (aE ls) i),[]⟩:=by
 refine ae (c:=mkc K4) KS4 aL hm (Z9 i cs ns os fs ls ks ⟨rfl,λ⟨h0,h1⟩=>?_⟩)
 simp only[qc,Df,Dc,Du];exact⟨h0,h1,(Jc _ h0 h1).symm⟩
theorem aDy(cs:LC)(ns os:LB)(fs:Lo)(ls:Ll)(ks:Lk)(e1:ByteArray)(e2 e3 e4 e5 e6:Int): af Tryz.prog G0 197 [.agg [.dat .str e1,.dat (.int .i64) e2,.dat (.int .i64) e3,.dat (.int .i64) e4,.dat (.int .i64) e5,.dat (.int .i64) e6],.ip N (cs,ns,os,fs,ls,ks)] [] ⟨True,.dat .bool (di (cs,ns,os,fs,ls,ks) (e1,e2,e3,e4,e5,e6)),[]⟩:=
 ae (c:=mkc K4) KS4 aL hm (iX cs ns os fs ls ks e1 e2 e3 e4 e5 e6 ⟨rfl,λ_=>by simp only[qc]⟩)
theorem aDj(i:Int)(cs:LC)(ns os:LB)(fs:Lo)(ls:Ll)(ks:Lk): af Tryz.prog G0 199 [.dat I i,.ip N (cs,ns,os,fs,ls,ks)] [] ⟨idx i (Df ks),.dat S (gy (aF ks) i),[]⟩:=by
 refine ae (c:=mkc K4) KS4 aL hm (Z8 i cs ns os fs ls ks ⟨rfl,λ⟨h0,h1⟩=>?_⟩)
 simp only[qc,Df,Dc,Du];exact⟨h0,h1,(Jc _ h0 h1).symm⟩
theorem aDx(e1:ByteArray)(e2 e3:Int): af Tryz.prog G0 201 [.agg [.dat .str e1,.dat (.int .i64) e2,.dat (.int .i64) e3]] [] ⟨True,.dat .bool (gA (e1,e2,e3)),[]⟩:=
 ae (c:=mkc K4) KS4 aL hm (iB e1 e2 e3 ⟨rfl,λ_=>by simp only[qc,Dk,gA]⟩)
theorem KS5: al Tryz.prog G0 K5:=
 aj (ag λ(i,(cs,ns,os,fs,ls,ks),_)=>aDn i cs ns os fs ls ks)<|aj (ag λ(i,(cs,ns,os,fs,ls,ks),_)=>aDm i cs ns os fs ls ks)<|aj (ag λ(e1,_)=>aDA e1)<|aj (ag λ(i,(cs,ns,os,fs,ls,ks),_)=>aDl i cs ns os fs ls ks) <|
 aj (ag λ((e1,e2,e3,e4,e5,e6,e7),(cs,ns,os,fs,ls,ks),_)=>aDz cs ns os fs ls ks e1 e2 e3 e4 e5 e6 e7)<|aj (ag λ(i,(cs,ns,os,fs,ls,ks),_)=>aDk i cs ns os fs ls ks)<|aj (ag λ((e1,e2,e3,e4,e5,e6),(cs,ns,os,fs,ls,ks),_)=>aDy cs ns os fs ls ks e1 e2 e3 e4 e5 e6) <|
 aj (ag λ(i,(cs,ns,os,fs,ls,ks),_)=>aDj i cs ns os fs ls ks)<|aj (ag λ((e1,e2,e3),_)=>aDx e1 e2 e3) KS4
theorem lE{l:List ByteArray}{i:Int}(h:0<=i): uL l i 0:=⟨qM _,h,by simp⟩
theorem lF{l:List ByteArray}{i x:Int}(h:uL l i x)(hx:x<i)(hi:i<l.length)(hp:(gy l x).toList≠(gy l i).toList): uL l i (x+1):=by
 obtain⟨h0,h1,h2⟩:=h;refine⟨by omega,by omega,?_⟩
 rw[show(x+1).toNat=x.toNat+1 by omega]
 exact xh (d:=⟨#[]⟩) h2 (by omega) (by simpa[gy]using hp)
theorem Lq{l:List ByteArray}{i x:Int}(h:uL l i x)(hx:x<i)(hi:i<l.length)(hp:(gy l x).toList=(gy l i).toList): 4=rule2 l i:=by
 unfold rule2;have hx0:=h.1;rw[if_pos];have hlt:x.toNat<(l.take i.toNat).length:=by rw[qI];omega
 refine VO (d:=⟨#[]⟩) (k:=x.toNat) hlt ?_;have:(l.take i.toNat).getD x.toNat ⟨#[]⟩=gy l x:=by
  unfold gy;simp only[qA];rw[vM,if_pos (by omega)]
 rw[this];simpa using hp
theorem nR{l:List ByteArray}{i x:Int}(h:uL l i x)(hx:¬x<i): 0=rule2 l i:=by
 obtain⟨h0,h1,h2⟩:=h;have:x=i:=by omega
 subst this;unfold rule2;rw[h2];rfl
theorem oh{α:Type}{g:α->Bool}{l:List α}{i:Int}(d:α)(h0:0<=i)(h1:i<l.length): bN (l.map g) i=if g (l.getD i.toNat d)then 0 else 1:=by
 unfold bN;rw[km g l _ d _ (by omega)]
theorem fJ(cs:List (Int×List Bool×Li))(ns:List ByteArray): (az cs ns).length=cs.length:=by simp[az]
theorem map_length{α β:Type}(f:α->β)(l:List α): (l.map f).length=l.length:=vY f
theorem aDg(i:Int)(cs:LC)(ns os:LB)(fs:Lo)(ls:Ll)(ks:Lk): af Tryz.prog G0 235 [.dat I i,.ipv (.fn 186 [.ip N (cs,ns,os,fs,ls,ks)])] [] ⟨idx i (Df cs),.dat I (bF (az cs ns) i),[]⟩:=by
 refine ae (c:=mkc K5) KS5 aL hm (Z5 i cs ns os fs ls ks ⟨rfl,λhp=>?_⟩)
 simp only[qc,Di,Df];exact⟨hp,λh=>by simp[bF,h],λh=>by simp[bF,h]⟩
theorem aDb(i:Int)(cs:LC)(ns os:LB)(fs:Lo)(ls:Ll)(ks:Lk): af Tryz.prog G0 237 [.dat I i,.ipv (.fn 186 [.ip N (cs,ns,os,fs,ls,ks)])] [] ⟨qD i (Df cs),.dat I (rule2 (az cs ns) i),[]⟩:=by
 refine ae (c:=mkc K5) KS5 aL hm (ZZ i cs ns os fs ls ks ⟨rfl,λhp=>?_⟩)
 have h0:0<=i:=hp.1;have h1:i<(cs.length:Int):=hp.2.1;have h2:i<=1000:=hp.2.2;have hl:((az cs ns).length:Int)=cs.length:=yD _ (fJ cs ns);simp only[qc,qd,Dp,Df,Dc]
 exact⟨lE h0,λx hx=>⟨λhlt=>⟨⟨hx.1,by omega⟩,⟨h0,h1⟩,λhe=>Lq hx hlt (by omega) he,λhne=>⟨⟨by have:=hx.1;omega,by omega⟩,x+1,lF hx hlt (by omega) hne,rfl,by have:=hx.1;omega⟩⟩,λhge=>nR hx hge⟩⟩
theorem aC6(i:Int)(cs:LC)(ns os:LB)(fs:Lo)(ls:Ll)(ks:Lk): af Tryz.prog G0 238 [.dat I i,.ipv (.fn 161 []),.ip (.sl C) cs] [] ⟨idx i (Df cs),.dat I (bN (bh cs) i),[]⟩:=by
 refine ae (c:=mkc K5) KS5 aL hm (ZU i cs ns os fs ls ks ⟨rfl,λhp=>?_⟩)
 have h0:0<=i:=hp.1;have h1:i<(cs.length:Int):=hp.2;simp only[qc,Di,Dt,Df,Dc,Du];rw[show bN (bh cs) i=_ from oh _ h0 h1]
 exact⟨h0,h1,λh=>by rw[if_neg (by intro g;rw[show _=false from h]at g;cases g)],λh=>by rw[if_pos h]⟩
theorem aDf(i:Int)(cs:LC)(ns os:LB)(fs:Lo)(ls:Ll)(ks:Lk): af Tryz.prog G0 239 [.dat I i,.ipv (.fn 188 [.ip N (cs,ns,os,fs,ls,ks)])] [] ⟨idx i (Df os),.dat I (bF (os) i),[]⟩:=by
 refine ae (c:=mkc K5) KS5 aL hm (Z4 i cs ns os fs ls ks ⟨rfl,λhp=>?_⟩)
 simp only[qc,Di,Df];exact⟨hp,λh=>by simp[bF,h],λh=>by simp[bF,h]⟩
theorem aDa(i:Int)(cs:LC)(ns os:LB)(fs:Lo)(ls:Ll)(ks:Lk): af Tryz.prog G0 240 [.dat I i,.ipv (.fn 188 [.ip N (cs,ns,os,fs,ls,ks)])] [] ⟨qD i (Df os),.dat I (rule2 (os) i),[]⟩:=by
 refine ae (c:=mkc K5) KS5 aL hm (ZY i cs ns os fs ls ks ⟨rfl,λhp=>?_⟩)
 have h0:0<=i:=hp.1;have h1:i<(os.length:Int):=hp.2.1;have h2:i<=1000:=hp.2.2;have hl:((os).length:Int)=os.length:=yD _ (rfl);simp only[qc,qd,Dp,Df,Dc]
 exact⟨lE h0,λx hx=>⟨λhlt=>⟨⟨hx.1,by omega⟩,⟨h0,h1⟩,λhe=>Lq hx hlt (by omega) he,λhne=>⟨⟨by have:=hx.1;omega,by omega⟩,x+1,lF hx hlt (by omega) hne,rfl,by have:=hx.1;omega⟩⟩,λhge=>nR hx hge⟩⟩
theorem aC5(i:Int)(cs:LC)(ns os:LB)(fs:Lo)(ls:Ll)(ks:Lk): af Tryz.prog G0 241 [.dat I i,.ipv (.fn 190 []),.ip (.sl S) os] [] ⟨idx i (Df os),.dat I (bN (bT os) i),[]⟩:=by
 refine ae (c:=mkc K5) KS5 aL hm (ZT i cs ns os fs ls ks ⟨rfl,λhp=>?_⟩)
 have h0:0<=i:=hp.1;have h1:i<(os.length:Int):=hp.2;simp only[qc,Di,Df];rw[show bN (bT os) i=_ from oh ⟨#[]⟩ h0 h1]
 exact⟨h0,h1,(λh=>by cases h),rfl⟩
theorem aDe(i:Int)(cs:LC)(ns os:LB)(fs:Lo)(ls:Ll)(ks:Lk): af Tryz.prog G0 242 [.dat I i,.ipv (.fn 191 [.ip N (cs,ns,os,fs,ls,ks)])] [] ⟨idx i (Df fs),.dat I (bF (aD fs) i),[]⟩:=by
 refine ae (c:=mkc K5) KS5 aL hm (Z3 i cs ns os fs ls ks ⟨rfl,λhp=>?_⟩)
 simp only[qc,Di,Df];exact⟨hp,λh=>by simp[bF,h],λh=>by simp[bF,h]⟩
theorem aC9(i:Int)(cs:LC)(ns os:LB)(fs:Lo)(ls:Ll)(ks:Lk): af Tryz.prog G0 243 [.dat I i,.ipv (.fn 191 [.ip N (cs,ns,os,fs,ls,ks)])] [] ⟨qD i (Df fs),.dat I (rule2 (aD fs) i),[]⟩:=by
 refine ae (c:=mkc K5) KS5 aL hm (ZX i cs ns os fs ls ks ⟨rfl,λhp=>?_⟩)
 have h0:0<=i:=hp.1;have h1:i<(fs.length:Int):=hp.2.1;have h2:i<=1000:=hp.2.2;have hl:((aD fs).length:Int)=fs.length:=yD _ (map_length _ fs);simp only[qc,qd,Dp,Df,Dc]
 exact⟨lE h0,λx hx=>⟨λhlt=>⟨⟨hx.1,by omega⟩,⟨h0,h1⟩,λhe=>Lq hx hlt (by omega) he,λhne=>⟨⟨by have:=hx.1;omega,by omega⟩,x+1,lF hx hlt (by omega) hne,rfl,by have:=hx.1;omega⟩⟩,λhge=>nR hx hge⟩⟩
theorem aC4(i:Int)(cs:LC)(ns os:LB)(fs:Lo)(ls:Ll)(ks:Lk): af Tryz.prog G0 244 [.dat I i,.ipv (.fn 193 [.ip N (cs,ns,os,fs,ls,ks)]),.ip (.sl Of) fs] [] ⟨idx i (Df fs),.dat I (bN (cQ (cs,ns,os,fs,ls,ks)) i),[]⟩:=by
 refine ae (c:=mkc K5) KS5 aL hm (ZS i cs ns os fs ls ks ⟨rfl,λhp=>?_⟩)
 have h0:0<=i:=hp.1;have h1:i<(fs.length:Int):=hp.2;simp only[qc,Di,Dt,Df,Dc,Du];rw[show bN (cQ (cs,ns,os,fs,ls,ks)) i=_ from oh _ h0 h1]
 exact⟨h0,h1,λh=>by rw[if_neg (by intro g;rw[show _=false from h]at g;cases g)],λh=>by rw[if_pos h]⟩
theorem aDd(i:Int)(cs:LC)(ns os:LB)(fs:Lo)(ls:Ll)(ks:Lk): af Tryz.prog G0 249 [.dat I i,.ipv (.fn 195 [.ip N (cs,ns,os,fs,ls,ks)])] [] ⟨idx i (Df ls),.dat I (bF (aE ls) i),[]⟩:=by
 refine ae (c:=mkc K5) KS5 aL hm (Z2 i cs ns os fs ls ks ⟨rfl,λhp=>?_⟩)
 simp only[qc,Di,Df];exact⟨hp,λh=>by simp[bF,h],λh=>by simp[bF,h]⟩
theorem aC8(i:Int)(cs:LC)(ns os:LB)(fs:Lo)(ls:Ll)(ks:Lk): af Tryz.prog G0 250 [.dat I i,.ipv (.fn 195 [.ip N (cs,ns,os,fs,ls,ks)])] [] ⟨qD i (Df ls),.dat I (rule2 (aE ls) i),[]⟩:=by
 refine ae (c:=mkc K5) KS5 aL hm (ZW i cs ns os fs ls ks ⟨rfl,λhp=>?_⟩)
 have h0:0<=i:=hp.1;have h1:i<(ls.length:Int):=hp.2.1;have h2:i<=1000:=hp.2.2;have hl:((aE ls).length:Int)=ls.length:=yD _ (map_length _ ls);simp only[qc,qd,Dp,Df,Dc]
 exact⟨lE h0,λx hx=>⟨λhlt=>⟨⟨hx.1,by omega⟩,⟨h0,h1⟩,λhe=>Lq hx hlt (by omega) he,λhne=>⟨⟨by have:=hx.1;omega,by omega⟩,x+1,lF hx hlt (by omega) hne,rfl,by have:=hx.1;omega⟩⟩,λhge=>nR hx hge⟩⟩
theorem aC3(i:Int)(cs:LC)(ns os:LB)(fs:Lo)(ls:Ll)(ks:Lk): af Tryz.prog G0 251 [.dat I i,.ipv (.fn 197 [.ip N (cs,ns,os,fs,ls,ks)]),.ip (.sl Ln) ls] [] ⟨idx i (Df ls),.dat I (bN (cD (cs,ns,os,fs,ls,ks)) i),[]⟩:=by
 refine ae (c:=mkc K5) KS5 aL hm (ZR i cs ns os fs ls ks ⟨rfl,λhp=>?_⟩)
 have h0:0<=i:=hp.1;have h1:i<(ls.length:Int):=hp.2;simp only[qc,Di,Df,Dc,Du];rw[show bN (cD (cs,ns,os,fs,ls,ks)) i=_ from oh _ h0 h1]
 exact⟨h0,h1,λh=>by rw[if_neg (by intro g;rw[show _=false from h]at g;cases g)],λh=>by rw[if_pos h]⟩
theorem aDc(i:Int)(cs:LC)(ns os:LB)(fs:Lo)(ls:Ll)(ks:Lk): af Tryz.prog G0 253 [.dat I i,.ipv (.fn 199 [.ip N (cs,ns,os,fs,ls,ks)])] [] ⟨idx i (Df ks),.dat I (bF (aF ks) i),[]⟩:=by
 refine ae (c:=mkc K5) KS5 aL hm (Z1 i cs ns os fs ls ks ⟨rfl,λhp=>?_⟩)
 simp only[qc,Di,Df];exact⟨hp,λh=>by simp[bF,h],λh=>by simp[bF,h]⟩
theorem aC7(i:Int)(cs:LC)(ns os:LB)(fs:Lo)(ls:Ll)(ks:Lk): af Tryz.prog G0 254 [.dat I i,.ipv (.fn 199 [.ip N (cs,ns,os,fs,ls,ks)])] [] ⟨qD i (Df ks),.dat I (rule2 (aF ks) i),[]⟩:=by
 refine ae (c:=mkc K5) KS5 aL hm (ZV i cs ns os fs ls ks ⟨rfl,λhp=>?_⟩)
 have h0:0<=i:=hp.1;have h1:i<(ks.length:Int):=hp.2.1;have h2:i<=1000:=hp.2.2;have hl:((aF ks).length:Int)=ks.length:=yD _ (map_length _ ks);simp only[qc,qd,Dp,Df,Dc]
 exact⟨lE h0,λx hx=>⟨λhlt=>⟨⟨hx.1,by omega⟩,⟨h0,h1⟩,λhe=>Lq hx hlt (by omega) he,λhne=>⟨⟨by have:=hx.1;omega,by omega⟩,x+1,lF hx hlt (by omega) hne,rfl,by have:=hx.1;omega⟩⟩,λhge=>nR hx hge⟩⟩
theorem aC2(i:Int)(cs:LC)(ns os:LB)(fs:Lo)(ls:Ll)(ks:Lk): af Tryz.prog G0 255 [.dat I i,.ipv (.fn 201 []),.ip (.sl Kl) ks] [] ⟨idx i (Df ks),.dat I (bN (bv ks) i),[]⟩:=by
 refine ae (c:=mkc K5) KS5 aL hm (ZQ i cs ns os fs ls ks ⟨rfl,λhp=>?_⟩)
 have h0:0<=i:=hp.1;have h1:i<(ks.length:Int):=hp.2;simp only[qc,Di,Df,Dc,Du];rw[show bN (bv ks) i=_ from oh _ h0 h1]
 exact⟨h0,h1,λh=>by rw[if_neg (by intro g;rw[show _=false from h]at g;cases g)],λh=>by rw[if_pos h]⟩
theorem pF(kind:Int)(l:List ByteArray)(g:List Bool)(k:Int): (aS kind l g k).length<=k.toNat:=by
 unfold aS;exact wH (qDd _ _) (by rw[wG];exact qK _)
theorem wn{kind:Int}{l:List ByteArray}{g:List Bool}{k:Int}(h0:0<=k)(he:HU l g k≠0): aS kind l g (k+1)=aS kind l g k++[(kind,k,HU l g k)]:=by
 unfold aS;rw[show(k+1).toNat=k.toNat+1 by omega,zV,qBa]
 simp[vF h0,he]
theorem BV{kind:Int}{l:List ByteArray}{g:List Bool}{k:Int}(h0:0<=k)(he:HU l g k=0): aS kind l g (k+1)=aS kind l g k:=by
 unfold aS;rw[show(k+1).toNat=k.toNat+1 by omega,zV,qBa]
 simp[vF h0,he]
theorem SN{l:List ByteArray}{g:List Bool}{i j:Int}(h:bY l g i j)(hj:j<3)(he:[bF l i,rule2 l i,bN g i].getD j.toNat 0≠0): [bF l i,rule2 l i,bN g i].getD j.toNat 0=HU l g i:=by
 obtain⟨h0,_,h1,h2,_⟩:=h;have hc:j=0\/j=1\/j=2:=by omega
 unfold HU;rcases hc with rfl | rfl | rfl
 .have he:bF l i≠0:=he;rw[if_pos he];rfl
 .have he:rule2 l i≠0:=he;rw[if_neg (by simp[h1]),if_pos he];rfl
 .rw[if_neg (by simp[h1]),if_neg (by simp[h2])];rfl
theorem I0{l:List ByteArray}{g:List Bool}{i j:Int}(h:bY l g i j)(hj:j<3)(he:[bF l i,rule2 l i,bN g i].getD j.toNat 0=0): bY l g i (j+1):=by
 obtain⟨h0,_,h1,h2,h3⟩:=h;have hc:j=0\/j=1\/j=2:=by omega
 rcases hc with rfl | rfl | rfl
 .exact⟨by omega,by omega,λ_=>he,λh=>by omega,λh=>by omega⟩
 .exact⟨by omega,by omega,λ_=>h1 (by omega),λ_=>he,λh=>by omega⟩
 .exact⟨by omega,by omega,λ_=>h1 (by omega),λ_=>h2 (by omega),λ_=>he⟩
theorem MS{l:List ByteArray}{g:List Bool}{i j:Int}(h:bY l g i j)(hj:¬j<3): HU l g i=0:=by
 obtain⟨h0,_,h1,h2,h3⟩:=h;unfold HU;rw[if_neg (by simp[h1 (by omega)]),if_neg (by simp[h2 (by omega)]),h3 (by omega)]
theorem CW{kind lim:Int}{l:List ByteArray}{g:List Bool}{m:Nat}(hm:l.length=m)(h1:0<=lim)(h2:lim<=100):
  (∃x,cV x (l.length:Int) lim/\(aS kind l g x).length=0/\aS kind l g x=[]/\0=x/\aS kind l g x=[])/\
  ∀(x:Int),cV x (l.length:Int) lim->
    (x<min (m:Int) lim->
      bY l g x 0/\∀(z:Int),bY l g x z->
         (z<3->0<=z/\z<(3:Nat)/\(z.toNat=0->idx x m)/\(z.toNat=1->qD x m)/\(z.toNat=2->idx x m)/\
                ([bF l x,rule2 l x,bN g x].getD z.toNat 0≠0->
                  ((aS kind l g x).length+[(kind,x,[bF l x,rule2 l x,bN g x].getD z.toNat 0)].length)*24<=140737488355328/\
                   (aS kind l g x).length+[(kind,x,[bF l x,rule2 l x,bN g x].getD z.toNat 0)].length<=9223372036854775807/\
                    inR .i64 (x+1)/\
                     ∃y,cV y (l.length:Int) lim/\
                       ((aS kind l g x).length+[(kind,x,[bF l x,rule2 l x,bN g x].getD z.toNat 0)].length=(aS kind l g y).length/\
                         x+1=y/\aS kind l g x++[(kind,x,[bF l x,rule2 l x,bN g x].getD z.toNat 0)]=aS kind l g y)/\
                        (lim-y).toNat<(lim-x).toNat)/\
                 ([bF l x,rule2 l x,bN g x].getD z.toNat 0=0->inR .i64 (z+1)/\∃y,bY l g x y/\z+1=y/\(3-y).toNat<(3-z).toNat))/\
          (¬z<3->inR .i64 (x+1)/\∃y,cV y (l.length:Int) lim/\((aS kind l g x).length=(aS kind l g y).length/\x+1=y/\aS kind l g x=aS kind l g y)/\(lim-y).toNat<(lim-x).toNat))/\
     (¬x<min (m:Int) lim->
      ((m:Int)>lim->((aS kind l g x).length+[(kind,lim,(2:Int))].length)*24<=140737488355328/\
         (aS kind l g x).length+[(kind,lim,(2:Int))].length<=9223372036854775807/\
          (aS kind l g x++[(kind,lim,2)]).length=(aS kind l g x).length+[(kind,lim,(2:Int))].length/\
           aS kind l g x++[(kind,lim,2)]=bD kind lim l g)/\
       (¬(m:Int)>lim->aS kind l g x=bD kind lim l g)):=by
 subst hm;refine⟨⟨0,⟨qM _,vC _,h1⟩,rfl,rfl,rfl,rfl⟩,λx ⟨x0,x1,x2⟩=>⟨λhlt=>⟨⟨qM _,by decide,λh=>by omega,λh=>by omega,λh=>by omega⟩,λz hz=>⟨λhz3=>?_,λhz3=>?_⟩⟩,λhge=>?_⟩⟩
 .have hk:=pF kind l g x;refine⟨hz.1,by omega,λ_=>⟨x0,by omega⟩,λ_=>⟨x0,by omega,by omega⟩,λ_=>⟨x0,by omega⟩,λhe=>?_,λhe=>⟨⟨by have:=hz.1;omega,by omega⟩,z+1,I0 hz hz3 he,rfl,by have:=hz.1;omega⟩⟩
  have e:=SN hz hz3 he;rw[e]at he ⊢;refine⟨by simp only[wE];omega,by simp only[wE];omega,⟨by omega,by omega⟩,x+1,⟨by omega,by omega,by omega⟩,⟨?_,rfl,(wn x0 he).symm⟩,by omega⟩
  rw[wn x0 he,qF]
 .have e:=MS hz hz3;exact⟨⟨by omega,by omega⟩,x+1,⟨by omega,by omega,by omega⟩,⟨by rw[BV x0 e],rfl,(BV x0 e).symm⟩,by omega⟩
 .have hk:=pF kind l g x;have ex:x=min (l.length:Int) lim:=by omega
  refine⟨λh=>⟨by simp only[wE];omega,by simp only[wE];omega,qF,?_⟩,λh=>?_⟩
  .unfold bD Jb;rw[if_pos (by omega),<- ex]
  .unfold bD Jb;rw[if_neg (by omega),<- ex,wL]
theorem KS6: al Tryz.prog G0 K6:=
 aj (ag λ(i,(cs,ns,os,fs,ls,ks),_)=>aDg i cs ns os fs ls ks)<|aj (ag λ(i,(cs,ns,os,fs,ls,ks),_)=>aDb i cs ns os fs ls ks)<|aj (ag λ(i,_,cs,_)=>aC6 i cs [] [] [] [] []) <|
 aj (ag λ(i,(cs,ns,os,fs,ls,ks),_)=>aDf i cs ns os fs ls ks)<|aj (ag λ(i,(cs,ns,os,fs,ls,ks),_)=>aDa i cs ns os fs ls ks)<|aj (ag λ(i,_,os,_)=>aC5 i [] [] os [] [] []) <|
 aj (ag λ(i,(cs,ns,os,fs,ls,ks),_)=>aDe i cs ns os fs ls ks)<|aj (ag λ(i,(cs,ns,os,fs,ls,ks),_)=>aC9 i cs ns os fs ls ks)<|aj (ag λ(i,(cs,ns,os,fs,ls,ks),xs,_)=>af.of_pre λ(h:idx i (Df fs)/\xs=fs)=>by obtain⟨h,rfl⟩:=h;exact(aC4 i cs ns os xs ls ks).weaken λ_=>h) <|
 aj (ag λ(i,(cs,ns,os,fs,ls,ks),_)=>aDd i cs ns os fs ls ks)<|aj (ag λ(i,(cs,ns,os,fs,ls,ks),_)=>aC8 i cs ns os fs ls ks)<|aj (ag λ(i,(cs,ns,os,fs,ls,ks),xs,_)=>af.of_pre λ(h:idx i (Df ls)/\xs=ls)=>by obtain⟨h,rfl⟩:=h;exact(aC3 i cs ns os fs xs ks).weaken λ_=>h) <|
 aj (ag λ(i,(cs,ns,os,fs,ls,ks),_)=>aDc i cs ns os fs ls ks)<|aj (ag λ(i,(cs,ns,os,fs,ls,ks),_)=>aC7 i cs ns os fs ls ks)<|aj (ag λ(i,_,ks,_)=>aC2 i [] [] [] [] [] ks)<|KS5
theorem aDG(cs:LC)(ns os:LB)(fs:Lo)(ls:Ll)(ks:Lk): af Tryz.prog G0 187 [.dat I 1,.dat I 6,.dat (.sl C) cs,.fn 186 [.ip N (cs,ns,os,fs,ls,ks)],.fn 161 []] [] ⟨True,.dat (.sl Fa) (bD 1 6 (az cs ns) (bh cs)),[]⟩:=by
 refine ae (c:=mkc K6) KS6 aL hm (tE cs ns os fs ls ks ⟨rfl,λ_=>?_⟩)
 have hm:(az cs ns).length=cs.length:=fJ cs ns;simp only[qc,qd,Dt,Ea,Dp,Ei,Df,Dc,Dx,Dj,Du,Eu,Ef];exact CW hm (by decide) (by decide)
theorem aDF(cs:LC)(ns os:LB)(fs:Lo)(ls:Ll)(ks:Lk): af Tryz.prog G0 189 [.dat I 2,.dat I 6,.dat (.sl S) os,.fn 188 [.ip N (cs,ns,os,fs,ls,ks)],.fn 190 []] [] ⟨True,.dat (.sl Fa) (bD 2 6 (os) (bT os)),[]⟩:=by
 refine ae (c:=mkc K6) KS6 aL hm (sI cs ns os fs ls ks ⟨rfl,λ_=>?_⟩)
 have hm:(os).length=os.length:=rfl;simp only[qc,qd,Dt,Ea,Dp,Ei,Df,Dc,Dx,Dj,Du,Eu,Ef];exact CW hm (by decide) (by decide)
theorem aDE(cs:LC)(ns os:LB)(fs:Lo)(ls:Ll)(ks:Lk): af Tryz.prog G0 192 [.dat I 3,.dat I 12,.dat (.sl Of) fs,.fn 191 [.ip N (cs,ns,os,fs,ls,ks)],.fn 193 [.ip N (cs,ns,os,fs,ls,ks)]] [] ⟨True,.dat (.sl Fa) (bD 3 12 (aD fs) (cQ (cs,ns,os,fs,ls,ks))),[]⟩:=by
 refine ae (c:=mkc K6) KS6 aL hm (oX cs ns os fs ls ks ⟨rfl,λ_=>?_⟩)
 have hm:(aD fs).length=fs.length:=map_length _ fs;simp only[qc,qd,Dt,Ea,Dp,Ei,Df,Dc,Dx,Dj,Du,Eu,Ef];exact CW hm (by decide) (by decide)
theorem aDD(cs:LC)(ns os:LB)(fs:Lo)(ls:Ll)(ks:Lk): af Tryz.prog G0 196 [.dat I 4,.dat I 40,.dat (.sl Ln) ls,.fn 195 [.ip N (cs,ns,os,fs,ls,ks)],.fn 197 [.ip N (cs,ns,os,fs,ls,ks)]] [] ⟨True,.dat (.sl Fa) (bD 4 40 (aE ls) (cD (cs,ns,os,fs,ls,ks))),[]⟩:=by
 refine ae (c:=mkc K6) KS6 aL hm (oT cs ns os fs ls ks ⟨rfl,λ_=>?_⟩)
 have hm:(aE ls).length=ls.length:=map_length _ ls;simp only[qc,qd,Dt,Ea,Dp,Ei,Df,Dc,Dx,Dj,Du,Eu,Ef];exact CW hm (by decide) (by decide)
theorem aDC(cs:LC)(ns os:LB)(fs:Lo)(ls:Ll)(ks:Lk): af Tryz.prog G0 200 [.dat I 5,.dat I 4,.dat (.sl Kl) ks,.fn 199 [.ip N (cs,ns,os,fs,ls,ks)],.fn 201 []] [] ⟨True,.dat (.sl Fa) (bD 5 4 (aF ks) (bv ks)),[]⟩:=by
 refine ae (c:=mkc K6) KS6 aL hm (oF cs ns os fs ls ks ⟨rfl,λ_=>?_⟩)
 have hm:(aF ks).length=ks.length:=map_length _ ks;simp only[qc,qd,Dt,Ea,Dp,Ei,Df,Dc,Dx,Dj,Du,Eu,Ef];exact CW hm (by decide) (by decide)
theorem KS7: al Tryz.prog G0 K7:=
 aj (ag λ(k,m,xs,(cs,ns,os,fs,ls,ks),_,_)=>af.of_pre λ(h:k=1/\m=6/\xs=cs)=>by obtain⟨rfl,rfl,rfl⟩:=h;exact((aDG xs ns os fs ls ks).weaken λ_=>trivial)) <|
 aj (ag λ(k,m,xs,(cs,ns,os,fs,ls,ks),_,_)=>af.of_pre λ(h:k=2/\m=6/\xs=os)=>by obtain⟨rfl,rfl,rfl⟩:=h;exact((aDF cs ns xs fs ls ks).weaken λ_=>trivial)) <|
 aj (ag λ(k,m,xs,(cs,ns,os,fs,ls,ks),n2,_)=>af.of_pre λ(h:k=3/\m=12/\xs=fs/\n2=(cs,ns,os,fs,ls,ks))=>by obtain⟨rfl,rfl,rfl,rfl⟩:=h;exact((aDE cs ns os xs ls ks).weaken λ_=>trivial)) <|
 aj (ag λ(k,m,xs,(cs,ns,os,fs,ls,ks),n2,_)=>af.of_pre λ(h:k=4/\m=40/\xs=ls/\n2=(cs,ns,os,fs,ls,ks))=>by obtain⟨rfl,rfl,rfl,rfl⟩:=h;exact((aDD cs ns os fs xs ks).weaken λ_=>trivial)) <|
 aj (ag λ(k,m,xs,(cs,ns,os,fs,ls,ks),_,_)=>af.of_pre λ(h:k=5/\m=4/\xs=ks)=>by obtain⟨rfl,rfl,rfl⟩:=h;exact((aDC cs ns os fs ls xs).weaken λ_=>trivial))<|KS6
theorem jB(kind lim:Int)(l:List ByteArray)(g:List Bool)(h:0<=lim): (bD kind lim l g).length<=lim.toNat+1:=by
 unfold bD Jb;have:=pF kind l g (min l.length lim);rw[qF];split<;>simp only[wE,yU]<;>omega
theorem wz(cs:LC)(ns os:LB)(fs:Lo)(ls:Ll)(ks:Lk): fe (cs,ns,os,fs,ls,ks)=FP (cs,ns,os,fs,ls,ks)++(bD 1 6 (az cs ns) (bh cs)++(bD 2 6 os (bT os)++(bD 3 12 (aD fs) (cQ (cs,ns,os,fs,ls,ks))++(bD 4 40 (aE ls) (cD (cs,ns,os,fs,ls,ks))++bD 5 4 (aF ks) (bv ks))))):=by
 unfold fe iZ;rw[show(Int.toNat 6-1)=5 from rfl,show List.range 5=[0,1,2,3,4]from rfl]
 simp only[yQ,qDe,wL];rfl
theorem RI(cs:LC)(ns os:LB)(fs:Lo)(ls:Ll)(ks:Lk): af Tryz.prog G0 129 [net cs ns os fs ls ks] [] ⟨True,.buf 0 (Dj (fe (cs,ns,os,fs,ls,ks))),[(0,.buf 177 Fa (fe (cs,ns,os,fs,ls,ks)) [])]⟩:=by
 refine ae (c:=mkc K7) KS7 aL hm (KU cs ns os fs ls ks ⟨rfl,λ_=>?_⟩)
 have h1:=jB 1 6 (az cs ns) (bh cs) (by decide)
 have h2:=jB 2 6 os (bT os) (by decide)
 have h3:=jB 3 12 (aD fs) (cQ (cs,ns,os,fs,ls,ks)) (by decide)
 have h4:=jB 4 40 (aE ls) (cD (cs,ns,os,fs,ls,ks)) (by decide)
 have h5:=jB 5 4 (aF ks) (bv ks) (by decide)
 rw[wz];simp only[qc,qd,Ea,Df,Dj,Ef];refine⟨λhne=>?_,λhe=>?_⟩
 .rw[show FP (cs,ns,os,fs,ls,ks)=[(1,-1,1)]from if_neg λe=>hne (yD Int.ofNat e)]
  generalize bD 1 6 _ _=a1 at *;generalize bD 2 6 _ _=a2 at *;generalize bD 3 12 _ _=a3 at *;generalize bD 4 40 _ _=a4 at *;generalize bD 5 4 _ _=a5 at *;simp only[qF,wE,vU]
  and_intros<;>first | omega | rfl
 .rw[show FP (cs,ns,os,fs,ls,ks)=[]from if_pos (Int.ofNat.inj he)]
  generalize bD 1 6 _ _=a1 at *;generalize bD 2 6 _ _=a2 at *;generalize bD 3 12 _ _=a3 at *;generalize bD 4 40 _ _=a4 at *;generalize bD 5 4 _ _=a5 at *;simp only[qF,xH,vU]
  and_intros<;>first | omega | rfl
end Go.Eng.Sv
set_option maxRecDepth 100000
noncomputable section
namespace Go.Eng.Sv
open Go.Proofs
abbrev M: Ty:=.sl R
def upN(k n:Int): Prop:=0<=k/\k<=n
def aX(n:Net)(k i:Int): List ByteArray:=(aQ n k).take i.toNat
def H8(cs:List (Int×List Bool×Li))(k:Int): Prop:=0<=k/\k<=cs.length/\(cs.take k.toNat).all (λc=>gR c.2.1 c.2.2)=true
def Ht(fs:Lo)(k:Int): Prop:=0<=k/\k<=fs.length/\(fs.take k.toNat).all (λo=>decide (o.2.2.2.2.2.2.length<=30))=true
def mZ(l:List ByteArray): Bool:=l.all λs=>decide (s.size<=40)
def y4(n:Net)(k:Int): Prop:=1<=k/\k<=6/\∀j:Int,1<=j->j<k->mZ (aQ n j)=true
def Tt(l:List ByteArray)(i:Int): Prop:=0<=i/\i<=l.length/\mZ (l.take i.toNat)=true
def Kp(n:Net): Bool:=l8 n&&(n.1.all λc=>gR c.2.1 c.2.2)&&(n.2.2.2.1.all λo=>decide (o.2.2.2.2.2.2.length<=30))&&mZ (aQ n 1)&&mZ (aQ n 2)&&mZ (aQ n 3)&&mZ (aQ n 4)&&mZ (aQ n 5)
def lq(a b:Lj): Bool:=a==b
def x9(a b:Lj)(k:Int): Prop:=0<=k/\k<=a.length/\a.length=b.length/\a.length<=1000000/\a.take k.toNat=b.take k.toNat
def yb(a b:Lj)(i k:Int): Prop:=0<=k/\k<=(a.getD i.toNat []).length/\(a.getD i.toNat []).length=(b.getD i.toNat []).length/\(a.getD i.toNat []).length<=1000000/\(a.getD i.toNat []).take k.toNat=(b.getD i.toNat []).take k.toNat
def mild(a:Lj): Prop:=a.length<=1000000/\∀r∈a,r.length<=1000000
def noF(n:Net): Bool:=(fe n).isEmpty
def K8: Kt:=kOr 129 (Oj [.row N] (λ_=>True) (λ(n,_)=>.buf 0 (Dj (fe n))) λ(n,_)=>.buf 177 Fa (fe n) []) K7
def NA(n:Net)(k:Int)(loop slot:Nat)(st:St)(xs:List ByteArray): Option Spec:=some {α:=Int,inv:=λi=>upN i (Df (aQ n k)),st:=λi=>iM (put st [(slot,.dat I i),(5,.buf 100 (Dj (aX n k i)))]) 100 (.buf 9 S (aX n k i) []),μ:=λi=>Dc (Dh (Df (aQ n k)) i)}
def aA8(n:Net): Ann:=⟨λid st=>match id with
 | 5=>NA n 1 5 6 st []
 | 12=>NA n 2 12 7 st []
 | 17=>NA n 3 17 8 st []
 | 22=>NA n 4 22 9 st []
 | 27=>NA n 5 27 10 st []
 | _=>none,λ_ _=>none,λ_ _=>none⟩
def aAF(a b:Lj): Ann:=⟨λid st=>match id with
 | 4=>some {α:=Int,inv:=λk=>x9 a b k,st:=λk=>put st [(5,.dat I k)],μ:=λk=>Dc (Dh (Df a) k)}
 | 9=>match st.sig.T 5 with
  | .dat (.int .i64) i=>some {α:=Int,inv:=λk=>yb a b i k,st:=λk=>put st [(6,.dat I k)],μ:=λk=>Dc (Dh (Df (Du a (Dc i) [])) k)}
  | _=>none
 | _=>none,λ_ _=>none,λ_ _=>none⟩
def aFw(n:Net): Ann:=⟨λid st=>match id with
 | 4=>some {α:=Int,inv:=λk=>H8 n.1 k,st:=λk=>put st [(3,.dat I k)],μ:=λk=>Dc (Dh (Df n.1) k)}
 | 9=>some {α:=Int,inv:=λk=>Ht n.2.2.2.1 k,st:=λk=>put st [(4,.dat I k)],μ:=λk=>Dc (Dh (Df n.2.2.2.1) k)}
 | 14=>some {α:=Int,inv:=λk=>y4 n k,st:=λk=>put st [(5,.dat I k)],μ:=λk=>Dc (Dh 6 k)}
 | 18=>match st.sig.T 5 with
  | .dat (.int .i64) k=>some {α:=Int,inv:=λi=>Tt (aQ n k) i,st:=λi=>put st [(7,.dat I i)],μ:=λi=>Dc (Dh (Df (aQ n k)) i)}
  | _=>none
 | _=>none,λ_ _=>none,λ_ _=>none⟩
def K12: Kt:=K8
theorem KS8: al Tryz.prog G0 K8:=aj (Oi λ((cs,ns,os,fs,ls,ks),_)=>RI cs ns os fs ls ks) KS7
theorem ET{n:Net}{k i:Int}(h0:0<=i)(h1:i<=(aQ n k).length): (aX n k i).length=i.toNat:=by
 unfold aX;rw[qI];omega
theorem BG{n:Net}{k i:Int}(h0:0<=i)(h1:i<(aQ n k).length): aX n k (i+1)=aX n k i++[(aQ n k).getD i.toNat ⟨#[]⟩]:=by
 unfold aX;rw[show(i+1).toNat=i.toNat+1 by omega,wZ,qA,qB (show i.toNat<(aQ n k).length by omega)]
 rfl
theorem EU{n:Net}{k i:Int}(h1:i<=(aQ n k).length)(h2:¬i<(aQ n k).length): aX n k i=aQ n k:=by
 unfold aX;exact qO (by omega)
theorem BE{n:Net}{k:Int}{m:Nat}{el:Int->ByteArray}(hl:(aQ n k).length=m)(hm:m<=100)(he:∀x,0<=x->x<(m:Int)->(aQ n k).getD x.toNat ⟨#[]⟩=el x){R:List ByteArray}(hR:R=aQ n k):
  (∃x,upN x (aQ n k).length/\(aX n k x).length=0/\aX n k x=[]/\0=x/\aX n k x=[])/\
   ∀(x:Int),upN x (aQ n k).length->
    (x<(m:Int)->0<=x/\x<(m:Int)/\((aX n k x).length+[el x].length)*16<=140737488355328/\(aX n k x).length+[el x].length<=9223372036854775807/\inR .i64 (x+1)/\
     ∃y,upN y (aQ n k).length/\((aX n k x).length+[el x].length=(aX n k y).length/\x+1=y/\aX n k x++[el x]=aX n k y)/\(((aQ n k).length:Int)-y).toNat<(((aQ n k).length:Int)-x).toNat)/\
    (¬x<(m:Int)->aX n k x=R):=by
 refine⟨⟨0,⟨qM _,vC _⟩,rfl,rfl,rfl,rfl⟩,λx ⟨h0,h1⟩=>⟨λhlt=>?_,λhge=>by rw[hR];exact EU h1 (by omega)⟩⟩
 have e1:=ET h0 h1;have e2:=BG h0 (show x<((aQ n k).length:Int) by omega)
 rw[he x h0 hlt]at e2;refine⟨h0,hlt,by simp only[wE];omega,by simp only[wE];omega,⟨by omega,by omega⟩,x+1,⟨by omega,by omega⟩,⟨by rw[e2,qF],rfl,e2.symm⟩,by omega⟩
theorem zk(cs:LC)(ns os:LB)(fs:Lo)(ls:Ll)(ks:Lk)(hp:l8 (cs,ns,os,fs,ls,ks)=true): cs.length<=10/\ns.length<=10/\os.length<=10/\fs.length<=16/\ls.length<=50/\ks.length<=8:=vO hp
theorem getD_mem{α:Type}{l:List α}{i:Nat}{d:α}(h:i<l.length): l.getD i d∈l:=by
 rw[qA,qB h];exact wO h
theorem gi{α:Type}{a b:List α}{k:Nat}{d:α}(h:a.take k=b.take k)(ha:k<a.length)(hb:k<b.length)(he:a.getD k d=b.getD k d): a.take (k+1)=b.take (k+1):=by
 rw[qA,qA,qB ha,qB hb]at he;have he':a[k]=b[k]:=he;rw[wZ,wZ,qB ha,qB hb,h,he']
theorem x8{a b:Lj}(h:a≠b): false=lq a b:=by unfold lq;exact(qAm.2 h).symm
theorem HT{n:Net}(h:Kp n=true->False): false=Kp n:=by
 cases e:Kp n with
 | false=>rfl
 | true=>exact(h e).elim
theorem mL{n:Net}: Kp n=true↔l8 n=true/\(n.1.all λc=>gR c.2.1 c.2.2)=true/\(n.2.2.2.1.all λo=>decide (o.2.2.2.2.2.2.length<=30))=true/\∀j:Int,1<=j->j<6->mZ (aQ n j)=true:=by
 unfold Kp;simp only[qC,qDg];constructor
 .rintro⟨h1,h2,h3,h4,h5,h6,h7,h8⟩;refine⟨h1,h2,h3,λj j1 j2=>?_⟩
  have hc:j=1\/j=2\/j=3\/j=4\/j=5:=by omega
  rcases hc with rfl | rfl | rfl | rfl | rfl<;>assumption
 .rintro⟨h1,h2,h3,h4⟩;exact⟨h1,h2,h3,h4 1 (by decide) (by decide),h4 2 (by decide) (by decide),h4 3 (by decide) (by decide),h4 4 (by decide) (by decide),h4 5 (by decide) (by decide)⟩
theorem BP(k:Int): 4<=iU k/\iU k<=40:=by unfold iU;split<;>(try split)<;>(try split)<;>omega
theorem zl{n:Net}{k:Int}(h:1<=k): iZ n (k+1)=iZ n k++bD k (iU k) (aQ n k) (Oc n k):=by
 unfold iZ;rw[show(k+1).toNat-1=(k.toNat-1)+1 by omega,zV,kX,<- vU]
 congr 1
 simp only[yQ,qDe,wL];rw[show((k.toNat-1:Nat):Int)+1=k by omega]
theorem Cj(n:Net): ∀(j:Nat),(iZ n (j+1)).length<=1+41*j
 | 0=>by
  have e:iZ n ((0:Nat)+1)=FP n:=by unfold iZ;simp
  rw[e];unfold FP;split<;>simp
 | j+1=>by
  have ih:=Cj n j;have e:=zl (n:=n) (k:=(j:Int)+1) (by omega)
  have h1:=(BP ((j:Int)+1)).1;have h2:=(BP ((j:Int)+1)).2;have:=jB ((j:Int)+1) (iU ((j:Int)+1)) (aQ n ((j:Int)+1)) (Oc n ((j:Int)+1)) (by omega)
  rw[show(((j+1:Nat):Int)+1)=(j:Int)+1+1 by omega,e,qF]
  omega
theorem aFa: al Tryz.prog G0 K12:=KS8
end Go.Eng.Sv
set_option maxRecDepth 100000
noncomputable section
namespace Go.Eng.Sv
open Go.Proofs
def Zq(a b:Int)(xs:Li): Prop:=0<=a/\a<12/\0<=b/\b<12/\xs.length=144
def iS(xs:Li)(a b len:Int): Li:=dX xs a b len
def gm(k:Int): Li:=(List.range 144).map λi=>if i<k.toNat then(if i/12=i%12 then 0 else -1)else 0
def iE(ls:Ll)(k:Int): Li:=(ls.take k.toNat).foldl (λxs l=>dX xs (br l) (lTo l) (aY l)) FK
def fwD(ls:Ll)(o a b:Int): Li:=fwN ls (o*144+a*12+b).toNat
def bH(ls:Ll): Li:=yg ls
def noP(n:Net): Prop:=noF n=true
def vQ(m:Nat)(ls:Ll)(b:Nat): Bool:=(List.range m).any λa=>decide (cell (yg ls) a b=-1)
def bG(m:Int)(ls:Ll)(k:Int): List (Int×Int×Int):=(List.range k.toNat).filterMap λb:Nat=>if vQ m.toNat ls b then some (3,(b:Int),111)else none
def fm(n:Net): List (Int×Int×Int):=if noF n then bG n.2.2.2.1.length n.2.2.2.2.1 n.2.2.2.1.length else fe n
def tt(m:Int)(ls:Ll)(b k:Int): Prop:=0<=k/\k<=m/\(List.range k.toNat).all (λa=>decide (cell (yg ls) a b.toNat≠-1))=true
def bn(n:Net): Bool:=(fm n).isEmpty
abbrev cx: List (Int×List Bool×Li):=[(0,[true,true,true,true,true,false,false],[])]
abbrev nx: List ByteArray:=[⟨#[99]⟩]
abbrev ox: List ByteArray:=[⟨#[112]⟩,⟨#[113]⟩]
theorem Qv(a b len:Int)(xs:Li)(hvc:
 let c9:=Ej (0) (12) a;let c8:=Dx (12);let c1:=iS xs a b len;let c2:=Ej c9 (1) b;let c3:=Du xs c2 0;let c4:=Dy c3 (-1);let c5:=Di c4;let c10:=c5->Dj xs=144;let c7:=c5->c5->c5;let c6:=Eb c4 true (Dp len c3);true/\(Zq a b xs->Dj xs<=Dj c1/\Dj xs=144/\0<=a/\a<Dx (12)/\Ej (0) (12) c8<=(144)/\Dj xs=144/\0<=b/\b<Dx (12)/\Ej c9 (1) c8<=(144)/\Dj xs=144/\c7/\c10/\(c5->0<=a)/\(c5->a<Dx (12))/\(c5->Ej (0) (12) c8<=(144))/\c7/\c7/\c10/\(c5->0<=b)/\(c5->b<Dx (12))/\(c5->Ej c9 (1) c8<=(144))/\c7/\c10/\c7/\c7/\(Dk true c5->c5)/\(c6->Dj xs=144/\0<=a/\a<Dx (12)/\Ej (0) (12) c8<=(144)/\Dj xs=144/\0<=b/\b<Dx (12)/\Ej c9 (1) c8<=(144)/\Dj xs=144/\En xs c2 len=c1/\Dj xs=Dj xs/\True)/\(c6=false->xs=c1/\Dj xs=Dj xs/\True))):
  evF (mkc K12) aA 203 [.dat I a,.dat I b,.dat I len,.ptr 1 144 0 0] [(1,.buf 174 I xs [])] ⟨Zq a b xs,.tup [],[(1,.buf 174 I (iS xs a b len) [])]⟩:=oE hvc
def NT(args:List AV)(m:Mem): Option jO:=match args,m with
 | [.dat (.int .i64) a,.dat (.int .i64) b,.dat (.int .i64) len,.ptr 1 g 0 0],[(1,.buf el (.int .i64) xs [])]=>if g=144/\el=174 then some ⟨Zq a b xs,.tup [],[(1,.buf 174 I (iS xs a b len) [])]⟩else none
 | _,_=>none
def K13: Kt:=kOr 203 NT K12
def SS(ls:Ll): Ann:=⟨λid s=>match id with
 | 3=>some {α:=Int,inv:=λk=>upN k 12,st:=λk=>iM (put s [(12,.dat I k)]) 1 (.buf 174 I (gm (Ee 12 k)) []),μ:=λk=>Dc (Dh 12 k)}
 | 6=>match s.sig.T 12 with
  | .dat (.int .i64) a=>some {α:=Int,inv:=λk=>upN k 12,st:=λk=>iM (put s [(15,.dat I k)]) 1 (.buf 174 I (gm (Dq (Ee 12 a) k)) []),μ:=λk=>Dc (Dh 12 k)}
  | _=>none
 | 14=>some {α:=Int,inv:=λk=>upN k (Df ls),st:=λk=>iM (put s [(31,.dat I k)]) 1 (.buf 174 I (iE ls k) []),μ:=λk=>Dc (Dh (Df ls) k)}
 | 19=>some {α:=Int,inv:=λk=>upN k 12,st:=λk=>iM (put s [(44,.dat I k)]) 1 (.buf 174 I (fwD ls k 0 0) []),μ:=λk=>Dc (Dh 12 k)}
 | 22=>match s.sig.T 44 with
  | .dat (.int .i64) o=>some {α:=Int,inv:=λk=>upN k 12,st:=λk=>iM (put s [(47,.dat I k)]) 1 (.buf 174 I (fwD ls o k 0) []),μ:=λk=>Dc (Dh 12 k)}
  | _=>none
 | 25=>match s.sig.T 44,s.sig.T 47 with
  | .dat (.int .i64) o,.dat (.int .i64) a=>some {α:=Int,inv:=λk=>upN k 12,st:=λk=>iM (put s [(50,.dat I k)]) 1 (.buf 174 I (fwD ls o a k) []),μ:=λk=>Dc (Dh 12 k)}
  | _,_=>none
 | _=>none,λ_ _=>none,λ_ _=>none⟩
theorem Ip(cs:LC)(ns os:LB)(fs:Lo)(ls:Ll)(ks:Lk)(hvc:
 let c4:=Dx (12);let c1:=(cs,ns,os,fs,ls,ks);let c2:=Fz (144) 0;let c3:=Df ls;true/\(noP c1->(∃x,upN x 12/\c1=c1/\144=144/\0=0/\0=0/\144=144/\0=0/\0=0/\0=x/\c2=c2/\c2=gm (12*x)/\True)/\∀(x:Int),let c5:=Dp x 12;let c6:=12*x;let c7:=gm c6;let c8:=x+1;upN x 12->(c5->(∃x_3,upN x_3 12/\c1=c1/\144=144/\0=0/\0=0/\144=144/\0=0/\0=0/\x=x/\x=x/\0=x_3/\c2=c2/\c7=gm (c6+x_3)/\True)/\∀(x_3:Int),let c9:=Dp x_3 12;let c10:=x_3+1;upN x_3 12->(c9->(Ea x x_3->Dj (gm (c6+x_3))=144/\0<=x/\x<Dx (12)/\Ej (0) (12) c4<=(144)/\Dj (gm (c6+x_3))=144/\0<=x_3/\x_3<Dx (12)/\Ej (Ej (0) (12) x) (1) c4<=(144)/\Dj (gm (c6+x_3))=144/\inR .i64 c10/\∃y,upN y 12/\(c1=c1/\144=144/\0=0/\0=0/\144=144/\0=0/\0=0/\x=x/\x=x/\c10=y/\c2=c2/\En (gm (c6+x_3)) (Ej (Ej (0) (12) x) (1) x_3) (-1)=gm (c6+y)/\True)/\Dc (12-y)<Dc (12-x_3))/\(Ea x x_3=false->inR .i64 c10/\∃y,upN y 12/\(c1=c1/\144=144/\0=0/\0=0/\144=144/\0=0/\0=0/\x=x/\x=x/\c10=y/\c2=c2/\gm (c6+x_3)=gm (c6+y)/\True)/\Dc (12-y)<Dc (12-x_3)))/\(c9=false->inR .i64 c8/\∃y,upN y 12/\(c1=c1/\144=144/\0=0/\0=0/\144=144/\0=0/\0=0/\c8=y/\c2=c2/\gm (c6+x_3)=gm (12*y)/\True)/\Dc (12-y)<Dc (12-x)))/\(c5=false->(∃x,upN x c3/\144=144/\0=0/\0=0/\144=144/\0=0/\0=0/\144=144/\0=0/\0=0/\ls=ls/\c3=c3/\0=x/\c2=c2/\c7=iE ls x/\True)/\∀(x:Int),let c11:=(Du ls (Dc x) (ByteArray.mk #[],(0:Int),(0:Int),(0:Int),(0:Int),(0:Int))).2;let c15:=iS (iE ls x) c11.1 c11.2.1 c11.2.2.2.1;let c16:=x+1;
 upN x c3->(Dp x c3->0<=x/\x<c3/\1=1/\0=0/\1=1/\1=1/\0=0/\1=1/\1=1/\0=0/\1=1/\1=1/\0=0/\Zq c11.1 c11.2.1 (iE ls x)/\Dj (iE ls x)<=Dj c15/\inR .i64 c16/\∃y,upN y c3/\(144=144/\0=0/\0=0/\144=144/\0=0/\0=0/\144=144/\0=0/\0=0/\ls=ls/\c3=c3/\c16=y/\c2=c2/\c15=iE ls y/\True)/\Dc (c3-y)<Dc (c3-x))/\(Dp x c3=false->(∃x_4,upN x_4 12/\144=144/\0=0/\0=0/\144=144/\0=0/\0=0/\144=144/\0=0/\0=0/\0=x_4/\c2=c2/\iE ls x=fwD ls x_4 0 0/\True)/\∀(x:Int),let c17:=Dp x 12;let c18:=fwD ls x 0 0;let c19:=x+1;upN x 12->(c17->(∃x_6,upN x_6 12/\144=144/\0=0/\0=0/\144=144/\0=0/\0=0/\144=144/\0=0/\0=0/\x=x/\x=x/\0=x_6/\c2=c2/\c18=fwD ls x x_6 0/\True)/\∀(x_6:Int),let c20:=Dp x_6 12;let c21:=fwD ls x x_6 0;let c23:=x_6+1;upN x_6 12->(c20->(∃x_9,upN x_9 12/\144=144/\0=0/\0=0/\144=144/\0=0/\0=0/\144=144/\0=0/\0=0/\x=x/\x_6=x_6/\x=x/\x_6=x_6/\0=x_9/\c2=c2/\c21=fwD ls x x_6 x_9/\True)/\∀(x_9:Int),let c24:=Dp x_9 12;let c25:=fwD ls x x_6 x_9;let c26:=Dj c25;let c27:=Du c25 (Ej (Ej (0) (12) x_6) (1) x) 0;let c28:=Ea c27 (-1);let c13:=c28->c26=144;let c12:=c28->c28->c28;let c29:=Du c25 (Ej (Ej (0) (12) x) (1) x_9) 0;let c30:=Eb c28 (Ea c29 (-1)) false;let c31:=c27+c29;let c32:=iS c25 x_6 x_9 c31;let c33:=x_9+1;
 upN x_9 12->(c24->c26=144/\0<=x_6/\x_6<Dx (12)/\Ej (0) (12) c4<=(144)/\c26=144/\0<=x/\x<Dx (12)/\Ej (Ej (0) (12) x_6) (1) c4<=(144)/\c26=144/\c12/\c13/\(c28->0<=x)/\(c28->x<Dx (12))/\(c28->Ej (0) (12) c4<=(144))/\c12/\c12/\c13/\(c28->0<=x_9)/\(c28->x_9<Dx (12))/\(c28->Ej (Ej (0) (12) x) (1) c4<=(144))/\c12/\c13/\c12/\(Dk true c28->c28)/\(c30->c26=144/\0<=x_6/\x_6<Dx (12)/\Ej (0) (12) c4<=(144)/\c26=144/\0<=x/\x<Dx (12)/\Ej (Ej (0) (12) x_6) (1) c4<=(144)/\c26=144/\c26=144/\0<=x/\x<Dx (12)/\Ej (0) (12) c4<=(144)/\c26=144/\0<=x_9/\x_9<Dx (12)/\Ej (Ej (0) (12) x) (1) c4<=(144)/\c26=144/\inR .i64 c31/\Zq x_6 x_9 c25/\c26<=Dj c32/\inR .i64 c33/\∃y,upN y 12/\(144=144/\0=0/\0=0/\144=144/\0=0/\0=0/\144=144/\0=0/\0=0/\x=x/\x_6=x_6/\x=x/\x_6=x_6/\c33=y/\c2=c2/\c32=fwD ls x x_6 y/\True)/\Dc (12-y)<Dc (12-x_9))/\(c30=false->inR .i64 c33/\∃y,upN y 12/\(144=144/\0=0/\0=0/\144=144/\0=0/\0=0/\144=144/\0=0/\0=0/\x=x/\x_6=x_6/\x=x/\x_6=x_6/\c33=y/\c2=c2/\c25=fwD ls x x_6 y/\True)/\Dc (12-y)<Dc (12-x_9)))/\(c24=false->inR IntKind.i64 c23/\∃y,upN y 12/\(144=144/\0=0/\0=0/\144=144/\0=0/\0=0/\144=144/\0=0/\0=0/\x=x/\x=x/\c23=y/\c2=c2/\c25=fwD ls x y 0/\True)/\Dc (12-y)<Dc (12-x_6)))/\(c20=false->inR .i64 c19/\∃y,upN y 12/\(144=144/\0=0/\0=0/\144=144/\0=0/\0=0/\144=144/\0=0/\0=0/\c19=y/\c2=c2/\c21=fwD ls y 0 0/\True)/\Dc (12-y)<Dc (12-x)))/\(c17=false->Dj c18=144/\0=0/\Dj c18=144/\Dj c2=144/\0=0/\Dj c2=144/\Dj c18=144/\Dj c18=144/\0=0/\Dj c18=144/\c18=bH ls/\True))))):
  evF (mkc K13) (lvA [(3,[1,2,3,4,5,6,8,9,10,11,12,15,29,30,31,44,47,50]),(6,[1,2,3,4,5,6,8,9,10,11,12,15,29,30,31,44,47,50]),(14,[2,3,6,8,9,10,11,29,30,31,44,47,50]),(19,[2,3,6,9,10,11,44,47,50]),(22,[2,3,6,9,10,11,44,47,50]),(25,[2,3,6,9,10,11,44,47,50])] (SS ls)) 130 [net cs ns os fs ls ks] [] ⟨noP (cs,ns,os,fs,ls,ks),.av I (bH ls),[]⟩:=oE hvc
def K14: Kt:=kOr 130 (ay [.row N] (λ(n,_)=>noP n) λ(n,_)=>.av I (bH n.2.2.2.2.1)) K13
def YX(fs:Lo)(ls:Ll): Ann:=⟨λid s=>match id with
 | 6=>some {α:=Int,inv:=λk=>upN k (Df fs),st:=λk=>iM (put s [(18,.dat I k),(3,.buf 0 (Dj (bG (Df fs) ls k)))]) 0 (.buf 177 Fa (bG (Df fs) ls k) []),μ:=λk=>Dc (Dh (Df fs) k)}
 | 9=>match s.sig.T 18 with
  | .dat (.int .i64) b=>some {α:=Int,inv:=λk=>tt (Df fs) ls b k,st:=λk=>put s [(24,.dat I k),(3,.buf 0 (Dj (bG (Df fs) ls b)))],μ:=λk=>Dc (Dh (Df fs) k)}
  | _=>none
 | _=>none,λ_ _=>none,λ_ _=>none⟩
theorem QY(cs:LC)(ns os:LB)(fs:Lo)(ls:Ll)(ks:Lk)(hvc:
 let c1:=(cs,ns,os,fs,ls,ks);let c2:=fe c1;let c3:=Dj c2;let c4:=Ei (Int.ofNat c3) 0;let c5:=fm c1;let c6:=Df fs;true/\(True->True/\c3=c3/\(c4->c3=c3/\c2=c5/\True)/\(c4=false->noP c1/\Dj (Fz (144) 0)=144/\0=0/\Dj (Fz (144) 0)=144/\Dj (bH ls)=144/\(∃x,upN x c6/\c1=c1/\Value.slice none (0) (0)=Value.slice none (0) (0)/\c3=Dj (bG c6 ls x)/\144=144/\0=0/\0=0/\c6=c6/\0=x/\c2=bG c6 ls x/\bH ls=bH ls/\True)/\∀(x:Int),let c7:=Dj (bG c6 ls x);let c8:=[((3:Int),x,(111:Int))];let c9:=c7+Dj c8;let c10:=x+1;upN x c6->(Dp x c6->(∃x_3,tt c6 ls x x_3/\c1=c1/\Value.slice none (0) (0)=Value.slice none (0) (0)/\c7=c7/\144=144/\0=0/\0=0/\x=x/\c6=c6/\x=x/\c6=c6/\0=x_3/\bG c6 ls x=bG c6 ls x/\bH ls=bH ls/\True)/\∀(x_3:Int),let c11:=Dy (Du (bH ls) (Ej (Ej (0) (12) x_3) (1) x) 0) (-1);let c12:=x_3+1;
 tt c6 ls x x_3->(Dp x_3 c6->Dj (bH ls)=144/\0<=x_3/\x_3<Dx (12)/\Ej (0) (12) (Dx (12))<=(144)/\Dj (bH ls)=144/\0<=x/\x<Dx (12)/\Ej (Ej (0) (12) x_3) (1) (Dx (12))<=(144)/\Dj (bH ls)=144/\(c11->c7=c7/\(c9*(24))<=(140737488355328)/\c9<=(9223372036854775807)/\inR .i64 c10/\∃y,upN y c6/\(c1=c1/\Value.slice none (0) (0)=Value.slice none (0) (0)/\c9=Dj (bG c6 ls y)/\144=144/\0=0/\0=0/\c6=c6/\c10=y/\Ef (bG c6 ls x) c8=bG c6 ls y/\bH ls=bH ls/\True)/\Dc (c6-y)<Dc (c6-x))/\(c11=false->inR IntKind.i64 c12/\∃y,tt c6 ls x y/\(c1=c1/\Value.slice none (0) (0)=Value.slice none (0) (0)/\c7=c7/\144=144/\0=0/\0=0/\x=x/\c6=c6/\x=x/\c6=c6/\c12=y/\bG c6 ls x=bG c6 ls x/\bH ls=bH ls/\True)/\Dc (c6-y)<Dc (c6-x_3)))/\(Dp x_3 c6=false->inR .i64 c10/\∃y,upN y c6/\(c1=c1/\Value.slice none (0) (0)=Value.slice none (0) (0)/\c7=Dj (bG c6 ls y)/\144=144/\0=0/\0=0/\c6=c6/\c10=y/\bG c6 ls x=bG c6 ls y/\bH ls=bH ls/\True)/\Dc (c6-y)<Dc (c6-x)))/\(Dp x c6=false->c7=c7/\bG c6 ls x=c5/\True)))):
  evF (mkc K14) (lvA [(6,[1,2,3,4,5,6,17,18,23,24]),(9,[1,2,3,4,5,6,17,18,23,24])] (YX fs ls)) 64 [net cs ns os fs ls ks] [] ⟨True,.dat (.sl Fa) (fm (cs,ns,os,fs,ls,ks)),[]⟩:=oE hvc
def K15: Kt:=kOr 64 (ay [.row N] (λ_=>True) λ(n,_)=>.dat (.sl Fa) (fm n)) K14
def K16: Kt:=K15
theorem tj{n:Net}: noF n=true↔fe n=[]:=by unfold noF;rw[wU]
theorem tN{kind lim:Int}{l:List ByteArray}{g:List Bool}(h0:0<=lim)(h:bD kind lim l g=[]): (l.length:Int)<=lim/\∀i:Int,0<=i->i<l.length->HU l g i=0:=by
 unfold bD at h;obtain⟨h1,h2⟩:=qCc.1 h;have hl:(l.length:Int)<=lim:=by
  unfold Jb at h2;split at h2
  .cases h2
  .omega
 refine⟨hl,λi i0 i1=>?_⟩
 unfold aS at h1;rw[qDa]at h1;have:=h1 i.toNat (qU.2 (by omega))
 rw[vF i0]at this;split at this
 .assumption
 .cases this
theorem oN{l:List ByteArray}{g:List Bool}{i:Int}(h:HU l g i=0): bF l i=0/\rule2 l i=0/\bN g i=0:=by
 unfold HU at h;by_cases h1:bF l i=0
 .rw[if_neg (by simp[h1])]at h
  by_cases h2:rule2 l i=0
  .rw[if_neg (by simp[h2])]at h;exact⟨h1,h2,h⟩
  .rw[if_pos h2]at h;exact(h2 h).elim
 .rw[if_pos h1]at h;exact(h1 h).elim
theorem vA{g:List Bool}{i:Int}(h:bN g i=0): g.getD i.toNat false=true:=by
 unfold bN at h;cases hg:g.getD i.toNat false with
 | true=>rfl
 | false=>rw[hg]at h;cases h
theorem hC(cs:LC)(ns os:LB)(fs:Lo)(ls:Ll)(ks:Lk)(h:noF (cs,ns,os,fs,ls,ks)=true): ns.length=cs.length/\bD 1 6 (az cs ns) (bh cs)=[]/\bD 2 6 os (bT os)=[]/\bD 3 12 (aD fs) (cQ (cs,ns,os,fs,ls,ks))=[]/\bD 4 40 (aE ls) (cD (cs,ns,os,fs,ls,ks))=[]/\bD 5 4 (aF ks) (bv ks)=[]:=by
 have:=tj.1 h;rw[wz]at this;simp only[qCc]at this;obtain⟨h0,h1,h2,h3,h4,h5⟩:=this;refine⟨?_,h1,h2,h3,h4,h5⟩;unfold FP at h0;split at h0
 .assumption
 .cases h0
theorem gn{n:Net}{l:Line}(h:di n l=true): 0<=br l/\br l<n.2.2.2.1.length/\0<=lTo l/\lTo l<n.2.2.2.1.length/\br l≠lTo l/\(0<=lAt l/\lAt l<=1439)/\1<=aY l/\aY l<=5000:=by
 unfold di dO dD at h;simp only[qC,qE]at h;obtain⟨⟨⟨⟨⟨h1,h2⟩,h3⟩,h4⟩,h5⟩,h6⟩:=h;exact⟨h1.1,h1.2,h2.1,h2.2,h3,h4,h5.1,h5.2⟩
theorem oC(cs:LC)(ns os:LB)(fs:Lo)(ls:Ll)(ks:Lk)(h:noF (cs,ns,os,fs,ls,ks)=true): cB fs.length ls/\ls.length<=40:=by
 obtain⟨_,_,_,h3,h4,_⟩:=hC cs ns os fs ls ks h;obtain⟨l3,e3⟩:=tN (by decide) h3
 obtain⟨l4,e4⟩:=tN (by decide) h4
 have n3:(aD fs).length=fs.length:=map_length _ fs;have n4:(aE ls).length=ls.length:=map_length _ ls;refine⟨⟨by omega,λl hl=>?_⟩,by omega⟩
 obtain⟨i,hi⟩:=kJ.1 hl;have hlt:i<ls.length:=(qG.1 hi).1;have:=vA (oN (e4 i (by omega) (by omega))).2.2
 rw[show(cD (cs,ns,os,fs,ls,ks))=ls.map (di (cs,ns,os,fs,ls,ks))from rfl,km (di (cs,ns,os,fs,ls,ks)) ls (i:Int).toNat l false (by omega),qA,show(i:Int).toNat=i by omega,hi]at this
 obtain⟨g1,g2,g3,g4,g5,_,g6,g7⟩:=gn this;exact⟨g1,g2,g3,g4,g5,g6,g7⟩
theorem jW(xs:Li)(a b len:Int): (iS xs a b len).length=xs.length:=gY xs a b len
theorem I5{xs:Li}{a b len:Int}(h:xs.getD (a.toNat*12+b.toNat) 0=-1\/len<xs.getD (a.toNat*12+b.toNat) 0): xs.set (a.toNat*12+b.toNat) len=iS xs a b len:=by
 unfold iS dX cell;rw[show(decide (xs.getD (a.toNat*12+b.toNat) 0=-1)||decide (len<xs.getD (a.toNat*12+b.toNat) 0))=true by simpa using h];rfl
theorem I6{xs:Li}{a b len:Int}(h1:xs.getD (a.toNat*12+b.toNat) 0≠-1)(h2:¬len<xs.getD (a.toNat*12+b.toNat) 0): xs=iS xs a b len:=by
 unfold iS dX cell;rw[show(decide (xs.getD (a.toNat*12+b.toNat) 0=-1)||decide (len<xs.getD (a.toNat*12+b.toNat) 0))=false by rw[qBj];exact⟨vK h1,vK h2⟩];rfl
theorem Xe(a b len:Int)(xs:Li): af Tryz.prog G0 203 [.dat I a,.dat I b,.dat I len,.ptr 1 144 0 0] [(1,.buf 174 I xs [])] ⟨Zq a b xs,.tup [],[(1,.buf 174 I (iS xs a b len) [])]⟩:=by
 refine ae (c:=mkc K12) aFa aL hm (Qv a b len xs ⟨rfl,λ⟨a0,a1,b0,b1,hl⟩=>?_⟩)
 have e:=jW xs a b len;simp only[qc,Dk,Di,qd,Dy,Dp,Dx,Dj,Du,En,Ej]
 and_intros
 all_goals try (intros;omega)
 .intro h
  and_intros
  all_goals try omega
  exact I5 h
 .rintro⟨h1,h2⟩;exact I6 h1 h2
theorem NS: ∀args m c,NT args m=some c->af Tryz.prog G0 203 args m c:=by
 intro args m c h;unfold NT at h;split at h
 .split at h
  .rename_i e;obtain⟨rfl,rfl⟩:=e;cases h;exact Xe _ _ _ _
  .cases h
 .cases h
theorem aE9: al Tryz.prog G0 K13:=aj NS aFa
theorem qz(k:Int): (gm k).length=144:=by unfold gm;rw[vY,wG]
theorem Jv: List.replicate 144 0=gm 0:=by
 unfold gm;apply xY;intro i;rw[wV,qP];by_cases h:i<144
 .rw[if_pos h,wJ h];simp
 .rw[if_neg h,zG (by rw[wG];omega)];rfl
theorem N2{x y:Int}(hx:0<=x)(hx1:x<12)(hy:0<=y)(hy1:y<12)(hne:x≠y): (gm (12*x+y)).set (x.toNat*12+y.toNat) (-1)=gm (12*x+(y+1)):=by
 apply xY;intro i;rw[xE,qz];unfold gm;rw[qP,qP];by_cases h:i<144
 .rw[wJ h];simp only[zU];by_cases e:x.toNat*12+y.toNat=i
  .subst e;rw[if_pos rfl,if_pos h,if_pos (by omega),if_neg (by omega)]
  .rw[if_neg e]
   congr 1
   by_cases g:i<(12*x+y).toNat
   .have g':i<(12*x+(y+1)).toNat:=by omega
    rw[if_pos g,if_pos g']
   .have g':¬i<(12*x+(y+1)).toNat:=by omega
    rw[if_neg g,if_neg g']
 .rw[if_neg (by omega),zG (by rw[wG];omega)];rfl
theorem Jw{x:Int}(hx:0<=x)(hx1:x<12): gm (12*x+x)=gm (12*x+(x+1)):=by
 unfold gm;apply zT;intro i hi;have:=qU.1 hi;by_cases g:i<(12*x+x).toNat
 .have g':i<(12*x+(x+1)).toNat:=by omega
  rw[if_pos g,if_pos g']
 .rw[if_neg g];split
  .rw[if_pos (by omega)]
  .rfl
theorem N3(ls:Ll): gm (12*12)=iE ls 0:=by
 unfold iE gm FK;rw[show(Int.toNat 0)=0 from rfl,qCi,List.foldl_nil]
 apply zT;intro i hi;rw[if_pos (by have:=qU.1 hi;omega)]
theorem yx(ls:Ll)(k:Int): (iE ls k).length=144:=oD _
theorem FA{ls:Ll}{k:Int}(h0:0<=k)(h1:k<ls.length)(d:Line): iS (iE ls k) (ls.getD k.toNat d).2.1 (ls.getD k.toNat d).2.2.1 (ls.getD k.toNat d).2.2.2.2.1=iE ls (k+1):=by
 unfold iE;rw[show(k+1).toNat=k.toNat+1 by omega,wZ,qA,qB (show k.toNat<ls.length by omega),qBw]
 rfl
theorem Jk(ls:Ll){k:Int}(h:¬k<ls.length): iE ls k=fwD ls 0 0 0:=by
 unfold iE;rw[qO (by omega)];rfl
theorem wy(ls:Ll)(o a b:Int): (fwD ls o a b).length=144:=pI ls _
theorem YE{ls:Ll}{o a:Int}: fwD ls o a 12=fwD ls o (a+1) 0:=by
 unfold fwD;congr 2;omega
theorem YF{ls:Ll}{o:Int}: fwD ls o 12 0=fwD ls (o+1) 0 0:=by
 unfold fwD;congr 2;omega
theorem HJ{ls:Ll}{o a b:Int}(o0:0<=o)(o1:o<12)(a0:0<=a)(a1:a<12)(b0:0<=b)(b1:b<12): fwD ls o a (b+1)=xw (fwD ls o a b) (o.toNat*144+a.toNat*12+b.toNat):=by
 unfold fwD;rw[show(o*144+a*12+(b+1)).toNat=(o.toNat*144+a.toNat*12+b.toNat)+1 by omega,show(o*144+a*12+b).toNat=o.toNat*144+a.toNat*12+b.toNat by omega,zb]
theorem YD{ls:Ll}{o a b:Int}(o0:0<=o)(o1:o<12)(a0:0<=a)(a1:a<12)(b0:0<=b)(b1:b<12)
  (h1:(fwD ls o a b).getD (a.toNat*12+o.toNat) 0≠-1) (h2:(fwD ls o a b).getD (o.toNat*12+b.toNat) 0≠-1):
  iS (fwD ls o a b) a b ((fwD ls o a b).getD (a.toNat*12+o.toNat) 0+(fwD ls o a b).getD (o.toNat*12+b.toNat) 0)=fwD ls o a (b+1):=by
 rw[HJ o0 o1 a0 a1 b0 b1];unfold xw;rw[show(o.toNat*144+a.toNat*12+b.toNat)/12%12=a.toNat by omega,show(o.toNat*144+a.toNat*12+b.toNat)/144=o.toNat by omega,show(o.toNat*144+a.toNat*12+b.toNat)%12=b.toNat by omega]
 unfold cell;rw[show((fwD ls o a b).getD (a.toNat*12+o.toNat) 0 != -1&&(fwD ls o a b).getD (o.toNat*12+b.toNat) 0 != -1)=true by simp only[qC,qCz];exact⟨h1,h2⟩,qBc]
 unfold iS;rw[vF a0,vF b0]
theorem aBl{ls:Ll}{o a b:Int}(o0:0<=o)(o1:o<12)(a0:0<=a)(a1:a<12)(b0:0<=b)(b1:b<12)
  (h:(fwD ls o a b).getD (a.toNat*12+o.toNat) 0≠-1->(fwD ls o a b).getD (o.toNat*12+b.toNat) 0=-1):fwD ls o a b=fwD ls o a (b+1):=by
 rw[HJ o0 o1 a0 a1 b0 b1];unfold xw;rw[show(o.toNat*144+a.toNat*12+b.toNat)/12%12=a.toNat by omega,show(o.toNat*144+a.toNat*12+b.toNat)/144=o.toNat by omega,show(o.toNat*144+a.toNat*12+b.toNat)%12=b.toNat by omega]
 unfold cell;rw[show((fwD ls o a b).getD (a.toNat*12+o.toNat) 0 != -1&&(fwD ls o a b).getD (o.toNat*12+b.toNat) 0 != -1)=false by
  rw[Bool.and_eq_false_imp];intro g;rw[qCz]at g;rw[h g];rfl,qBe]
theorem LM(cs:LC)(ns os:LB)(fs:Lo)(ls:Ll)(ks:Lk): af Tryz.prog G0 130 [net cs ns os fs ls ks] [] ⟨noP (cs,ns,os,fs,ls,ks),.av I (bH ls),[]⟩:=by
 refine ae (c:=mkc K13) aE9 aL hm (Ip cs ns os fs ls ks ⟨rfl,λhp=>?_⟩)
 obtain⟨ok,hls⟩:=oC cs ns os fs ls ks hp;simp only[qc,Dk,qd,Ea,Dp,Df,Dc,Dx,Dj,Du,En,Ej];have z12:upN 0 12:=⟨by decide,by decide⟩
 refine⟨⟨0,z12,rfl,Jv⟩,λx ⟨x0,x1⟩=>⟨λhx=>⟨⟨0,z12,rfl,by rw[Int.add_zero]⟩,λy ⟨y0,y1⟩=>⟨λhy=>⟨λhne=>?_,λhe=>?_⟩,λhy=>?_⟩⟩,λhx=>?_⟩⟩
 .have:=qz (12*x+y)
  and_intros
  all_goals try omega
  exact⟨y+1,⟨by omega,by omega⟩,⟨rfl,N2 x0 hx y0 hy hne⟩,by omega⟩
 .subst he;exact⟨⟨by omega,by omega⟩,x+1,⟨by omega,by omega⟩,⟨rfl,Jw x0 hx⟩,by omega⟩
 .have:y=12:=by omega
  subst this;exact⟨⟨by omega,by omega⟩,x+1,⟨by omega,by omega⟩,⟨rfl,by congr 1;omega⟩,by omega⟩
 have ex:x=12:=by omega
 subst ex;refine⟨⟨0,⟨qM _,vC _⟩,rfl,N3 ls⟩,λk ⟨k0,k1⟩=>⟨λhk=>?_,λhk=>?_⟩⟩
 .have ho:=ok.at_ _ (getD_mem (l:=ls) (i:=k.toNat) (d:=(⟨#[]⟩,0,0,0,0,0)) (by omega))
  have hn:=ok.n12;unfold br lTo at ho;have e1:=yx ls k;refine⟨k0,hk,⟨by omega,by omega,by omega,by omega,e1⟩,by rw[jW]<;>exact qK _,⟨by omega,by omega⟩,k+1,⟨by omega,by omega⟩,⟨rfl,FA k0 hk _⟩,by omega⟩
 refine⟨⟨0,z12,rfl,Jk ls hk⟩,λo ⟨o0,o1⟩=>⟨λho=>⟨⟨0,z12,rfl,rfl⟩,λa ⟨a0,a1⟩=>⟨λha=>⟨⟨0,z12,rfl,rfl⟩,λb ⟨b0,b1⟩=>⟨λhb=>?_,λhb=>?_⟩⟩,λha=>?_⟩⟩,λho=>?_⟩⟩
 .have e1:=wy ls o a b;have bd1:=Cb ok (k:=(o*144+a*12+b).toNat) (by omega) (a:=a.toNat) (b:=o.toNat) (by omega) (by omega)
  have bd2:=Cb ok (k:=(o*144+a*12+b).toNat) (by omega) (a:=o.toNat) (b:=b.toNat) (by omega) (by omega)
  have bd1:-1<=(fwD ls o a b).getD (a.toNat*12+o.toNat) 0/\(fwD ls o a b).getD (a.toNat*12+o.toNat) 0<=20480000:=bd1;have bd2:-1<=(fwD ls o a b).getD (o.toNat*12+b.toNat) 0/\(fwD ls o a b).getD (o.toNat*12+b.toNat) 0<=20480000:=bd2
  and_intros
  all_goals try (intros;omega)
  .rintro⟨h1,h2⟩;have e2:=jW (fwD ls o a b) a b ((fwD ls o a b).getD (a.toNat*12+o.toNat) 0+(fwD ls o a b).getD (o.toNat*12+b.toNat) 0);have e3:=YD o0 ho a0 ha b0 hb h1 h2
   and_intros
   all_goals try omega
   exact⟨b+1,⟨by omega,by omega⟩,⟨rfl,e3⟩,by omega⟩
  .intro h;exact⟨⟨by omega,by omega⟩,b+1,⟨by omega,by omega⟩,⟨rfl,aBl o0 ho a0 ha b0 hb h⟩,by omega⟩
 .have:b=12:=by omega
  subst this;exact⟨⟨by omega,by omega⟩,a+1,⟨by omega,by omega⟩,⟨rfl,YE⟩,by omega⟩
 .have:a=12:=by omega
  subst this;exact⟨⟨by omega,by omega⟩,o+1,⟨by omega,by omega⟩,⟨rfl,YF⟩,by omega⟩
 .have:o=12:=by omega
  subst this;have e1:=wy ls 12 0 0;have e2:(Fz 144 (0:Int)).length=144:=wQ
  and_intros
  all_goals try omega
  rfl
theorem aE8: al Tryz.prog G0 K14:=aj (ag λ((cs,ns,os,fs,ls,ks),_)=>LM cs ns os fs ls ks) aE9
end Go.Eng.Sv
set_option maxRecDepth 100000
namespace Go.Eng.Sv
open Go.Proofs
theorem Tj{n:Net}(h:¬(((fe n).length:Nat):Int)>0): noF n=true:=tj.2 (vT (by omega))
theorem Nz{n:Net}(h:(((fe n).length:Nat):Int)>0): noF n=false:=by
 cases e:noF n with
 | false=>rfl
 | true=>rw[tj.1 e]at h;simp at h
theorem Hf: (Fz 144 (0:Int)).length=144:=wQ
theorem Bf(ls:Ll): (bH ls).length=144:=pI ls _
theorem qj(m:Int)(ls:Ll): bG m ls 0=[]:=rfl
theorem EI(m:Int)(ls:Ll)(k:Int): (bG m ls k).length<=k.toNat:=by
 unfold bG;exact wH (qDd _ _) (by rw[wG];exact qK _)
theorem EH{m:Int}{ls:Ll}{k:Int}(h0:0<=k)(h:vQ m.toNat ls k.toNat=true): bG m ls (k+1)=bG m ls k++[(3,k,111)]:=by
 unfold bG;rw[show(k+1).toNat=k.toNat+1 by omega,zV,qBa]
 simp[vF h0,h]
theorem I8{m:Int}{ls:Ll}{k:Int}(h:vQ m.toNat ls k.toNat=false)(h0:0<=k): bG m ls (k+1)=bG m ls k:=by
 unfold bG;rw[show(k+1).toNat=k.toNat+1 by omega,zV,qBa]
 simp[h]
theorem I9{m:Int}{ls:Ll}{a b:Int}(a0:0<=a)(a1:a<m)(h:(bH ls).getD (a.toNat*12+b.toNat) 0=-1): vQ m.toNat ls b.toNat=true:=
 kG.2 ⟨a.toNat,qU.2 (by omega),qW h⟩
theorem E0{m:Int}{ls:Ll}{a b:Int}(hm:tt m ls b a)(a1:a<m)(h:(bH ls).getD (a.toNat*12+b.toNat) 0≠-1): tt m ls b (a+1):=by
 obtain⟨h0,h1,h2⟩:=hm;refine⟨by omega,by omega,?_⟩
 rw[show(a+1).toNat=a.toNat+1 by omega,zV,qAa,h2]
 simp only[qAr,List.all_nil,qAe,zQ];exact qW h
theorem Jh{m:Int}{ls:Ll}{a b:Int}(hm:tt m ls b a)(a1:¬a<m): vQ m.toNat ls b.toNat=false:=by
 obtain⟨h0,h1,h2⟩:=hm;have:a=m:=by omega
 subst this;unfold vQ;rw[qBx];intro x hx;have:=qL.1 h2 x hx;simpa using this
theorem XB(cs:LC)(ns os:LB)(fs:Lo)(ls:Ll)(ks:Lk): af Tryz.prog G0 64 [net cs ns os fs ls ks] [] ⟨True,.dat (.sl Fa) (fm (cs,ns,os,fs,ls,ks)),[]⟩:=by
 refine ae (c:=mkc K14) aE8 aL hm (QY cs ns os fs ls ks ⟨rfl,λ_=>?_⟩)
 simp only[qc,qd,Dy,Dp,Ei,Df,Dc,Dx,Dj,Du,Ef,Ej];refine⟨λh=>by unfold fm;rw[Nz h];rfl,λh=>?_⟩
 have hno:=Tj h;have hf:=tj.1 hno;obtain⟨ok,hls⟩:=oC cs ns os fs ls ks hno;have hn:=ok.n12;have e1:=Bf ls;refine⟨hno,Hf,Hf,e1,⟨0,⟨qM _,vC _⟩,by rw[hf,qj],rfl,by rw[hf,qj]⟩,λb ⟨b0,b1⟩=>⟨λhb=>⟨⟨qM _,vC _,by simp⟩,λa ha=>⟨λhlt=>?_,λhge=>?_⟩⟩,λhb=>?_⟩⟩
 .have a0:=ha.1;have hl:=EI (fs.length:Int) ls b
  and_intros
  all_goals try (intros;omega)
  .intro he;have e2:=EH b0 (I9 a0 hlt he);exact⟨by simp only[wE];omega,by simp only[wE];omega,⟨by omega,by omega⟩,b+1,⟨by omega,by omega⟩,⟨by rw[e2,qF],rfl,e2.symm⟩,by omega⟩
  .intro hne;exact⟨⟨by omega,by omega⟩,a+1,E0 ha hlt hne,rfl,by omega⟩
 .have e2:=I8 (Jh ha hge) b0;exact⟨⟨by omega,by omega⟩,b+1,⟨by omega,by omega⟩,⟨by rw[e2],rfl,e2.symm⟩,by omega⟩
 .have:b=fs.length:=by omega
  subst this;unfold fm;rw[hno];rfl
theorem o8: ∀(rs:Ll) (row:Li),(rs.foldl gV row).length=row.length
 | [],_=>rfl
 | l::rs,row=>by rw[kS,o8 rs,kB]
theorem xf(ls:Ll)(m a:Nat): ∀r,(bfN ls m a r).length=m
 | 0=>by show(oZ m a).length=m;simp[oZ]
 | r+1=>by rw[Ag];unfold Af;rw[o8,xf ls m a r]
theorem O3{m:Nat}{ls:Ll}(ok:cB m ls){row:Li}(hr:row.length=m){l:Line}(hl:l∈ls){K:Int}(h:∀b,at1 row b<=K): ∀b,at1 (gV row l) b<=K+5000:=by
 intro b;have o:=ok.at_ l hl;rw[oY (by rw[hr];omega)]
 have h1:=h b;have h2:=h (br l).toNat;split<;>omega
theorem C6{m:Nat}{ls:Ll}(ok:cB m ls): ∀(rs:Ll) (row:Li) (K:Int),(∀l∈rs,l∈ls)->row.length=m->(∀b,at1 row b<=K)->∀b,at1 (rs.foldl gV row) b<=K+5000*rs.length
 | [],_,_,_,_,h=>λb=>by have:=h b;simpa using this
 | l::rs,row,K,hs,hr,h=>λb=>by
  have:=C6 ok rs (gV row l) (K+5000) (λx hx=>hs x (by simp[hx])) (by rw[kB];exact hr) (O3 ok hr (hs l (by simp)) h) b
  rw[kS,wS];omega
theorem aBJ{m:Nat}{ls:Ll}(ok:cB m ls)(hls:ls.length<=40)(a:Nat): ∀(r:Nat) b,at1 (bfN ls m a r) b<=200000*r
 | 0,b=>by
  show at1 (oZ m a) b<=_;unfold at1 oZ;rw[qA,qP];by_cases h:b<m
  .rw[wJ h];simp only[zU,qR];split<;>omega
  .rw[zG (by rw[wG];omega)]
   simp
 | r+1,b=>by
  rw[Ag];have:=C6 ok ls (bfN ls m a r) (200000*r) (λ_ h=>h) (xf ls m a r) (aBJ ok hls a r) b
  unfold Af;omega
theorem aFI: al Tryz.prog G0 K15:=
 aj (ag λ((cs,ns,os,fs,ls,ks),_)=>XB cs ns os fs ls ks) aE8
theorem any_congr{α:Type}{p q:α->Bool}: ∀{l:List α},(∀x∈l,p x=q x)->l.any p=l.any q
 | [],_=>rfl
 | a::l,h=>by rw[qDr,qDr,h a (by simp),any_congr λx hx=>h x (by simp[hx])]
theorem aFH: al Tryz.prog G0 K16:=aFI
end Go.Eng.Sv
set_option maxRecDepth 100000
namespace Go.Eng.Sv
open Go.Proofs
theorem Vo{l:List ByteArray}: (∀i:Int,0<=i->i<l.length->rule2 l i=0)↔l.Pairwise (λa b=>a.toList≠b.toList):=by
 have key:∀i:Nat,∀h:i<l.length,rule2 l (i:Int)=0↔∀j,∀hj:j<i,(l[j]'(by omega)).toList≠l[i].toList:=by
  intro i hi;unfold rule2 gy;rw[qQ,qA,qB hi,qR];constructor
  .intro h j hj e;split at h
   .cases h
   .rename_i hn;refine hn (kG.2 ⟨l[j]'(by omega),wX.2 ⟨j,by rw[qI];omega,by rw[qCw]⟩,?_⟩)
    rw[e];exact yM _
  .intro h;rw[if_neg];intro hn;obtain⟨w,hw,he⟩:=kG.1 hn;obtain⟨j,hj,rfl⟩:=wX.1 hw;rw[qI]at hj;rw[qCw]at he;exact h j (by omega) (xU.1 he)
 rw[List.pairwise_iff_getElem];constructor
 .intro h i j hi hj hij;exact(key j hj).1 (h j (by omega) (by omega)) i hij
 .intro h i i0 i1;have:=(key i.toNat (by omega)).2 λj hj=>h j i.toNat (by omega) (by omega) hj
  rwa [vF i0]at this
theorem oI{kind lim:Int}{l:List ByteArray}{g:List Bool}(h0:0<=lim): bD kind lim l g=[]↔(l.length:Int)<=lim/\(∀x∈l,cj x=true)/\l.Pairwise (λa b=>a.toList≠b.toList)/\∀i,i<l.length->g.getD i false=true:=by
 have nm:∀i:Nat,∀h:i<l.length,gy l (i:Int)=l[i]:=λi hi=>by
  unfold gy;rw[qQ,qA,qB hi,qR]
 constructor
 .intro h;obtain⟨h1,h2⟩:=tN h0 h;refine⟨h1,λx hx=>?_,Vo.1 λi i0 i1=>(oN (h2 i i0 i1)).2.1,λi hi=>?_⟩
  .obtain⟨i,hi,rfl⟩:=wX.1 hx;have:=(oN (h2 i (by omega) (by omega))).1
   unfold bF at this;rw[nm i hi]at this;split at this
   .assumption
   .cases this
  .have:=vA (oN (h2 i (by omega) (by omega))).2.2
   rwa [qQ]at this
 .rintro⟨h1,h2,h3,h4⟩;unfold bD aS Jb;rw[if_neg (by omega),wL,qDa]
  intro i hi;have hi:=qU.1 hi;have hlt:i<l.length:=by omega
  have e1:bF l (i:Int)=0:=by unfold bF;rw[nm i hlt,if_pos (h2 _ (wO hlt))]
  have e2:=Vo.2 h3 (i:Int) (by omega) (by omega)
  have e3:bN g (i:Int)=0:=by unfold bN;rw[qQ,if_pos (h4 i hlt)]
  have:HU l g (i:Int)=0:=by unfold HU;rw[e1,e2,e3];rfl
  rw[if_pos this]
theorem kp{α:Type}{kind lim:Int}(h0:0<=lim)(nm:α->ByteArray)(good:α->Bool)(xs:List α): bD kind lim (xs.map nm) (xs.map good)=[] ↔
  (xs.length:Int)<=lim/\(∀x∈xs,cj (nm x)=true)/\xs.Pairwise (λa b=>(nm a).toList≠(nm b).toList)/\∀x∈xs,good x=true:=by
 rw[oI h0,vY,qBv];constructor
 .rintro⟨h1,h2,h3,h4⟩;refine⟨h1,λx hx=>h2 _ (List.mem_map_of_mem hx),h3,λx hx=>?_⟩
  obtain⟨i,hi,rfl⟩:=wX.1 hx;have:=h4 i hi
  rwa [qA,qP,qB hi,zU,qR]at this
 .rintro⟨h1,h2,h3,h4⟩;refine⟨h1,λx hx=>?_,h3,λi hi=>?_⟩
  .obtain⟨y,hy,rfl⟩:=vZ.1 hx;exact h2 y hy
  .rw[qA,qP,qB hi,zU,qR];exact h4 _ (wO hi)
theorem jy(cs:LC)(ns os:LB)(fs:Lo)(ls:Ll)(ks:Lk)(h:noF (cs,ns,os,fs,ls,ks)=true): (ls.length:Int)<=40/\(∀x∈ls,cj x.1=true)/\ls.Pairwise (λa b=>a.1.toList≠b.1.toList)/\∀x∈ls,di (cs,ns,os,fs,ls,ks) x=true:=
 (kp (by decide) (λl:Line=>l.1) (di (cs,ns,os,fs,ls,ks)) ls).1 (hC cs ns os fs ls ks h).2.2.2.2.1
theorem Walk.map {ls rs:Ll} (h:∀l∈ls,∃r∈rs,br r=br l/\lTo r=lTo l/\aY r<=aY l) {a b:Nat} {n:Int} (w:Walk ls a b n):∃m,m<=n/\Walk rs a b m:=by
 induction w with
 | nil=>exact⟨0,qM _,.nil _⟩
 | snoc l hl _ ih=>
  obtain⟨m,hm,g⟩:=ih;obtain⟨r,hr,e1,e2,e3⟩:=h l hl;rw[<- e1]at g;exact⟨m+aY r,by omega,e2▸.snoc r hr g⟩
theorem Walk.ends {ls rs:Ll} (h:∀l∈ls,∃r∈rs,br r=br l/\lTo r=lTo l) {a b:Nat} {n:Int} (w:Walk ls a b n):∃m,Walk rs a b m:=by
 induction w with
 | nil=>exact⟨0,.nil _⟩
 | snoc l hl _ ih=>
  obtain⟨m,g⟩:=ih;obtain⟨r,hr,e1,e2⟩:=h l hl;rw[<- e1]at g;exact⟨m+aY r,e2▸.snoc r hr g⟩
end Go.Eng.Sv
set_option maxRecDepth 100000
namespace Go.Eng.Sv
open Go.Proofs
noncomputable def K18: Kt:=K16
noncomputable def K19: Kt:=K18
theorem aEw: al Tryz.prog G0 K18:=aFH
theorem bA{x:Int}(h:-1000000000<=x/\x<=1000000000): inR .i64 x:=by unfold inR;simp only;omega
theorem gb(cs:LC)(ns os:LB)(fs:Lo)(ls:Ll)(ks:Lk)(h:noF (cs,ns,os,fs,ls,ks)=true): (fs.length:Int)<=12/\(∀x∈fs,cj x.1=true)/\fs.Pairwise (λa b=>a.1.toList≠b.1.toList)/\∀x∈fs,cT (cs,ns,os,fs,ls,ks) x=true:=
 (kp (by decide) (λl:Off=>l.1) (cT (cs,ns,os,fs,ls,ks)) fs).1 (hC cs ns os fs ls ks h).2.2.2.1
theorem aEv: al Tryz.prog G0 K19:=aEw
theorem xb(cs:LC)(ns os:LB)(fs:Lo)(ls:Ll)(ks:Lk): fm (cs,ns,os,fs,ls,ks)=[]↔noF (cs,ns,os,fs,ls,ks)=true/\bG fs.length ls fs.length=[]:=by
 unfold fm;cases h:noF (cs,ns,os,fs,ls,ks)with
 | true=>exact⟨λg=>⟨rfl,g⟩,λg=>g.2⟩
 | false=>
  constructor
  .intro g;have:noF (cs,ns,os,fs,ls,ks)=true:=tj.2 g;rw[h]at this;cases this
  .intro g;cases g.1
end Go.Eng.Sv
set_option maxRecDepth 100000
noncomputable section
namespace Go.Eng.Sv
open Go.Proofs
def PO(a b:Int): Int:=a%b
def bW(d:Int): Bool:=decide (-1000000<=d/\d<=1000000)
def om(d:Int): Prop:=-1000000000000<=d/\d<=1000000000000
def EP(b:Int): Prop:=0<b/\b<=1000000
def gw(z:Int)(w:List Bool)(h:Li)(t:Int): Prop:=ax z w h=true/\-2000000000<=t/\t<=2000000000
def lN(z:Int)(w:List Bool)(h:Li)(d m:Int): Prop:=ax z w h=true/\bW d=true/\0<=m/\m<1440
def fu(z t:Int): Int:=(t+z)/1440
def J9(z t:Int): Int:=(t+z)%1440
def jb(z d m:Int): Int:=d*1440+m-z
theorem ZP(a b:Int)(hvc:
 let c1:=Dp (Fq a b) 0;let c2:=Fq a b+b;true/\(om a/\EP b->b≠0/\(c1->inR .i64 c2/\c2=PO a b/\True)/\(c1=false->Fq a b=PO a b/\True))):
  evF (mkc K19) aA 162 [.dat I a,.dat I b] [] ⟨om a/\EP b,.dat I (PO a b),[]⟩:=oE hvc
theorem IA(a:Int)(hvc:
 let c1:=Ed a (-1000000);true/\(True->(c1->c1->c1)/\(Dk true c1->c1)/\Eb c1 (Eh a 1000000) false=bW a/\True)):
  evF (mkc K19) aA 163 [.dat I a] [] ⟨True,.dat .bool (bW a),[]⟩:=oE hvc
def KT1: Kt:=kOr 162 (ay [.val I,.val I] (λ(a,b,_)=>om a/\EP b) λ(a,b,_)=>.dat I (PO a b)) <|
 kOr 163 (ay [.val I] (λ_=>True) λ(a,_)=>.dat .bool (bW a)) K19
theorem QK(z:Int)(w:List Bool)(h:Li)(t:Int)(hvc:
 let c1:=Di (ax z w h);let c2:=Di c1;let c3:=Eb c1 true (Dp t (-2000000000));let c4:=Di c3;let c5:=Eb c3 true (Ei t 2000000000);let c6:=PO (t+z) 1440;let c7:=(t+z)-c6;let c8:=Gg c7 1440;true/\(gw z w h t->True/\(c2->c2->c2)/\(Dk true c2->c2)/\(c4->c4->c4)/\(Dk true c4->c4)/\(c5->0=fu z t/\0=J9 z t/\True)/\(c5=false->inR .i64 (t+z)/\(om (t+z)/\EP 1440)/\inR .i64 c7/\Eo 1440 0/\inR .i64 c8/\c8=fu z t/\c6=J9 z t/\True))):
  evF (mkc KT1) aA 98 [cal z w h,.dat I t] [] ⟨gw z w h t,.tup [.dat I (fu z t),.dat I (J9 z t)],[]⟩:=oE hvc
theorem Wa(z:Int)(w:List Bool)(h:Li)(d m:Int)(hvc:
 let c1:=Di (ax z w h);let c2:=Di c1;let c3:=Eb c1 true (Di (bW d));let c4:=Di c3;let c5:=Eb c3 true (Dp m 0);let c6:=Di c5;let c7:=Eb c5 true (Ed m 1440);let c8:=d*1440;let c9:=c8+m;let c10:=c9-z;true/\(lN z w h d m->True/\(c2->c2->c2)/\(c2->True)/\(c2->c2->c2)/\(Dk true c2->c2)/\(c4->c4->c4)/\(Dk true c4->c4)/\(c6->c6->c6)/\(Dk true c6->c6)/\(c7->0=jb z d m/\True)/\(c7=false->inR .i64 c8/\inR .i64 c9/\inR .i64 c10/\c10=jb z d m/\True))):
  evF (mkc KT1) aA 99 [cal z w h,.dat I d,.dat I m] [] ⟨lN z w h d m,.dat I (jb z d m),[]⟩:=oE hvc
def KT2: Kt:=kOr 98 (ay [.row C,.val I] (λ(c,t,_)=>gw c.1 c.2.1 c.2.2 t) λ(c,t,_)=>.tup [.dat I (fu c.1 t),.dat I (J9 c.1 t)]) <|
 kOr 99 (ay [.row C,.val I,.val I] (λ(c,d,m,_)=>lN c.1 c.2.1 c.2.2 d m) λ(c,d,m,_)=>.dat I (jb c.1 d m)) KT1
theorem aDK(a b:Int): af Tryz.prog G0 162 [.dat I a,.dat I b] [] ⟨om a/\EP b,.dat I (PO a b),[]⟩:=by
 refine ae (c:=mkc K19) aEv aL hm (ZP a b ⟨rfl,λ⟨⟨h1,h2⟩,h3,h4⟩=>?_⟩)
 have e:=qBi (a:=a) (b:=b);have e1:=qAc a (show b≠0 by omega)
 have e2:=kM a h3;have e3:(b.natAbs:Int)=b:=Int.natAbs_of_nonneg (by omega)
 simp only[Dp,Fq,PO,inR,qE,vW];by_cases hc:0<=a\/b ∣ a
 .rw[if_pos hc]at e;refine⟨by omega,λh=>by omega,λh=>⟨by omega,trivial⟩⟩
 .rw[if_neg hc,e3]at e;have hz:a%b≠0:=λh0=>hc (.inr (Int.dvd_of_emod_eq_zero h0))
  refine⟨by omega,λh=>⟨by omega,by omega,trivial⟩,λh=>by omega⟩
theorem MI(a:Int): af Tryz.prog G0 163 [.dat I a] [] ⟨True,.dat .bool (bW a),[]⟩:=by
 refine ae (c:=mkc K19) aEv aL hm (IA a ⟨rfl,λ_=>⟨λh _=>h,λh=>by simpa[Dk]using h,?_,trivial⟩⟩)
 rw[jf];simp[bW,Ed,Eh]
theorem aEk: al Tryz.prog G0 KT1:=aj (ag λ(a,b,_)=>aDK a b)<|aj (ag λ(a,_)=>MI a) aEv
theorem XV(z:Int)(w:List Bool)(h:Li)(t:Int): af Tryz.prog G0 98 [cal z w h,.dat I t] [] ⟨gw z w h t,.tup [.dat I (fu z t),.dat I (J9 z t)],[]⟩:=by
 refine ae (c:=mkc KT1) aEk aL hm (QK z w h t ⟨rfl,λ⟨hv,h1,h2⟩=>?_⟩)
 obtain⟨⟨v1,v2,v3,v4⟩,_⟩:=bM.1 hv;have a1:¬t < -2000000000:=by omega
 have a2:¬t>2000000000:=by omega
 simp only[hv,a1,a2,jf,Dk,Di,zS,vN,qBr,yC,yF,Dp,Ei,kQ,vV,qAe,qAs,qAq,kP,Eo,Gg,inR,PO,fu,J9,om,EP];have e0:=qAc (t+z) (show(1440:Int)≠0 by omega)
 have e1:=kM (t+z) (show(0:Int)<1440 by omega)
 have e3:t+z-(t+z)%1440=1440*((t+z)/1440):=by omega
 rw[e3,qDf _ (by omega)]
 omega
theorem aAG(z:Int)(w:List Bool)(h:Li)(d m:Int): af Tryz.prog G0 99 [cal z w h,.dat I d,.dat I m] [] ⟨lN z w h d m,.dat I (jb z d m),[]⟩:=by
 refine ae (c:=mkc KT1) aEk aL hm (Wa z w h d m ⟨rfl,λ⟨hv,hd,h1,h2⟩=>?_⟩)
 obtain⟨⟨v1,v2,v3,v4⟩,_⟩:=bM.1 hv;have a1:¬m<0:=by omega
 have a2:¬m≥1440:=by omega
 simp only[hv,hd,a1,a2,jf,Dk,Di,zS,vN,qBr,yC,yF,Dp,Ed,kQ,vV,qAe,qAs,qAq,kP,inR,jb];unfold bW at hd;have:=vO hd;omega
theorem aEh: al Tryz.prog G0 KT2:=aj (ag λ((z,w,h),t,_)=>XV z w h t)<|aj (ag λ((z,w,h),d,m,_)=>aAG z w h d m) aEk
end Go.Eng.Sv
set_option maxRecDepth 100000
noncomputable section
namespace Go.Eng.Sv
open Go.Proofs
def B9(h:Li)(d i:Int): Bool:=decide (h.getD i.toNat 0≥d)
def PX(h:Li)(i:Int): Prop:=0<=i/\i<h.length
def iw(g:Int->Bool)(n:Int): Int:=(((List.range n.toNat).filter λ(i:Nat)=>!g (i:Int)).length:Int)
def jU(g:Int->Bool)(pre:Int->Prop)(n:Int): Prop:=0<=n/\n<=1000000/\(∀i,0<=i->i<n->pre i)/\∀i j,0<=i->i<=j->j<n->g i=true->g j=true
def mr(g:Int->Bool)(n i j:Int): Prop:=0<=i/\i<=j/\j<=n/\(0<i->g (i-1)=false)/\(j<n->g j=true)
def atS(h:Li)(d:Int): Int:=iw (B9 h d) h.length
def bP(w:List Bool)(h:Li)(d:Int): Bool:=w.getD (d%7).toNat false&&!h.contains d
def p1(x:Int×Int): Int:=x.1
def p2(x:Int×Int): Int:=x.2
def uV(w:List Bool)(h:Li): Prop:=w.length=7/\h.length<=40/\∀i:Nat,i+1<h.length->h.getD i 0<h.getD (i+1) 0
theorem aCR(i d z:Int)(w:List Bool)(h:Li)(hvc:
 true/\(PX h i->0<=i/\i<Df h/\Ed (Du h (Dc i) 0) d=B9 h d i/\True)):
  evF (mkc KT2) aA 267 [.dat I i,.ip C (z,w,h),.ip I d] [] ⟨PX h i,.dat .bool (B9 h d i),[]⟩:=oE hvc
def XM(g:Int->Bool)(n:Int): Ann:=⟨λid s=>match id with
 | 2=>some {α:=Int×Int,inv:=λx=>mr g n (p1 x) (p2 x),st:=λx=>put s [(5,.dat I (p1 x)),(6,.dat I (p2 x))],μ:=λx=>Dc (Dh (p2 x) (p1 x))}
 | _=>none,λ_ _=>none,λ_ _=>none⟩
theorem KD(n:Int)(pre:Int->Prop)(g:Int->Bool)(hvc:
 let c6:=Ty.int IntKind.i64;true/\(jU g pre n->(∃x,mr g n (p1 x) (p2 x)/\AV.clo1 c6 Ty.bool pre g=AV.clo1 c6 Ty.bool pre g/\(0:Int)=(0:Int)/\0=p1 x/\n=p2 x/\True)/\∀(x:Int×Int),let c1:=Dp (p1 x) (p2 x);let c2:=p1 x+p2 x;let c3:=Gh c2 1;let c4:=Di (g c3);let c5:=c3+1;mr g n (p1 x) (p2 x)->(c1->inR .i64 c2/\inR IntKind.u64 c2/\Dl 0 1/\Dc 1<=(64)/\inR .i64 c3/\pre c3/\(c4->inR .i64 c5/\∃y,mr g n (p1 y) (p2 y)/\(AV.clo1 c6 Ty.bool pre g=AV.clo1 c6 Ty.bool pre g/\(0:Int)=(0:Int)/\c5=p1 y/\p2 x=p2 y/\True)/\Dc (p2 y-p1 y)<Dc (p2 x-p1 x))/\(c4=false->∃y,mr g n (p1 y) (p2 y)/\(AV.clo1 c6 Ty.bool pre g=AV.clo1 c6 Ty.bool pre g/\(0:Int)=(0:Int)/\p1 x=p1 y/\c3=p2 y/\True)/\Dc (p2 y-p1 y)<Dc (p2 x-p1 x)))/\(c1=false->p1 x=iw g n/\True))):
  evF (mkc KT2) (lvA [(2,[1,4,5,6,7])] (XM g n)) 266 [.dat I n,.clo1 I .bool pre g] [] ⟨jU g pre n,.dat I (iw g n),[]⟩:=oE hvc
def KT3: Kt:=λf args m=>match f,args,m with
 | 267,[.dat (.int .i64) i,.ip (.pair (.int .i64) (.pair (.sl .bool) (.sl (.int .i64)))) c,.ip (.int .i64) d],[]=>some ⟨PX c.2.2 i,.dat .bool (B9 c.2.2 d i),[]⟩
 | 266,[.dat (.int .i64) n,.fn 267 [.ip (.pair (.int .i64) (.pair (.sl .bool) (.sl (.int .i64)))) c,.ip (.int .i64) d]],[]=>some ⟨jU (B9 c.2.2 d) (PX c.2.2) n,.dat I (iw (B9 c.2.2 d) n),[]⟩
 | _,_,_=>KT2 f args m
def aCJ: Ann:=⟨λ_ _=>none,λid s=>match id with
 | 3=>some (frz (allNames s) s)
 | _=>none,λ_ _=>none⟩
theorem Qc(d z:Int)(w wk:List Bool)(h:Li)(hvc:
 let c9:=Df h;let c1:=PO d 7;let c2:=Du wk (Dc c1) false;let c3:=Di c2;let c4:=(z,w,h);let c5:=iw (B9 h d) c9;let c6:=Dy c5 c9;let c7:=Di c6;let c8:=c7->c7->c7;true/\(uV wk h/\om d->(om d/\EP 7)/\Dj wk=7/\0<=c1/\c1<Dx (7)/\(c3->false=bP wk h d/\True)/\(c3=false->d=d/\wk=wk/\c4=c4/\d=d/\false=false/\d=d/\c1=c1/\c2=c2/\c2=c2/\c3=c3/\jU (B9 h d) (PX h) c9/\c8/\c8/\c8/\(c7->0<=c5)/\(c7->c5<Df h)/\c8/\c8/\c8/\(Dk true c7->c7)/\Eb c6 true (Ea (Du h (Dc c5) 0) d)=bP wk h d/\True))):
  evF (mkc KT3) aCJ 265 [.dat I d,.ia .bool wk,.ip C (z,w,h)] [] ⟨uV wk h/\om d,.dat .bool (bP wk h d),[]⟩:=oE hvc
theorem Ky(z:Int)(w:List Bool)(h:Li)(hvc:
 let c3:=Fz (7) false;let c1:=Gl c3 w;let c2:=(z,w,h);true/\(Dj w=7->0=0/\7=7/\Dj c3=7/\Dj c3=7/\Dj c1=7/\0=0/\c1=w/\c2=c2/\True)):
  evF (mkc KT3) aA 221 [cal z w h] [] ⟨Dj w=7,.fn 265 [.ia .bool w,.ip C (z,w,h)],[]⟩:=oE hvc
def KT4: Kt:=λf args m=>match f,args,m with
 | 265,[.dat (.int .i64) d,.ia .bool w,.ip (.pair (.int .i64) (.pair (.sl .bool) (.sl (.int .i64)))) c],[]=>some ⟨uV w c.2.2/\om d,.dat .bool (bP w c.2.2 d),[]⟩
 | 221,[.agg [.dat (.int .i64) z,.dat (.sl .bool) w,.dat (.sl (.int .i64)) h]],[]=>some ⟨Dj w=7,.fn 265 [.ia .bool w,.ip C (z,w,h)],[]⟩
 | _,_,_=>KT3 f args m
theorem WU(z:Int)(w:List Bool)(h:Li)(d:Int)(hvc:
 let c1:=Eb (ax z w h) (bW d) false;let c2:=c1->c1->c1;true/\(ax z w h/\bW d->True/\(ax z w h->ax z w h->ax z w h)/\(ax z w h->True)/\(Dk true (ax z w h)->ax z w h)/\c2/\(c1->Dj w=7)/\c2/\c2/\(c1->uV w h/\om d)/\(Dk true c1->c1)/\Eb c1 (bP w h d) false=bP w h d/\True)):
  evF (mkc KT4) aA 286 [cal z w h,.dat I d] [] ⟨ax z w h=true/\bW d=true,.dat .bool (bP w h d),[]⟩:=oE hvc
theorem Vx{h:Li}(hi:∀i:Nat,i+1<h.length->h.getD i 0<h.getD (i+1) 0): ∀(k i:Nat),i+k+1<h.length->h.getD i 0<h.getD (i+k+1) 0
 | 0,i,hl=>hi i hl
 | k+1,i,hl=>by
  have h1:=Vx hi k i (by omega)
  have h2:=hi (i+k+1) (by omega)
  have e:i+(k+1)+1=i+k+1+1:=by omega
  rw[e];omega
theorem FN{h:Li}(hi:∀i:Nat,i+1<h.length->h.getD i 0<h.getD (i+1) 0){i j:Nat}(hij:i<j)(hj:j<h.length): h.getD i 0<h.getD j 0:=by
 have:=Vx hi (j-i-1) i (by omega)
 rwa [show i+(j-i-1)+1=j by omega]at this
theorem nI{g:Int->Bool}{i:Nat}: ∀N:Nat,(∀x:Nat,x<N->g (x:Int)=decide (i<=x))->((List.range N).filter λ(x:Nat)=>!g (x:Int)).length=min i N
 | 0,_=>by simp
 | N+1,h=>by
  rw[zV,yV,qF,nI N λx hx=>h x (by omega)]
  by_cases hN:i<=N
  .have e:g (N:Int)=true:=by rw[h N (by omega)];simpa using hN
   simp only[xO,e,yC,qBq,vV,yY,yU];omega
  .have e:g (N:Int)=false:=by rw[h N (by omega)];simpa using hN
   simp only[xO,e,yF,qBq,kC,wS,yU];omega
theorem search_end{g:Int->Bool}{pre:Int->Prop}{n i j:Int}(hp:jU g pre n)(ht:mr g n i j)(he:¬i<j): i=iw g n:=by
 obtain⟨p0,_,_,p3⟩:=hp;obtain⟨t0,t1,t2,t3,t4⟩:=ht;have hij:i=j:=by omega
 subst hij;have key:∀x:Nat,x<n.toNat->g (x:Int)=decide (i.toNat<=x):=λx hx=>by
  by_cases hxi:i.toNat<=x
  .rw[qW hxi];exact p3 i x t0 (by omega) (by omega) (t4 (by omega))
  .rw[vK hxi];cases hg:g (x:Int)with
   | false=>rfl
   | true=>
    have:=p3 x (i-1) (by omega) (by omega) (by omega) hg
    rw[t3 (by omega)]at this
    cases this
 unfold iw;rw[nI _ key];omega
theorem Ss(n:Int)(pre:Int->Prop)(g:Int->Bool): af Tryz.prog G0 266 [.dat I n,.clo1 I .bool pre g] [] ⟨jU g pre n,.dat I (iw g n),[]⟩:=by
 refine ae (c:=mkc KT2) aEh aL hm (KD n pre g ⟨rfl,λhp=>?_⟩)
 have hp0:=hp.1;have hp1:=hp.2.1;have hsh:∀x:Int,0<=x->Gh x 1=x/2:=λx hx=>by
  simp only[Gh];rw[show(2:Int) ^ (1:Int).toNat=2 by decide,qCt _ (by omega)]
 simp only[Di,zS,vN,zL,kN,Dp,Dl,Dc,qE,vW];refine⟨⟨(0,n),⟨qM _,hp0,qM _,λh=>absurd h (by simp only[p1];omega),λh=>absurd h (by simp only[p2];omega)⟩,rfl,rfl⟩,λx hx=>⟨λhlt=>?_,λhge=>search_end hp hx hge⟩⟩
 obtain⟨i,j⟩:=x;obtain⟨t0,t1,t2,t3,t4⟩:=hx;simp only[p1,p2]at t0 t1 t2 t3 t4 hlt ⊢;rw[hsh (i+j) (by omega)]
 simp only[inR];refine⟨by omega,by omega,by omega,by decide,by omega,hp.2.2.1 _ (by omega) (by omega),λhg=>⟨by omega,((i+j)/2+1,j),⟨by simp only;omega,by simp only;omega,t2,λ_=>?_,t4⟩,⟨rfl,rfl⟩,by simp only;omega⟩,
  λhg=>⟨(i,(i+j)/2),⟨t0,by simp only;omega,by simp only;omega,t3,λ_=>hg⟩,⟨rfl,rfl⟩,by simp only;omega⟩⟩
 simp only[Int.add_sub_cancel];exact hg
theorem aEG(i d:Int)(c:C.den): af Tryz.prog G0 267 [.dat I i,.ip C c,.ip I d] [] ⟨PX c.2.2 i,.dat .bool (B9 c.2.2 d i),[]⟩:=
 ae (c:=mkc KT2) aEh aL hm (aCR i d c.1 c.2.1 c.2.2 ⟨rfl,λh=>⟨h.1,h.2,rfl,trivial⟩⟩)
theorem MF(n d:Int)(c:C.den): af Tryz.prog G0 266 [.dat I n,.fn 267 [.ip C c,.ip I d]] [] ⟨jU (B9 c.2.2 d) (PX c.2.2) n,.dat I (iw (B9 c.2.2 d) n),[]⟩:=
 (Ss n (PX c.2.2) (B9 c.2.2 d)).args λC us hG hr=>by
  obtain⟨u,us',e,g1,u2,us2,e2,g3,g4⟩:=hr;exact⟨u,us',e,g1,u2,us2,e2,jK (by kernel_rfl) rfl (λx=>aEG x d c) hG g3,g4⟩
theorem aEg: al Tryz.prog G0 KT3:=by
 intro f args m c h;unfold KT3 at h;split at h
 .cases h;exact aEG _ _ _
 .cases h;exact MF _ _ _
 .exact aEh _ _ _ _ h
theorem Ib{h:Li}(hi:∀i:Nat,i+1<h.length->h.getD i 0<h.getD (i+1) 0)(d:Int):
  0<=atS h d/\atS h d<=h.length/\(∀i:Nat,(i:Int)<atS h d->h.getD i 0<d)/\∀i:Nat,atS h d<=i->i<h.length->d<=h.getD i 0:=by
 have hex:∃k:Nat,k<=h.length/\(∀i:Nat,i<k->h.getD i 0<d)/\∀i:Nat,k<=i->i<h.length->d<=h.getD i 0:=by
  have:∀N:Nat,N<=h.length->∃k:Nat,k<=N/\(∀i:Nat,i<k->h.getD i 0<d)/\∀i:Nat,k<=i->i<N->d<=h.getD i 0:=by
   intro N;induction N with
   | zero=>intro _;exact⟨0,qK _,λi hi=>by omega,λi _ hi=>by omega⟩
   | succ N ih=>
    intro hN;obtain⟨k,k1,k2,k3⟩:=ih (by omega)
    by_cases hk:k<N
    .refine⟨k,by omega,k2,λi h1 h2=>?_⟩
     rcases zC i N with h3 | h3
     .exact k3 i h1 h3
     .have hin:i=N:=by omega
      have:=k3 k (qK _) hk;have:=FN hi hk (show N<h.length by omega)
      rw[hin];omega
    .have ek:k=N:=by omega
     subst ek;by_cases hd:h.getD k 0<d
     .refine⟨k+1,qK _,λi hi2=>?_,λi h1 h2=>by omega⟩
      rcases zC i k with h3 | h3
      .exact k2 i h3
      .rw[show i=k by omega];exact hd
     .exact⟨k,by omega,k2,λi h1 h2=>by rw[show i=k by omega];omega⟩
  exact this h.length (qK _)
 obtain⟨k,k1,k2,k3⟩:=hex;have e:atS h d=k:=by
  unfold atS iw;rw[nI (i:=k) _ (λx hx=>?_)]
  .omega
  .unfold B9;simp only[qQ];by_cases hx2:k<=x
   .rw[qW hx2];exact qW (k3 x hx2 (by omega))
   .have:=k2 x (by omega)
    rw[vK hx2];exact vK (by omega)
 rw[e];exact⟨by omega,by omega,λi hi=>k2 i (by omega),λi h1 h2=>k3 i (by omega) h2⟩
theorem Oe{w:List Bool}{h:Li}(hc:uV w h)(d:Int): jU (B9 h d) (PX h) h.length:=by
 refine⟨by omega,by have:=hc.2.1;omega,λi h0 h1=>⟨h0,h1⟩,λi j h0 hij hj hg=>?_⟩
 unfold B9 at hg ⊢;simp only[qE]at hg ⊢;rcases Int.lt_or_le i j with hlt | hge
 .have:=FN hc.2.2 (show i.toNat<j.toNat by omega) (by omega)
  omega
 .rw[show j=i by omega];exact hg
theorem VY{w:List Bool}{h:Li}(hc:uV w h)(d:Int): (decide (atS h d=h.length)||(h.getD (atS h d).toNat 0 != d))=!h.contains d:=by
 obtain⟨g0,g1,g2,g3⟩:=Ib hc.2.2 d;obtain⟨k,hk⟩:∃k,k=atS h d:=⟨_,rfl⟩;rw[<- hk]at g0 g1 g2 g3 ⊢;have hmem:d∈h↔k<h.length/\h.getD k.toNat 0=d:=by
  constructor
  .intro hm;obtain⟨i,hi⟩:=kJ.1 hm;have hil:=(qG.1 hi).1;have e:h.getD i 0=d:=by rw[qA,hi];rfl
   have h1:k<=i:=by
    rcases Int.lt_or_le (i:Int) k with hlt | hge
    .have:=g2 i hlt;omega
    .exact hge
   have h2:k.toNat=i:=by
    rcases zC k.toNat i with hlt | hge
    .have:=FN hc.2.2 hlt hil;have:=g3 k.toNat (by omega) (by omega)
     omega
    .omega
   exact⟨by omega,by rw[h2];exact e⟩
  .rintro⟨h1,h2⟩;have hlt:k.toNat<h.length:=by omega
   rw[qA,qB hlt]at h2;simp only[qR]at h2;rw[<- h2];exact wO _
 by_cases hd:d∈h
 .obtain⟨h1,h2⟩:=hmem.1 hd;have:h.contains d=true:=by simpa using hd
  rw[this,h2];have:¬k=h.length:=by omega
  simp[this]
 .have:h.contains d=false:=by simpa using hd
  rw[this];by_cases hk2:k=h.length
  .simp[hk2]
  .have:h.getD k.toNat 0≠d:=λe=>hd (hmem.2 ⟨by omega,e⟩)
   simp only[hk2,kQ,xR,yF,qCz,ne_eq];exact this
theorem XQ(d:Int)(wk:List Bool)(c:C.den): af Tryz.prog G0 265 [.dat I d,.ia .bool wk,.ip C c] [] ⟨uV wk c.2.2/\om d,.dat .bool (bP wk c.2.2 d),[]⟩:=by
 obtain⟨z,w,h⟩:=c;refine ae (c:=mkc KT3) aEg aL hm (Qc d z w wk h ⟨rfl,λ⟨hc,hd⟩=>?_⟩)
 have hs:=Oe hc d;obtain⟨g0,g1,g2,g3⟩:=Ib hc.2.2 d;have e0:=qAc d (show(7:Int)≠0 by omega)
 have e1:=kM d (show(0:Int)<7 by omega)
 have ea:iw (B9 h d) (Df h)=atS h d:=rfl;have hs':jU (B9 h d) (PX h) (Df h):=hs;simp only[ea,hs',ri,Dk,Di,zQ,zS,vN,qBr,gG,zL,kN,PO,Du,Dc,Dy,Ea,Df,Dx,Dj,qAm];refine⟨⟨hd,by omega,by omega⟩,hc.1,e0,by exact_mod_cast e1,λhw=>?_,λhw=>⟨λ_=>g0,λhne=>by omega,?_⟩⟩
 .unfold bP;rw[hw];rfl
 .unfold bP;rw[hw,zQ,<- VY hc d]
  congr 1
theorem Sm(z:Int)(w:List Bool)(h:Li): af Tryz.prog G0 221 [cal z w h] [] ⟨Dj w=7,.fn 265 [.ia .bool w,.ip C (z,w,h)],[]⟩:=by
 refine ae (c:=mkc KT3) aEg aL hm (Ky z w h ⟨rfl,λhw=>?_⟩)
 have hw:w.length=7:=hw;have e:Gl (Fz 7 false) w=w:=by
  simp only[Gl,Fz,wQ,<- hw,yI];rw[zN (by simp),wL]
 refine⟨rfl,rfl,by simp[Dj,Fz],by simp[Dj,Fz],by rw[e];exact hw,rfl,e,rfl,trivial⟩
theorem aBQ: al Tryz.prog G0 KT4:=by
 intro f args m c h;unfold KT4 at h;split at h
 .cases h;exact XQ _ _ _
 .cases h;exact Sm _ _ _
 .exact aEg _ _ _ _ h
theorem zP{z:Int}{w:List Bool}{h:Li}(hv:ax z w h=true): uV w h:=by
 obtain⟨⟨_,_,v3,v4⟩,v5⟩:=bM.1 hv;exact⟨v3,v4,v5⟩
theorem Ta{d:Int}(hd:bW d=true): om d:=by
 unfold bW at hd;have:=vO hd;exact⟨by omega,by omega⟩
theorem aAQ(z:Int)(w:List Bool)(h:Li)(d:Int): af Tryz.prog G0 286 [cal z w h,.dat I d] [] ⟨ax z w h=true/\bW d=true,.dat .bool (bP w h d),[]⟩:=by
 refine ae (c:=mkc KT4) aBQ aL hm (WU z w h d ⟨rfl,λ⟨hv,hd⟩=>?_⟩)
 have hc:=zP hv;simp only[hv,hd,jf,Dk,zQ,zS,vN,qBr,kP,Dj];exact⟨hc.1,hc,Ta hd⟩
end Go.Eng.Sv
set_option maxRecDepth 100000
noncomputable section
namespace Go.Eng.Sv
open Go.Proofs
def dN(w:List Bool)(h:Li)(a n:Int): Li:=((List.range n.toNat).map λ(i:Nat)=>a+(i:Int)).filter λd=>bP w h d
def ly(w:List Bool)(h:Li)(a d:Int): Nat:=(((List.range (d-a).toNat).map λ(i:Nat)=>a+(i:Int)).filter λd=>bP w h d).length
def JD(w:List Bool)(h:Li)(a n:Int): Prop:=uV w h/\-1000000000<=a/\a<=1000000000/\-100000000<=n/\n<=100000000
def mc(a n d:Int): Prop:=a<=d/\(d<=a+n\/d=a)
def lQ(w:List Bool)(h:Li)(d:Int): Option Int:=(dN w h d 60).head?
def fV(w:List Bool)(h:Li)(d:Int): Int:=(lQ w h d).getD 0
def fU(w:List Bool)(h:Li)(d:Int): Int:=if(lQ w h d).isSome then 0 else 20
def P1(z:Int)(w:List Bool)(h:Li)(d:Int): Prop:=ax z w h=true/\bW d=true
def isZ(k:Nat): Prop:=k=0
theorem WI (z : Int) (w : List Bool) (h : Li) (a n : Int) (hvc :
  true = true ∧ (Dj w = 7 → Dj w = 7 ∧ 1 = 1 ∧ 0 = 0 ∧ a = a ∧ n = n ∧ 1 = 1 ∧ 0 = 0 ∧ AV.fn (265) [AV.ia Ty.bool w, AV.ip ((Ty.int
  IntKind.i64).pair (Ty.bool.sl.pair (Ty.int IntKind.i64).sl)) (z, w, h)] = AV.fn (265) [AV.ia Ty.bool w, AV.ip ((Ty.int IntKind.i64).pair (Ty.bool.sl.pair
  (Ty.int IntKind.i64).sl)) (z, w, h)] ∧ True)) :
    evF (mkc KT4) aA 164 [cal z w h, .dat I a, .dat I n] [] ⟨Dj w = 7, .fn 222 [.ip I a, .ip I n, .ipv (.fn 265 [.ia .bool w, .ip C (z, w, h)])], []⟩ := oE hvc
def aBs(w:List Bool)(h:Li)(a n:Int): GG:=⟨λid y=>match id with
 | 1=>some {α:=Int,inv:=λd=>mc a n d,st:=λd=>⟨put y.s [(5,.dat I d)],ly w h a d,true⟩,μ:=λd=>Dc (Dh (Dq a n) d)}
 | _=>none,λ_ _=>none,λid=>id==3⟩
theorem QO(z a n:Int)(w w':List Bool)(h:Li)(hvc:
 let c1:=(z,w',h);let c2:=dN w h a n;let c3:=Dj c2;true/\true/\true/\false=false/\∀(l:Nat),JD w h a n->(∃x,mc a n x/\(l=l/\a=a/\n=n/\w=w/\c1=c1/\a=x/\a=a/\True)/\0=ly w h a x/\true)/\∀(x:Int),let c4:=Dp x (a+n);let c5:=ly w h a x;let c6:=c5+(1);let c7:=x+1;let c8:=Eb (bP w h x) (Di false) false;mc a n x->inR .i64 (a+n)/\(c4->(uV w h/\om x)/\(bP w h x->(bP w h x->bP w h x)/\(bP w h x->bP w h x)/\l=l/\true/\lX c2 c5 x/\∀(b:Bool),let c9:=Eb (bP w h x) (Di b) false;(Dk true (bP w h x)->bP w h x)/\(c9->b->c6=c3)/\(c9=false->inR IntKind.i64 c7/\∃y,mc a n y/\((l=l/\a=a/\n=n/\w=w/\c1=c1/\c7=y/\a=a/\True)/\c6=ly w h a y/\b)/\Dc ((a+n)-y)<Dc ((a+n)-x)))/\(bP w h x=false->(bP w h x->bP w h x->bP w h x)/\(Dk true (bP w h x)->bP w h x)/\(c8->true->c5=c3)/\(c8=false->inR .i64 c7/\∃y,mc a n y/\((l=l/\a=a/\n=n/\w=w/\c1=c1/\c7=y/\a=a/\True)/\c5=ly w h a y/\true)/\Dc ((a+n)-y)<Dc ((a+n)-x))))/\(c4=false->true->c5=c3)):
  evI (mkc KT4) (aBs w h a n) 222 [.ip I a,.ip I n,.ipv (.fn 265 [.ia .bool w,.ip C (z,w',h)])] ⟨JD w h a n,I,dN w h a n⟩:=oE hvc
def KR1: Kt:=kOr 164 (ay [.row C,.val I,.val I] (λ(c,_,_,_)=>Dj c.2.1=7) λ(c,a,n,_)=>.fn 222 [.ip I a,.ip I n,.ipv (.fn 265 [.ia .bool c.2.1,.ip C c])]) KT4
def aEB: FuncId->List AV->Option ja:=λf caps=>match f,caps with
 | 222,[.ip (.int .i64) a,.ip (.int .i64) n,.ipv (.fn 265 [.ia .bool w,.ip (.pair (.int .i64) (.pair (.sl .bool) (.sl (.int .i64)))) c])]=>some ⟨JD w c.2.2 a n,I,dN w c.2.2 a n⟩
 | _,_=>none
def flat(s:St): St:={s with tm:=s.tm.map tT}
def aDT: Ann:=⟨λid s=>match id with
 | 4=>some {α:=Nat,inv:=λk=>isZ k,st:=λ_=>flat s,μ:=λk=>k}
 | _=>none,λ_ _=>none,λ_ _=>none⟩
noncomputable def aCm(K:Kt): Cfg:=⟨Tryz.prog,G0,K,λ_=>false,aEB,true,λ_ _ _=>none,λ_=>false⟩
theorem Wq(z:Int)(w:List Bool)(h:Li)(d:Int)(hvc:
 let c1:=Di (ax z w h);let c2:=Di c1;let c3:=Eb c1 true (Di (bW d));let c4:=(z,w,h);let c5:=dN w h d 60;true/\(P1 z w h d->True/\(c2->c2->c2)/\(c2->True)/\(c2->c2->c2)/\(Dk true c2->c2)/\(c3->1=1/\0=0/\1=1/\0=0/\1=1/\0=0/\1=1/\0=0/\0=fV w h d/\1=fU w h d/\True)/\(c3=false->Dj w=7/\JD w h d 60/\(∃x,isZ x/\x=0/\z=z/\w=w/\h=h/\d=d/\c4=c4/\1=1/\0=0/\0=0/\1=1/\0=0/\0=0/\z=z/\w=w/\h=h/\ax z w h=ax z w h/\c1=c1/\c1=c1/\c3=c3/\z=z/\w=w/\h=h/\d=d/\d=d/\(60:Int)=(60:Int)/\w=w/\c4=c4/\(0:Int)=(0:Int)/\(0:Int)=(0:Int)/\True)/\(∀(x:Nat) (y:Int),isZ x->lX c5 x y->1=1/\0=0/\1=1/\0=0/\1=1/\0=0/\1=1/\0=0/\y=fV w h d/\0=fU w h d/\True)/\∀(x:Nat),isZ x->x=Dj c5->1=1/\0=0/\1=1/\0=0/\1=1/\0=0/\1=1/\0=0/\0=fV w h d/\20=fU w h d/\True))):
  evF (aCm KR1) aDT 160 [cal z w h,.dat I d] [] ⟨P1 z w h d,.tup [.dat I (fV w h d),.dat I (fU w h d)],[]⟩:=oE hvc
theorem aAP(z:Int)(w:List Bool)(h:Li)(a n:Int): af Tryz.prog G0 164 [cal z w h,.dat I a,.dat I n] [] ⟨Dj w=7,.fn 222 [.ip I a,.ip I n,.ipv (.fn 265 [.ia .bool w,.ip C (z,w,h)])],[]⟩:=by
 refine ae (c:=mkc KT4) aBQ aL hm (WI z w h a n ⟨rfl,λhw=>?_⟩)
 exact⟨hw,rfl,rfl,rfl,rfl,rfl,rfl,rfl,trivial⟩
theorem aEl: al Tryz.prog G0 KR1:=aj (ag λ((z,w,h),a,n,_)=>aAP z w h a n) aBQ
theorem Ou{α:Type}{f:Nat->α}{p:α->Bool}{k:Nat}(hp:p (f k)=true): ∀N:Nat,k<N->(((List.range N).map f).filter p)[(((List.range k).map f).filter p).length]?=some (f k)
 | 0,h=>by omega
 | N+1,h=>by
  rw[zV,yS,yV];rcases zC k N with hk | hk
  .have ih:=Ou hp N hk;rw[vH (qG.1 ih).1];exact ih
  .have e:N=k:=by omega
   subst e;rw[qX (qK _),qAx];simp[hp]
theorem O7{w:List Bool}{h:Li}{a n x:Int}(h1:a<=x)(h2:x<a+n)(hw:bP w h x=true): lX (dN w h a n) (ly w h a x) x:=by
 have e:a+((x-a).toNat:Int)=x:=by omega
 have:=Ou (f:=λ(i:Nat)=>a+(i:Int)) (p:=λd=>bP w h d) (k:=(x-a).toNat) (by simp only[e];exact hw) n.toNat (by omega)
 simp only[e]at this;exact this
theorem rQ{w:List Bool}{h:Li}{a x:Int}(h1:a<=x): ly w h a (x+1)=ly w h a x+(if bP w h x then 1 else 0):=by
 unfold ly;rw[show(x+1-a).toNat=(x-a).toNat+1 by omega,zV,yS,yV,qF]
 have e:a+((x-a).toNat:Int)=x:=by omega
 congr 1
 simp only[zF,qCg,e,xO,qBq];split<;>simp_all
theorem H5(w:List Bool)(h:Li)(a:Int): ly w h a a=0:=by
 unfold ly;rw[show(a-a).toNat=0 by omega];rfl
theorem cnt_end{w:List Bool}{h:Li}{a n x:Int}(hx:mc a n x)(hge:¬x<a+n): ly w h a x=(dN w h a n).length:=by
 unfold ly dN;obtain⟨g1,g2⟩:=hx;rw[show(x-a).toNat=n.toNat by omega]
theorem aAL(a n:Int)(w:List Bool)(c:C.den): mW Tryz.prog G0 222 [.ip I a,.ip I n,.ipv (.fn 265 [.ia .bool w,.ip C c])] ⟨JD w c.2.2 a n,I,dN w c.2.2 a n⟩:=by
 obtain⟨z,w',h⟩:=c;refine jC (c:=mkc KT4) (A:=aBs w h a n) aBQ aL hm ?_;refine QO z a n w w' h ⟨rfl,rfl,rfl,rfl,λl ⟨hc,b1,b2,b3,b4⟩=>?_⟩
 simp only[jf,Dk,Di,zQ,zS,vN,qBr,gG,yF,qAe,kP,Dp,Dc,Dj,qE,vW];refine⟨⟨a,⟨qM _,.inr rfl⟩,rfl,(H5 w h a).symm⟩,λx hx=>?_⟩
 have hx1:=hx.1;have hx2:=hx.2;refine⟨⟨by omega,by omega⟩,λhlt=>⟨⟨hc,by omega,by omega⟩,λhw=>?_,λhw=>?_⟩,λhge=>cnt_end hx hge⟩
 .simp only[hw,zQ,zL,kN];refine⟨O7 hx1 hlt hw,λb=>⟨λe1 e2=>(by rw[e1]at e2;cases e2),λhb=>⟨⟨by omega,by omega⟩,x+1,⟨by omega,.inl (by omega)⟩,⟨rfl,?_,hb⟩,by omega⟩⟩⟩
  rw[rQ hx1,hw];rfl
 .simp only[hw,zS,vV,qAq,kP];refine⟨⟨by omega,by omega⟩,x+1,⟨by omega,.inl (by omega)⟩,⟨rfl,?_⟩,by omega⟩
  rw[rQ hx1,hw];rfl
theorem aB3: bu Tryz.prog G0 aEB:=by
 intro f caps c h;unfold aEB at h;split at h
 .cases h;exact aAL _ _ _ _
 .cases h
theorem okd{d:Int}(hd:bW d=true): -1000000<=d/\d<=1000000:=by
 unfold bW at hd;exact vO hd
theorem aAJ(z:Int)(w:List Bool)(h:Li)(d:Int): af Tryz.prog G0 160 [cal z w h,.dat I d] [] ⟨P1 z w h d,.tup [.dat I (fV w h d),.dat I (fU w h d)],[]⟩:=by
 refine ae (c:=aCm KR1) aEl aB3 hm (Wq z w h d ⟨rfl,λ⟨hv,hd⟩=>?_⟩)
 have hc:=zP hv;have hd':=okd hd;simp only[hv,hd,jf,Dk,Di,zS,vN,qBr,yC,yF,qAs,qAe,vV,qAq,kP,Dj];refine⟨hc.1,⟨hc,by omega,by omega,by omega,by omega⟩,⟨0,rfl,rfl⟩,λx y hx hy=>?_,λx hx hl=>?_⟩
 .have hx:x=0:=hx;subst hx;have:lQ w h d=some y:=by
   have hy:(dN w h d 60)[0]?=some y:=hy;unfold lQ;rw[List.head?_eq_getElem?];exact hy
  simp[fV,fU,this]
 .have hx:x=0:=hx;subst hx;have:lQ w h d=none:=by
   unfold lQ;rw[vT hl.symm];rfl
  simp[fV,fU,this]
theorem tI{w:List Bool}{h:Li}{a n y:Int}(hy:y∈dN w h a n): a<=y/\y<a+n/\bP w h y=true:=by
 unfold dN at hy;obtain⟨h1,h2⟩:=yG.1 hy;obtain⟨i,hi,rfl⟩:=vZ.1 h1;have:=qU.1 hi;exact⟨by omega,by omega,h2⟩
end Go.Eng.Sv
