/- PeIn4k -/
import Derived.Test.YtlobbofhlcjlmaaGreatDoorH22
import Derived.Test.YtlobbofhlcjlmaaGreatDoorIn3k
set_option linter.unusedSimpArgs false
set_option linter.unusedVariables false
set_option maxRecDepth 100000
noncomputable section
namespace Go.Eng.In
open Go.Proofs
def dX (n:Net) (o:Int):Off:=n.2.2.2.1.getD o.toNat (⟨#[]⟩,0,0,0,0,0,[])
def aB (n:Net) (o:Int):Cal:=n.1.getD (dX n o).2.2.1.toNat (0,[],[])
def bC (n:Net) (k:Int):Cla:=n.2.2.2.2.2.getD k.toNat (⟨#[]⟩,0,0)
def usP (n:Net):Prop:=usF n=true∧uH n
def mJ (n:Net) (o:Int):Prop:=0≤o∧o < n.2.2.2.1.length
def aOj (n:Net) (k:Int):Prop:=0≤k∧k < n.2.2.2.2.2.length
def tOk (t:Int):Prop:=-3000000000≤t∧t≤3000000000
def tZ (n:Net) (o t:Int):Int:=t + (dX n o).2.2.2.2.1 * (dX n o).2.2.2.2.2.1
def aOX (n:Net) (o t:Int):Prop:=usP n∧mJ n o∧tOk t
def cellAt (p:Plan) (o d:Int):Int:=(p.2.2.1.getD o.toNat []).getD d.toNat 0
def kR (p:Plan) (k o d:Int):Int:=((p.2.2.2.getD k.toNat []).getD o.toNat []).getD d.toNat 0
def plP (n:Net) (p:Plan):Prop:=(0≤p.1∧p.1≤p.2.1∧p.2.1≤600)∧(p.2.2.1.length=n.2.2.2.1.length∧∀ r ∈ p.2.2.1,r.length=n.2.2.2.1.length)∧(∀ i j:Int,mJ n i→mJ n j→lW n i (cellAt p i j)=true∧-1≤cellAt p i j) ∧
 p.2.2.2.length=n.2.2.2.2.2.length∧∀ t ∈ p.2.2.2,t.length=n.2.2.2.1.length∧∀ r ∈ t,r.length=n.2.2.2.1.length
def iQ (n:Net) (o l:Int) (p:Plan) (x t:Int):Bool:=wkF (aB n o).2.1 (aB n o).2.2 (x - 2 + p.1) && decide (qR (aB n o).1 (x - 2 + p.1) (bI n l).2.2.2.1 ≥ tZ n o t)
def qZ (n:Net) (p:Plan) (d:Int):Nat→Int→Int→List Int→Bool×Int×List Int
 | 0,o,t,xs=>(decide (o=d),t,xs)
 | f + 1,o,t,xs=>if o=d then (true,t,xs) else if cellAt p o d=-1 then (false,t,xs) else if bW xs=false then (false,t,xs) else
  if iQ n o (cellAt p o d) p (hd xs) t=true then qZ n p d f (bI n (cellAt p o d)).2.2.1 (qR (aB n o).1 (hd xs - 2 + p.1) (bI n (cellAt p o d)).2.2.2.1 + (bI n (cellAt p o d)).2.2.2.2.1) (tl xs) else (false,t,tl xs)
def aBT (n:Net) (p:Plan) (o d t:Int) (xs:List Int):Bool:=(qZ n p d 19 o t xs).1
def aBS (n:Net) (p:Plan) (o d t:Int) (xs:List Int):Int:=(qZ n p d 19 o t xs).2.1
def aFL (n:Net) (p:Plan) (o d t:Int) (xs:List Int):List Int:=(qZ n p d 19 o t xs).2.2
def aHD (n:Net) (p:Plan) (o d t:Int) (xs:List Int):Prop:=((usP n∧plP n p)∧mJ n o∧mJ n d)∧tOk t∧iR xs
def aN0 (n:Net) (p:Plan) (d o0 t0:Int) (xs0:List Int) (k o t:Int) (xs:List Int):Prop:=(0≤k∧k≤19∧aHD n p o d t xs)∧qZ n p d (19 - k).toNat o t xs=qZ n p d 19 o0 t0 xs0
def aJk (c:Cal) (m t:Int):Int:=if m < gI c.1 t then bQ c.1 t + 1 else bQ c.1 t
def aPc (c:Cal) (m t:Int):Option Int:=(iG c.2.1 c.2.2 (aJk c m t) (aJk c m t + 59)).head?
def uY (c:Cal) (m t:Int):Bool:=(aPc c m t).isSome
def aHI (c:Cal) (m t:Int):Int:=(aPc c m t).getD 0
def aN8 (c:Cal) (t:Int):Prop:=vW c=true∧big t
def aDz (k:Nat):Prop:=k=0
def aFB (n:Net) (d cut:Int):Int:=bQ (aB n d).1 cut
def aE1 (n:Net) (p:Plan) (k o d cut:Int) (xs:List Int):Int:=aHI (aB n d) (bC n k).2.2 (tZ n d (aBS n p o d cut xs))
def aIt (n:Net) (p:Plan) (k o d cut:Int) (xs:List Int):List Int:=iG (aB n d).2.1 (aB n d).2.2 (aFB n d cut + 1) (aE1 n p k o d cut xs)
def aAv (n:Net) (p:Plan) (k o d cut:Int) (xs:List Int):Bool:=aBT n p o d cut xs && (uY (aB n d) (bC n k).2.2 (tZ n d (aBS n p o d cut xs)) && (decide (aE1 n p k o d cut xs - aFB n d cut≤2000) && decide (((aIt n p k o d cut xs).length:Int)≤kR p k o d)))
def aOZ (n:Net) (p:Plan) (k o d cut:Int) (xs:List Int):Prop:=aHD n p o d cut xs∧aOj n k
def aLm (k:Nat):Prop:=k≤4000000000000
def zI (p:Plan) (t:Int):Bool:=decide (1440 * p.1≤t) && decide (t < 1440 * p.2.1)
def aGF (n:Net) (p:Plan) (o:Int):List Int:=iG (aB n o).2.1 (aB n o).2.2 (p.1 - 1) (p.2.1 + 1)
def aBX (n:Net) (k o d:Int):Int:=qR (aB n o).1 d (bC n k).2.1
def lN (n:Net) (p:Plan) (k o:Int):List Int:=((aGF n p o).map fun d=>aBX n k o d).filter (zI p)
def aJi (n:Net) (p:Plan) (k o:Int) (j:Nat):Nat:=((((aGF n p o).take j).map fun d=>aBX n k o d).filter (zI p)).length
def aTB (n:Net) (p:Plan) (k o:Int):Prop:=(usP n∧plP n p)∧mJ n o∧aOj n k
theorem aMp (n:Net) (p:Plan) (o t:Int) (hvc :
 let c1:=n.snd.snd.snd.fst;
 let c2:=(D.get c1 (D.nat o) (ByteArray.mk (D.nil UInt8).toArray,(0:Int),(0:Int),(0:Int),(0:Int),(0:Int),D.nil ByteArray)).snd.snd.snd.snd;
 let c3:=D.mul c2.fst c2.snd.fst;
 let c4:=D.add t c3;true=true∧(aOX n o t→D.ile (0:Int) o∧D.ilt o (D.ilen c1)∧inR IntKind.i64 c3∧inR IntKind.i64 c4∧c4=tZ n o t∧True)) :
  evF (mkc aAF) bF 72 [.ips [.ip N n,.ip Pl p,.top],.dat I o,.dat I t] [] ⟨aOX n o t,.dat I (tZ n o t),[]⟩:=@of_eq _ _ (by kernel_rfl) hvc
theorem aMD (n:Net) (p:Plan) (o:Int) (hvc :
 let c1:=n.snd.snd.snd.fst;
 let c2:=(D.get c1 (D.nat o) (ByteArray.mk (D.nil UInt8).toArray,(0:Int),(0:Int),(0:Int),(0:Int),(0:Int),D.nil ByteArray)).snd.snd.fst;
 let c3:=n.fst;true=true∧(usP n∧mJ n o→D.ile (0:Int) o∧D.ilt o (D.ilen c1)∧D.ile (0:Int) c2∧D.ilt c2 (D.ilen c3)∧D.get c3 (D.nat c2)
 ((0:Int),D.nil Bool,D.nil Int)=aB n o∧True)) :
  evF (mkc aAF) bF 67 [.ips [.ip N n,.ip Pl p,.top],.dat I o] [] ⟨usP n∧mJ n o,.ip C (aB n o),[]⟩:=@of_eq _ _ (by kernel_rfl) hvc
theorem aPR (n:Net) (p:Plan) (k o:Int) (hvc :
 true=true∧(True→n=n∧p=p∧o=o∧k=k∧True)) :
  evF (mkc aAF) bF 28 [.ips [.ip N n,.ip Pl p,.top],.dat I k,.dat I o] [] ⟨True,.fn 66 [.ipv (.ips [.ip N n,.ip Pl p,.top]),.ip I o,.ip I k],[]⟩:=@of_eq _ _ (by kernel_rfl) hvc
def aGV:Kt:=kOr 72 (bD [.pvf N Pl,.val I,.val I] (fun ((n,_),o,t,_)=>aOX n o t) fun ((n,_),o,t,_)=>.dat I (tZ n o t)) <|
 kOr 67 (bD [.pvf N Pl,.val I] (fun ((n,_),o,_)=>usP n∧mJ n o) fun ((n,_),o,_)=>.ip C (aB n o)) <|
 kOr 28 (bD [.pvf N Pl,.val I,.val I] (fun _=>True) fun ((n,p),k,o,_)=>.fn 66 [.ipv (.ips [.ip N n,.ip Pl p,.top]),.ip I o,.ip I k]) aAF
def KI1:FuncId→List AV→Option oW:=fun f caps=>if f=100 then match ofK [.ptr I,.ptr I,.bp C] caps with
 | some (a,b,c,_)=>some ⟨wdP c.2.1 c.2.2 a b,I,iG c.2.1 c.2.2 a b⟩
 | none=>none
 else none
noncomputable def mkr (K:Kt) (KI:FuncId→List AV→Option oW) (KP:KPt) (pf:FuncId→Bool):Cfg:=⟨Tryz.prog,fC,K,fun _=>false,KI,true,KP,pf⟩
def mki (K:Kt) (KI:FuncId→List AV→Option oW):Cfg:={ mkc K with KI:=KI }
def aWl (n:Net) (p:Plan) (k o:Int):aRD:=⟨bF,⟨fun _ _=>none,fun _ _=>none,fun id=>id == 6⟩,fun s=>some (frz (allNames s) s),fun j=>aJi n p k o j⟩
theorem aPS (n:Net) (p:Plan) (k o:Int) (hvc :
 let c1:=p.fst;
 let c2:=D.mul (1440:Int) c1;
 let c3:=p.snd;
 let c4:=c3.fst;
 let c5:=D.mul (1440:Int) c4;
 let c6:=D.sub c1 (1:Int);
 let c7:=D.add c4 (1:Int);
 let c8:=(aB n o).snd;
 let c9:=c8.fst;
 let c10:=c8.snd;
 let c11:=iG c9 c10 c6 c7;
 let c12:=lN n p k o;
 let c13:=D.len c12;
 let c14:=n.snd.snd.snd.snd.snd;
 let c15:=(aB n o).fst;
 let c16:=(D.get c14 (D.nat k) (ByteArray.mk (D.nil UInt8).toArray,(0:Int),(0:Int))).snd.fst;true=true∧true=true∧true=true∧false=false∧∀
 (l:Nat),aTB n p k o→(usP n∧mJ n o)∧1=1∧0=0∧inR IntKind.i64 c2∧inR IntKind.i64 c5∧1=1∧0=0∧1=1∧0=0∧1=1∧0=0∧inR
 IntKind.i64 c6∧inR IntKind.i64 c7∧True∧l=l∧n=n∧p=p∧o=o∧k=k∧l=l∧1=1∧0=0∧AV.ip ((Ty.int IntKind.i64).pair (Ty.bool.sl.pair
 (Ty.int IntKind.i64).sl)) (aB n o)=AV.ip ((Ty.int IntKind.i64).pair (Ty.bool.sl.pair (Ty.int IntKind.i64).sl)) (aB n o)∧1=1∧0=0∧c2=c2∧1 =
 1∧0=0∧c5=c5∧n=n∧p=p∧o=o∧aB n o=aB n o∧n=n∧p=p∧n=n∧p=p∧p=p∧p=p∧p=p∧p=p∧c1=c1∧c2=c2∧n=n
 ∧ p=p∧n=n∧p=p∧p=p∧p=p∧p=p∧c3=c3∧c4=c4∧c5=c5∧aB n o=aB n o∧n=n∧p=p∧n=n∧p=p∧p=p∧p=p∧p=p ∧
 p=p∧c1=c1∧c6=c6∧n=n∧p=p∧n=n∧p=p∧p=p∧p=p∧p=p∧c3=c3∧c4=c4∧c7=c7∧c6=c6∧c7=c7∧aB n o=aB n o ∧
 wdP c9 c10 c6 c7∧aJi n p k o (0)=0∧aJi n p k o (D.len c11)=c13∧∀ (j:Nat),
 let c17:=aJi n p k o j;
 let c18:=D.fE c17 (1);
 let c19:=aJi n p k o (D.fE j (1));∀ (y:Int),
 let c20:=D.ge (qR c15 y c16) c2;
 let c21:=D.cnd c20 (D.lt (qR c15 y c16) c5) false;
 let c22:=D.cnd c21 (D.not false) false;yY c11 j y→true=true∧D.ile (0:Int) k∧D.ilt k (D.ilen c14)∧(big c15∧big y∧big c16)∧(c20=true →
 c20=true→c20=true)∧(c20=true→c20=true→c20=true)∧(D.and true c20=true→c20=true)∧(c21=true→(c21=true→c21=true)∧(c21 =
 true→c21=true)∧l=l∧true=true∧yY c12 c17 (qR c15 y c16)∧∀ (b:Bool),
 let c23:=D.cnd c21 (D.not b) false;(D.and true c21=true→c21=true)∧(c23=true→b=true→c18=c13)∧(c23=false→b=true∧c18=c19))∧(c21
 = false→(c21=true→c21=true→c21=true)∧(D.and true c21=true→c21=true)∧(c22=true→true=true→c17=c13)∧(c22=false→true=true ∧
 c17=c19))) :
  aVv (mki aGV KI1) (aWl n p k o) 66 [.ipv (.ips [.ip N n,.ip Pl p,.top]),.ip I o,.ip I k] ⟨aTB n p k o,I,lN n p k o⟩:=@of_eq _ _ (by kernel_rfl) hvc
def aWh (n:Net) (p:Plan) (d o0 t0:Int) (xs0:List Int):Ann:=⟨fun id s=>match id with
 | 2=>some { α:=Int×Int×Int×List Int,inv:=fun x=>aN0 n p d o0 t0 xs0 x.1 x.2.1 x.2.2.1 x.2.2.2,st:=fun x=>aAd (put (jK s) [(9,.dat I x.1),(1,.dat I x.2.1),(3,.dat I x.2.2.1)]) 1 (.var [.dat R x.2.2.2]),μ:=fun x=>D.nat (D.sub 19 x.1) }
 | _=>none,fun _ _=>none,fun _ _=>none⟩
def aTT:Kt:=kOr 98 (aO2 1 R [.mp 1] (fun _ xs=>True∧bW xs=true) (fun _ xs=>.dat I (hd xs)) fun _ xs=>tl xs) aGV
def c12:Cfg:=aIv aTT (fun _=>false) KP6 (fun f=>f == 25 || f == 98)
theorem aJx (n:Net) (p:Plan) (o d t:Int) (xs:List Int) (hvc :
 let c1:=p.snd.snd.fst;
 let c2:=aBT n p o d t xs;
 let c3:=chainOf (Value.iface (39) (Value.int IntKind.i64 (190:Int)));
 let c4:=n.snd.snd.snd.snd.fst;
 let c5:=p.fst;
 let c6:=(ByteArray.mk (D.nil UInt8).toArray,(0:Int),(0:Int),(0:Int),(0:Int),(0:Int));true=true∧(aHD n p o d t xs→1=1∧(∃ (x:Int ×
 Int×Int×List Int),
 let c7:=x.fst;
 let c8:=x.snd;
 let c9:=c8.fst;
 let c10:=c8.snd;
 let c11:=c10.fst;
 let c12:=c10.snd;aN0 n p d o t xs c7 c9 c11 c12∧n=n∧p=p∧1=1∧0=0∧0=0∧o=c9∧d=d∧t=c11∧(0:Int)=(0:Int)∧(0:Int)=c7
 ∧ xs=c12∧1=1∧True)∧∀ (x:Int×Int×Int×List Int),
 let c13:=x.fst;
 let c14:=x.snd;
 let c15:=c14.fst;
 let c16:=c14.snd;
 let c17:=c16.fst;
 let c18:=c16.snd;
 let c19:=D.ne c15 d;
 let c20:=D.get c1 (D.nat c15) (D.nil Int);
 let c21:=D.lt c13 (19:Int);
 let c22:=D.get c20 (D.nat d) (0:Int);
 let c23:=D.cnd c21 (D.ne c22 (-1:Int)) false;
 let c24:=bW c18;
 let c25:=D.sub (hd c18) (2:Int);
 let c26:=D.add c25 c5;
 let c27:=aB n c15;
 let c28:=c27.fst;
 let c29:=(D.get c4 (D.nat c22) c6).snd.snd;
 let c30:=c29.snd;
 let c31:=c30.fst;
 let c32:=c27.snd;
 let c33:=c32.fst;
 let c34:=c32.snd;
 let c35:=wkF c33 c34 c26;
 let c36:=qR c28 c26 c31;
 let c37:=D.cnd c35 (D.ge c36 (tZ n c15 c17)) false;
 let c38:=D.add c36 c30.snd.fst;
 let c39:=D.add c13 (1:Int);aN0 n p d o t xs c13 c15 c17 c18→(c19=true→D.ile (0:Int) c15∧D.ilt c15 (D.ilen c1)∧D.ile (0:Int) d∧D.ilt d
 (D.ilen c20)∧(c21=true→c21=true→c21=true)∧(D.and true c21=true→c21=true)∧(true=true→True∧(c23=false→c2=false∧true=true ∧
 c3=c3))∧((true=true→c23=true)→(True∧c23=true)∧D.ile (0:Int) c22∧D.ilt c22 (D.ilen c4)∧(usP n∧mJ n c15)∧True∧(c24=true →
 (True∧c24=true)∧1=1∧inR IntKind.i64 c25∧inR IntKind.i64 c26∧(big c28∧big c26∧big c31)∧wkP c33 c34 c26∧(c35=true→c35=true→c35 =
 true)∧(c35=true→c35=true→c35=true)∧(c35=true→c35=true→c35=true)∧(c35=true→aOX n c15 c17)∧(c35=true→c35=true→c35 =
 true)∧(c35=true→c35=true→c35=true)∧(D.and true c35=true→c35=true)∧(true=true→True∧(c37=false→c2=false∧true=true∧c3 =
 c3))∧((true=true→c37=true)→(True∧c37=true)∧inR IntKind.i64 c38∧inR IntKind.i64 c39∧∃ (y:Int×Int×Int×List Int),
 let c40:=y.fst;
 let c41:=y.snd;
 let c42:=c41.fst;
 let c43:=c41.snd;
 let c44:=c43.fst;
 let c45:=c43.snd;aN0 n p d o t xs c40 c42 c44 c45∧(n=n∧p=p∧1=1∧0=0∧0=0∧c29.fst=c42∧d=d∧c38=c44∧(0:Int)=(0:Int) ∧
 c39=c40∧tl c18=c45∧1=1∧True)∧D.nlt (D.nat (D.sub (19:Int) c40)) (D.nat (D.sub (19:Int) c13))))∧(c24=false→c2=false∧true=true∧c3
 = c3)))∧(c19=false→c2=true∧c17=aBS n p o d t xs∧c18=aFL n p o d t xs∧1=1∧True))) :
  evM c12 (aWh n p d o t xs) 70 [.ips [.ip N n,.ip Pl p,.ptr 1 1 0 0],.dat I o,.dat I d,.dat I t] [(1,.var [.dat R xs])] (.dat I (aBS n p o d t xs)) [(1,.var [.dat R (aFL n p o d t xs)])] ⟨aHD n p o d t xs,aBT n p o d t xs,iK 39 190⟩:=@of_eq _ _ (by kernel_rfl) hvc
def aWk:Ann:=⟨fun id s=>match id with
 | 5=>some { α:=Nat,inv:=fun k=>aDz k,st:=fun _=>jK s,μ:=fun k=>k }
 | _=>none,fun _ _=>none,fun _ _=>none⟩
theorem aMA (z m t:Int) (w:List Bool) (h:List Int) (hvc :
 let c1:=(z,w,h);
 let c2:=D.lt m (gI z t);
 let c3:=D.add (bQ z t) (1:Int);
 let c4:=D.add c3 (60:Int);
 let c5:=D.sub c4 (1:Int);
 let c6:=iG w h c3 c5;
 let c7:=uY c1 m t;
 let c8:=chainOf (Value.iface (39) (Value.int IntKind.i64 (190:Int)));
 let c9:=D.add (bQ z t) (60:Int);
 let c10:=D.sub c9 (1:Int);
 let c11:=iG w h (bQ z t) c10;true=true∧(aN8 c1 t→(big z∧big t)∧(c2=true→inR IntKind.i64 c3∧inR IntKind.i64 c4∧inR IntKind.i64 c5 ∧
 True∧wdP w h c3 c5∧(∃ x,aDz x∧x=0∧c1=c1∧m=m∧t=t∧1=1∧0=0∧0=0∧c3=c3∧gI z t=gI z t∧bQ z t=bQ z t∧gI z t =
 gI z t∧c1=c1∧t=t∧bQ z t=bQ z t∧gI z t=gI z t∧bQ z t=bQ z t∧gI z t=gI z t∧m=m∧gI z t=gI z t∧c2=c2 ∧
 bQ z t=bQ z t∧c3=c3∧c1=c1∧c3=c3∧c3=c3∧c4=c4∧c5=c5∧c3=c3∧c5=c5∧c1=c1∧(0:Int)=(0:Int)∧True)∧(∀ (x:Nat) (y
 : Int),aDz x→yY c6 x y→1=1∧0=0∧c7=true∧1=1∧0=0∧y=aHI c1 m t∧True)∧∀ (x:Nat),aDz x→x=D.len c6→(true=true→True ∧
 (false=false→c7=false∧true=true∧c8=c8))∧True)∧(c2=false→inR IntKind.i64 c9∧inR IntKind.i64 c10∧True∧wdP w h (bQ z t) c10∧(∃ x,
 aDz x∧x=0∧c1=c1∧m=m∧t=t∧1=1∧0=0∧0=0∧bQ z t=bQ z t∧gI z t=gI z t∧bQ z t=bQ z t∧gI z t=gI z t∧c1 =
 c1∧t=t∧bQ z t=bQ z t∧gI z t=gI z t∧bQ z t=bQ z t∧gI z t=gI z t∧m=m∧gI z t=gI z t∧c2=c2∧c1=c1∧bQ z t
 = bQ z t∧bQ z t=bQ z t∧c9=c9∧c10=c10∧bQ z t=bQ z t∧c10=c10∧c1=c1∧(0:Int)=(0:Int)∧True)∧(∀ (x:Nat) (y:Int),
 aDz x→yY c11 x y→1=1∧0=0∧c7=true∧1=1∧0=0∧y=aHI c1 m t∧True)∧∀ (x:Nat),aDz x→x=D.len c11→(true=true→True∧(false
 = false→c7=false∧true=true∧c8=c8))∧True))) :
  evC (mkr aGV KI1 Go.Eng.noP (fun _=>false)) aWk 71 [.ip C (z,w,h),.dat I m,.dat I t] (.dat I (aHI (z,w,h) m t)) ⟨aN8 (z,w,h) t,uY (z,w,h) m t,iK 39 190⟩:=@of_eq _ _ (by kernel_rfl) hvc
def aRB:Kt:=kOr 70 (aO2 1 R [.pv 1 N Pl,.val I,.val I,.val I] (fun ((n,p),o,d,t,_) xs=>aHD n p o d t xs∧aBT n p o d t xs=true) (fun ((n,p),o,d,t,_) xs=>.dat I (aBS n p o d t xs)) fun ((n,p),o,d,t,_) xs=>aFL n p o d t xs) <|
 kOr 71 (bD [.ptr C,.val I,.val I] (fun (c,m,t,_)=>aN8 c t∧uY c m t=true) fun (c,m,t,_)=>.dat I (aHI c m t)) aGV
def aV6:KPt:=pOr 70 (aQR 1 R [.pv 1 N Pl,.val I,.val I,.val I] fun ((n,p),o,d,t,_) xs=>⟨aHD n p o d t xs,aBT n p o d t xs,iK 39 190⟩) <|
 pOr 71 (aIN [.ptr C,.val I,.val I] fun (c,m,t,_)=>⟨aN8 c t,uY c m t,iK 39 190⟩) KPr
def c13:Cfg:=mkr aRB KI1 aV6 (fun f=>f == 25 || f == 70 || f == 71)
def aWd:Ann:=⟨fun id s=>match id with
 | 7=>match s.sig.T 15 with
  | .ptr nm _ _ _=>some { α:=Nat,inv:=fun k=>aLm k,st:=fun k=>aAd (jK s) nm (.var [.dat I (D.ofN k)]),μ:=fun k=>k }
  | _=>none
 | _=>none,fun _ _=>none,fun _ _=>none⟩
theorem aMq (n:Net) (p:Plan) (k o d cut:Int) (xs:List Int) (hvc :
 let c1:=aBT n p o d cut xs;
 let c2:=aAv n p k o d cut xs;
 let c3:=chainOf (Value.iface (39) (Value.int IntKind.i64 (190:Int)));
 let c4:=n.snd.snd.snd.snd.snd;
 let c5:=aBS n p o d cut xs;
 let c6:=tZ n d c5;
 let c7:=D.get c4 (D.nat k) (ByteArray.mk (D.nil UInt8).toArray,(0:Int),(0:Int));
 let c8:=c7.snd.snd;
 let c9:=uY (aB n d) c8 c6;
 let c10:=(aB n d).fst;
 let c11:=aHI (aB n d) c8 c6;
 let c12:=bQ c10 cut;
 let c13:=D.sub c11 c12;
 let c14:=D.le c13 (2000:Int);
 let c15:=D.add c12 (1:Int);
 let c16:=(aB n d).snd;
 let c17:=c16.fst;
 let c18:=c16.snd;
 let c19:=gI c10 cut;
 let c20:=aFL n p o d cut xs;
 let c21:=iG c17 c18 c15 c11;
 let c22:=p.snd.snd.snd;
 let c23:=D.get c22 (D.nat k) (D.nil (List Int));
 let c24:=D.get c23 (D.nat o) (D.nil Int);
 let c25:=D.get c24 (D.nat d) (0:Int);true=true∧(aOZ n p k o d cut xs→1=1∧(true=true→aHD n p o d cut xs∧(c1=false→c2=false∧true =
 true∧c3=c3))∧((true=true→c1=true)→(aHD n p o d cut xs∧c1=true)∧1=1∧(usP n∧mJ n d)∧D.ile (0:Int) k∧D.ilt k (D.ilen c4) ∧
 aOX n d c5∧aN8 (aB n d) c6∧(c9=true→D.ile (0:Int) k∧D.ilt k (D.ilen c4)∧aOX n d c5∧(aN8 (aB n d) c6∧c9=true)∧(big c10∧big
 cut)∧inR IntKind.i64 c13∧(true=true→True∧(c14=false→c2=false∧true=true∧c3=c3))∧((true=true→c14=true)→(True∧c14=true)∧1
 = 1∧0=0∧inR IntKind.i64 c15∧True∧wdP c17 c18 c15 c11∧(∃ x,aLm x∧x=0∧n=n∧p=p∧1=1∧0=0∧0=0∧k=k∧o=o∧d=d∧cut =
 cut∧c5=c5∧aB n d=aB n d∧c11=c11∧c12=c12∧c19=c19∧1=1∧0=0∧0=0∧n=n∧p=p∧1=1∧0=0∧0=0∧o=o∧d=d∧cut
 = cut∧c5=c5∧n=n∧p=p∧1=1∧0=0∧0=0∧d=d∧aB n d=aB n d∧aB n d=aB n d∧n=n∧p=p∧1=1∧0=0∧0=0∧n=n
 ∧ p=p∧1=1∧0=0∧0=0∧n=n∧p=p∧1=1∧0=0∧0=0∧n=n∧n=n∧c4=c4∧c4=c4∧k=k∧c7=c7∧c8=c8∧c8=c8∧n=n∧p =
 p∧1=1∧0=0∧0=0∧d=d∧c5=c5∧c6=c6∧c11=c11∧c12=c12∧c19=c19∧aB n d=aB n d∧cut=cut∧c12=c12∧c19=c19∧c12 =
 c12∧c19=c19∧c11=c11∧c12=c12∧c13=c13∧c14=c14∧aB n d=aB n d∧c12=c12∧c15=c15∧c11=c11∧c15=c15∧c11=c11∧aB n d
 = aB n d∧c20=c20∧(0:Int)=D.ofN x∧1=1∧True)∧(∀ (x:Nat),
 let c26:=D.add (D.ofN x) (1:Int);∀ (y:Int),aLm x→yY c21 x y→1=1∧0=0∧inR IntKind.i64 c26∧1=1∧0=0∧∃ z,aLm z∧z=D.fE x
 (1)∧n=n∧p=p∧1=1∧0=0∧0=0∧k=k∧o=o∧d=d∧cut=cut∧c5=c5∧aB n d=aB n d∧c11=c11∧c12=c12∧c19=c19∧1=1 ∧
 0=0∧0=0∧n=n∧p=p∧1=1∧0=0∧0=0∧o=o∧d=d∧cut=cut∧c5=c5∧n=n∧p=p∧1=1∧0=0∧0=0∧d=d∧aB n d=aB
 n d∧aB n d=aB n d∧n=n∧p=p∧1=1∧0=0∧0=0∧n=n∧p=p∧1=1∧0=0∧0=0∧n=n∧p=p∧1=1∧0=0∧0=0∧n=n∧n
 = n∧c4=c4∧c4=c4∧k=k∧c7=c7∧c8=c8∧c8=c8∧n=n∧p=p∧1=1∧0=0∧0=0∧d=d∧c5=c5∧c6=c6∧c11=c11∧c12=c12∧c19
 = c19∧aB n d=aB n d∧cut=cut∧c12=c12∧c19=c19∧c12=c12∧c19=c19∧c11=c11∧c12=c12∧c13=c13∧c14=c14∧aB n d=aB n
 d∧c12=c12∧c15=c15∧c11=c11∧c15=c15∧c11=c11∧aB n d=aB n d∧c20=c20∧c26=D.ofN z∧1=1∧True)∧∀ (x:Nat),aLm x→x =
 D.len c21→1=1∧0=0∧D.ile (0:Int) k∧D.ilt k (D.ilen c22)∧D.ile (0:Int) o∧D.ilt o (D.ilen c23)∧D.ile (0:Int) d∧D.ilt d (D.ilen c24) ∧
 True∧(D.le (D.ofN x) c25=true→1=1∧0=0∧D.ile (0:Int) k∧D.ilt k (D.ilen c22)∧D.ile (0:Int) o∧D.ilt o (D.ilen c23)∧D.ile (0:Int) d ∧
 D.ilt d (D.ilen c24)∧(True∧D.le (D.ofN x) c25=true)∧c2=true∧c20=c20∧1=1∧True)∧(D.le (D.ofN x) c25=false→c2=false∧true=true∧c3
 = c3)))∧(c9=false→c2=false∧true=true∧c3=c3)))) :
  evM c13 aWd 29 [.ips [.ip N n,.ip Pl p,.ptr 1 1 0 0],.dat I k,.dat I o,.dat I d,.dat I cut] [(1,.var [.dat R xs])] (.tup []) [(1,.var [.dat R (aFL n p o d cut xs)])] ⟨aOZ n p k o d cut xs,aAv n p k o d cut xs,iK 39 190⟩:=@of_eq _ _ (by kernel_rfl) hvc
theorem aGZ {n:Net} (h:usP n):((∀ c ∈ n.1,vW c=true)∧(∀ o ∈ n.2.2.2.1,pU n o=true))∧(∀ l ∈ n.2.2.2.2.1,pY n l=true)∧∀ k ∈ n.2.2.2.2.2,qJ k=true:=by
 have:=h.1
 unfold usF at this
 simp only [Bool.and_eq_true,List.all_eq_true] at this
 exact ⟨⟨this.1.1.1,this.1.1.2⟩,this.1.2,this.2⟩
theorem aJA {n:Net} {o:Int} (h:usP n) (ho:mJ n o):(0≤(dX n o).2.2.1∧(dX n o).2.2.1 < n.1.length)∧(1≤(dX n o).2.2.2.2.1∧(dX n o).2.2.2.2.1≤1000)∧1≤(dX n o).2.2.2.2.2.1∧(dX n o).2.2.2.2.2.1≤1000:=by
 have:=(aGZ h).1.2 (dX n o) (aW (by have:=ho.1;have:=ho.2;omega))
 unfold pU at this
 simp only [Bool.and_eq_true,vY] at this
 omega
theorem aGY {n:Net} {o:Int} (h:usP n) (ho:mJ n o):vW (aB n o)=true :=
 (aGZ h).1.1 _ (aW (by have:=(aJA h ho).1;omega))
theorem aJB {n:Net} {l:Int} (h:usP n) (h0:0≤l) (h1:l < n.2.2.2.2.1.length):mJ n (bI n l).2.1∧mJ n (bI n l).2.2.1∧(0≤(bI n l).2.2.2.1∧(bI n l).2.2.2.1≤1439)∧1≤(bI n l).2.2.2.2.1∧(bI n l).2.2.2.2.1≤100000:=by
 have:=(aGZ h).2.1 (bI n l) (aW (by omega))
 unfold pY nR at this
 simp only [Bool.and_eq_true,vY] at this
 unfold mJ
 omega
theorem aOG {n:Net} {k:Int} (h:usP n) (hk:aOj n k):(0≤(bC n k).2.1∧(bC n k).2.1≤1439)∧0≤(bC n k).2.2∧(bC n k).2.2≤1439:=by
 have:=(aGZ h).2.2 (bC n k) (aW (by have:=hk.1;have:=hk.2;omega))
 unfold qJ at this
 simp only [Bool.and_eq_true,vY] at this
 omega
theorem sO {c:Cal} (h:vW c=true):(-720≤c.1∧c.1≤840)∧c.2.1.length=7∧srt c.2.2:=by
 have:=(nD.1 h).1
 exact ⟨⟨this.1,this.2.1⟩,this.2.2.1,aJz h⟩
theorem aOW {n:Net} {o t:Int} (h:usP n) (ho:mJ n o):t + 1≤tZ n o t∧tZ n o t≤t + 1000000:=by
 obtain ⟨_,⟨a1,a2⟩,b1,b2⟩:=aJA h ho
 unfold tZ
 have h1:1 * 1≤(dX n o).2.2.2.2.1 * (dX n o).2.2.2.2.2.1:=Int.mul_le_mul a1 b1 (by decide) (by omega)
 have h2:(dX n o).2.2.2.2.1 * (dX n o).2.2.2.2.2.1≤1000 * 1000:=Int.mul_le_mul a2 b2 (by omega) (by decide)
 omega
theorem aP9 (n:Net) (p:Plan) (o t:Int):aC Tryz.prog fC 72 [.ips [.ip N n,.ip Pl p,.top],.dat I o,.dat I t] [] ⟨aOX n o t,.dat I (tZ n o t),[]⟩:=by
 refine aA (c:=mkc aAF) aRP cO hm (aMp n p o t ⟨rfl,fun ⟨hu,ho,ht⟩=>?_⟩)
 obtain ⟨r1,r2⟩:=aOW (t:=t) hu ho
 obtain ⟨t1,t2⟩:=ht
 have e:tZ n o t=t + (dX n o).2.2.2.2.1 * (dX n o).2.2.2.2.2.1:=rfl
 refine ⟨ho.1,ho.2,aN ?_,aN ?_,rfl,trivial⟩
 ·show _≤(dX n o).2.2.2.2.1 * (dX n o).2.2.2.2.2.1∧(dX n o).2.2.2.2.1 * (dX n o).2.2.2.2.2.1≤_
  omega
 ·show _≤t + (dX n o).2.2.2.2.1 * (dX n o).2.2.2.2.2.1∧t + (dX n o).2.2.2.2.1 * (dX n o).2.2.2.2.2.1≤_
  omega
theorem aQi (n:Net) (p:Plan) (o:Int):aC Tryz.prog fC 67 [.ips [.ip N n,.ip Pl p,.top],.dat I o] [] ⟨usP n∧mJ n o,.ip C (aB n o),[]⟩:=by
 refine aA (c:=mkc aAF) aRP cO hm (aMD n p o ⟨rfl,fun ⟨hu,ho⟩=>?_⟩)
 have:=(aJA hu ho).1
 exact ⟨ho.1,ho.2,this.1,this.2,rfl,trivial⟩
theorem aSY (n:Net) (p:Plan) (k o:Int):aC Tryz.prog fC 28 [.ips [.ip N n,.ip Pl p,.top],.dat I k,.dat I o] [] ⟨True,.fn 66 [.ipv (.ips [.ip N n,.ip Pl p,.top]),.ip I o,.ip I k],[]⟩ :=
 aA (c:=mkc aAF) aRP cO hm (aPR n p k o ⟨rfl,fun _=>by simp⟩)
theorem aUi:aQ Tryz.prog fC aGV:=aJ (aG fun ((n,p),o,t,_)=>aP9 n p o t) <| aJ (aG fun ((n,p),o,_)=>aQi n p o) <| aJ (aG fun ((n,p),k,o,_)=>aSY n p k o) aRP
theorem zQ.args {P:Program} {G:List (Nat×AV)} {gf:FuncId} {xs ys:List AV} {it:oW} (h:zQ P G gf ys it) (hab:∀ (C:Ctx) us,AV.relL P C xs us→AV.relL P C ys us):zQ P G gf xs it :=
 fun hp l J JX JP w D us hD hG hu=>h hp l J JX JP w D us hD hG (hab _ us hu)
theorem aUj:dF Tryz.prog fC KI1:=by
 intro f caps it h
 unfold KI1 at h
 split at h
 ·rename_i e
  subst e
  split at h
  ·rename_i a b c _ hx
   cases h
   exact zQ.args (aUx c.1 a b c.2.1 c.2.2) fun C us hu=>lJ hx hu
  ·cases h
 ·cases h
theorem aOa (n:Net) (p:Plan) (k o:Int):aJi n p k o (aGF n p o).length=(lN n p k o).length:=by
 unfold aJi lN
 rw [List.take_of_length_le (Nat.le_refl _)]
theorem aLh {n:Net} {p:Plan} {k o:Int} {j:Nat} {y:Int} (h:yY (aGF n p o) j y):aJi n p k o (j + 1)=aJi n p k o j + (if zI p (aBX n k o y)=true then 1 else 0):=by
 have h:(aGF n p o)[j]?=some y:=h
 unfold aJi
 rw [List.take_add_one,h,List.map_append,List.filter_append,List.length_append]
 congr 1
 simp only [Option.toList,List.map_cons,List.map_nil,List.filter_cons,List.filter_nil]
 split <;> rfl
theorem aRg {n:Net} {p:Plan} {k o:Int} {j:Nat} {y:Int} (h:yY (aGF n p o) j y) (hc:zI p (aBX n k o y)=true):yY (lN n p k o) (aJi n p k o j) (aBX n k o y):=by
 have h:(aGF n p o)[j]?=some y:=h
 obtain ⟨hj,hy⟩:=List.getElem?_eq_some_iff.1 h
 have e:aGF n p o=(aGF n p o).take j ++ y :: (aGF n p o).drop (j + 1):=by rw [← hy,List.getElem_cons_drop,List.take_append_drop]
 have e2:lN n p k o=(((aGF n p o).take j).map fun d=>aBX n k o d).filter (zI p) ++ ((y :: (aGF n p o).drop (j + 1)).map fun d=>aBX n k o d).filter (zI p):=by
  unfold lN
  conv=>lhs;rw [e]
  rw [List.map_append,List.filter_append]
 unfold yY
 rw [e2]
 unfold aJi
 rw [List.getElem?_append_right (Nat.le_refl _),Nat.sub_self,List.map_cons,List.filter_cons,if_pos hc]
 rfl
theorem aOE {w:List Bool} {h:List Int} {a b x:Int} (hx:x ∈ iG w h a b):a≤x∧x≤b∧wkF w h x=true:=by
 unfold iG at hx
 rw [List.mem_filter,List.mem_map] at hx
 obtain ⟨⟨i,hi,rfl⟩,h2⟩:=hx
 have:=List.mem_range.1 hi
 exact ⟨by omega,by omega,h2⟩
theorem aSZ (n:Net) (p:Plan) (k o:Int):zQ Tryz.prog fC 66 [.ipv (.ips [.ip N n,.ip Pl p,.top]),.ip I o,.ip I k] ⟨aTB n p k o,I,lN n p k o⟩:=by
 refine aGr (c:=mki aGV KI1) aUi aUj hm (aPS n p k o ⟨rfl,rfl,rfl,rfl,fun l ⟨⟨hu,hp⟩,ho,hk⟩=>?_⟩)
 obtain ⟨⟨p0,p1,p2⟩,_⟩:=hp
 have hc:=aGY hu ho
 obtain ⟨⟨z1,z2⟩,hw,hs⟩:=sO hc
 have hcl:=aOG hu hk
 simp only [eq_self,true_and]
 refine ⟨⟨hu,ho⟩,aN (by simp only [D.mul];omega),aN (by simp only [D.mul];omega),aN (by simp only [D.sub];omega),aN (by simp only [D.add];omega),⟨hw,hs,⟨by simp only [D.sub];omega,by simp only [D.sub];omega⟩,⟨by simp only [D.add];omega,by simp only [D.add];omega⟩⟩,rfl,aOa n p k o,fun j y hy=>?_⟩
 have hy':yY (aGF n p o) j y:=hy
 have hm2:=aOE (List.mem_of_getElem? hy')
 have hk2:=aLh (k:=k) hy'
 have eM:qR (aB n o).1 y (bC n k).2.1=aBX n k o y:=rfl
 have eC:D.cnd (D.ge (aBX n k o y) (D.mul 1440 p.1)) (D.lt (aBX n k o y) (D.mul 1440 p.2.1)) false=zI p (aBX n k o y):=by
  rw [gQ];rfl
 have two:∀ {q:Prop},q→(q∧q):=fun h=>⟨h,h⟩
 refine ⟨hk.1,hk.2,⟨⟨by omega,by omega⟩,⟨by omega,by omega⟩,⟨by show _≤(bC n k).2.1;omega,by show (bC n k).2.1≤_;omega⟩⟩,?_⟩
 simp only [imp_self,implies_true,true_and]
 refine ⟨fun h=>by simpa [D.and] using h,fun hc1=>?_,fun hc1=>?_⟩
 ·have hin:zI p (aBX n k o y)=true:=by rw [← eC];exact hc1
  rw [if_pos hin] at hk2
  refine ⟨aRg hy' hin,fun b=>⟨fun _=>hc1,fun h1 h2=>?_,fun h1=>?_⟩⟩
  ·rw [h2] at h1
   rw [hc1] at h1;cases h1
  ·rw [hc1] at h1
   have:b=true:=by simpa [D.cnd,D.not] using h1
   exact ⟨this,hk2.symm⟩
 ·have hin:zI p (aBX n k o y)=false:=by rw [← eC];exact hc1
  rw [if_neg (by rw [hin];exact Bool.false_ne_true)] at hk2
  refine ⟨fun h=>by simpa [D.and] using h,?_,?_⟩
  ·intro h
   rw [hc1] at h;cases h
  ·intro _
   exact hk2.symm
theorem aTP:aQ Tryz.prog fC aTT:=aJ (yS fun _ xs=>(aFU xs).1) aUi
theorem aG3 (n:Net) (p:Plan) (o d t:Int) (xs:List Int):aC Tryz.prog fC 70 [.ips [.ip N n,.ip Pl p,.ptr 1 1 0 0],.dat I o,.dat I d,.dat I t] [(1,.var [.dat R xs])] ⟨aHD n p o d t xs∧aBT n p o d t xs=true,.dat I (aBS n p o d t xs),[(1,.var [.dat R (aFL n p o d t xs)])]⟩ ∧
  jM Tryz.prog fC 70 [.ips [.ip N n,.ip Pl p,.ptr 1 1 0 0],.dat I o,.dat I d,.dat I t] [(1,.var [.dat R xs])] ⟨aHD n p o d t xs,aBT n p o d t xs,iK 39 190⟩:=by
 refine fK (c:=c12) aTP cO hm aLM (aJx n p o d t xs ⟨rfl,fun hp=>?_⟩)
 simp only [gQ,D.and,Bool.true_and,eq_self,true_and,and_true,imp_self,implies_true,Bool.and_eq_true,Bool.and_eq_false_imp,forall_const,D.nil,D.ne,D.lt,D.ge,D.ilen,D.ile,D.ilt,D.nlt,D.sub,D.add,D.nat,D.get,decide_eq_true_eq,decide_eq_false_iff_not,bne_iff_ne,bne_eq_false_iff_eq]
 refine ⟨⟨(0,o,t,xs),⟨⟨Int.le_refl _,show (0:Int)≤19 by decide,hp⟩,rfl⟩,rfl,rfl,rfl,rfl⟩,fun ⟨k,o2,t2,ys⟩ hi=>?_⟩
 obtain ⟨⟨k0,k1,hq⟩,he⟩:=hi
 simp only at k0 k1 hq he
 obtain ⟨⟨⟨hu,hpl⟩,ho2,hd2⟩,ht2,hys⟩:=id hq
 obtain ⟨⟨p0,p1,p2⟩,⟨q1,q2⟩,q3,_⟩:=id hpl
 obtain ⟨c,ec⟩:∃ c,c=cellAt p o2 d:=⟨_,rfl⟩
 have eC:(p.2.2.1.getD o2.toNat []).getD d.toNat 0=c:=ec.symm
 obtain ⟨ln,el⟩:∃ ln,ln=bI n c:=⟨_,rfl⟩
 have eL:n.2.2.2.2.1.getD c.toNat (⟨#[]⟩,0,0,0,0,0)=ln:=el.symm
 simp only [eC,eL]
 obtain ⟨g1,g2⟩:=q3 o2 d ho2 hd2
 rw [← ec] at g1 g2
 have eOk:aBT n p o d t xs=(qZ n p d (19 - k).toNat o2 t2 ys).1:=by rw [he];rfl
 have eT:aBS n p o d t xs=(qZ n p d (19 - k).toNat o2 t2 ys).2.1:=by rw [he];rfl
 have eR:aFL n p o d t xs=(qZ n p d (19 - k).toNat o2 t2 ys).2.2:=by rw [he];rfl
 have hf:k < 19→(19 - k).toNat=(19 - (k + 1)).toNat + 1:=fun h=>by omega
 have eS:∀ f,qZ n p d (f + 1) o2 t2 ys=if o2=d then (true,t2,ys) else if c=-1 then (false,t2,ys) else if bW ys=false then (false,t2,ys) else
   if iQ n o2 c p (hd ys) t2=true then qZ n p d f ln.2.2.1 (qR (aB n o2).1 (hd ys - 2 + p.1) ln.2.2.2.1 + ln.2.2.2.2.1) (tl ys) else (false,t2,tl ys):=fun f=>by rw [el,ec];rfl
 have eD:iQ n o2 c p (hd ys) t2=(wkF (aB n o2).2.1 (aB n o2).2.2 (hd ys - 2 + p.1) && decide (qR (aB n o2).1 (hd ys - 2 + p.1) ln.2.2.2.1 ≥ tZ n o2 t2)):=by rw [el];rfl
 refine ⟨fun hne=>?_,fun heq=>?_⟩
 ·have hrow:=q2 _ (aW (l:=p.2.2.1) (i:=o2.toNat) (d:=[]) (by have:=ho2.1;have:=ho2.2;omega))
  refine ⟨ho2.1,by rw [q1];exact ho2.2,hd2.1,by rw [hrow];exact hd2.2,fun h=>?_,fun ⟨hk,hc⟩=>?_⟩
  ·rw [eOk]
   by_cases hk:k < 19
   ·rw [hf hk,eS,if_neg hne,if_pos (h hk)]
   ·rw [show (19 - k).toNat=0 by omega]
    exact decide_eq_false hne
  ·have hl:c < n.2.2.2.2.1.length:=by
    unfold lW at g1
    rw [decide_eq_false hc,Bool.false_or,Bool.and_eq_true,decide_eq_true_eq] at g1
    exact g1.1
   obtain ⟨_,lo,⟨m0,m1⟩,r0,r1⟩:=aJB hu (by omega:0≤c) hl
   rw [← el] at lo m0 m1 r0 r1
   obtain ⟨⟨z1,z2⟩,hw,hs⟩:=sO (aGY hu ho2)
   refine ⟨⟨hk,hc⟩,by omega,hl,⟨hu,ho2⟩,fun h1=>?_,fun h1=>?_⟩
   ·have hm1:0≤hd ys∧hd ys≤65519:=gK.1 hys.1 _ (aW (of_decide_eq_true h1))
    have hm2:-1000000≤qR (aB n o2).1 (hd ys - 2 + p.1) ln.2.2.2.1∧qR (aB n o2).1 (hd ys - 2 + p.1) ln.2.2.2.1≤100000000:=by unfold qR;omega
    refine ⟨h1,aN (by omega),aN (by omega),⟨⟨by omega,by omega⟩,⟨by omega,by omega⟩,⟨by omega,by omega⟩⟩,⟨hw,hs,⟨by omega,by omega⟩⟩,fun _=>⟨hu,ho2,ht2⟩,fun h=>?_,fun h=>?_⟩
    ·rw [eOk,hf hk,eS,if_neg hne,if_neg hc,if_neg (by rw [h1];exact Bool.noConfusion),if_neg]
     rw [eD]
     simpa using h
    ·have hy:iQ n o2 c p (hd ys) t2=true:=by rw [eD];simpa using h
     refine ⟨h,aN (by omega),aN (by omega),⟨(k + 1,ln.2.2.1,qR (aB n o2).1 (hd ys - 2 + p.1) ln.2.2.2.1 + ln.2.2.2.2.1,tl ys),⟨⟨by show 0≤k + 1;omega,by show k + 1≤19;omega,⟨⟨hu,hpl⟩,lo,hd2⟩,⟨by show -3000000000≤_ + _;omega,by show _ + _≤3000000000;omega⟩,jS hys 1⟩,?_⟩,⟨rfl,rfl,rfl,rfl⟩,by show (19 - (k + 1)).toNat < _;omega⟩⟩
     rw [← he,hf hk,eS,if_neg hne,if_neg hc,if_neg (by rw [h1];exact Bool.noConfusion),if_pos hy]
   ·rw [eOk,hf hk,eS,if_neg hne,if_neg hc,if_pos h1]
 ·have e:qZ n p d (19 - k).toNat o2 t2 ys=(true,t2,ys):=by
   by_cases hk:k < 19
   ·rw [hf hk,eS,if_pos heq]
   ·rw [show (19 - k).toNat=0 by omega]
    show (decide (o2=d),t2,ys)=_
    rw [decide_eq_true heq]
  rw [eOk,eT,eR,e]
  exact ⟨rfl,rfl,rfl⟩
theorem aJR (c:Cal) (m t:Int):aC Tryz.prog fC 71 [.ip C c,.dat I m,.dat I t] [] ⟨aN8 c t∧uY c m t=true,.dat I (aHI c m t),[]⟩ ∧
  jM Tryz.prog fC 71 [.ip C c,.dat I m,.dat I t] [] ⟨aN8 c t,uY c m t,iK 39 190⟩:=by
 obtain ⟨z,w,h⟩:=c
 refine rJ (c:=mkr aGV KI1 noP (fun _=>false)) aUi aUj hm aER (aMA z m t w h ⟨rfl,fun hp=>?_⟩)
 simp only [eq_self,true_and,and_true,forall_const,exists_eq_right,D.lt,D.sub,D.add,D.len,decide_eq_true_eq,decide_eq_false_iff_not]
 obtain ⟨hc,t1,t2⟩:=id hp
 obtain ⟨⟨z1,z2⟩,hw,hs⟩:=sO hc
 simp only at z1 z2 hw hs
 have hday:-1000000000≤bQ z t∧bQ z t≤1000000000:=by unfold bQ;omega
 have key:∀ b:Int,aJk (z,w,h) m t=b→(∀ (x:Nat) (y:Int),aDz x→yY (iG w h b (b + 60 - 1)) x y→uY (z,w,h) m t=true∧y=aHI (z,w,h) m t)∧∀ x:Nat,aDz x→x=(iG w h b (b + 60 - 1)).length→uY (z,w,h) m t=false:=fun b hb=>by
  have e:aPc (z,w,h) m t=(iG w h b (b + 60 - 1)).head?:=by
   unfold aPc
   rw [hb,show b + 60 - 1=b + 59 by omega]
  refine ⟨fun x y hx hy=>?_,fun x hx hy=>?_⟩
  ·have hx:x=0:=hx
   have hy:(iG w h b (b + 60 - 1))[x]?=some y:=hy
   rw [hx,← List.head?_eq_getElem?,← e] at hy
   unfold uY aHI
   rw [hy]
   exact ⟨rfl,rfl⟩
  ·have hx:x=0:=hx
   have:iG w h b (b + 60 - 1)=[]:=List.eq_nil_of_length_eq_zero (by omega)
   unfold uY
   rw [e,this];rfl
 refine ⟨⟨⟨by omega,by omega⟩,t1,t2⟩,fun hlt=>?_,fun hge=>?_⟩
 ·obtain ⟨k1,k2⟩:=key (bQ z t + 1) (by unfold aJk;exact if_pos hlt)
  exact ⟨aN (by omega),aN (by omega),aN (by omega),⟨hw,hs,⟨by omega,by omega⟩,⟨by omega,by omega⟩⟩,rfl,k1,k2⟩
 ·obtain ⟨k1,k2⟩:=key (bQ z t) (by unfold aJk;exact if_neg hge)
  exact ⟨aN (by omega),aN (by omega),⟨hw,hs,⟨by omega,by omega⟩,⟨by omega,by omega⟩⟩,rfl,k1,k2⟩
theorem aPm:aQ Tryz.prog fC aRB:=aJ (yS fun ((n,p),o,d,t,_) xs=>(aG3 n p o d t xs).1) <| aJ (aG fun (c,m,t,_)=>(aJR c m t).1) aUi
theorem aRy:fB Tryz.prog fC aV6:=rW (aBv fun ((n,p),o,d,t,_) xs=>(aG3 n p o d t xs).2) <| rW (aAN fun (c,m,t,_)=>(aJR c m t).2) aHU
theorem aNZ {n:Net} {p:Plan} {o d t:Int} {xs:List Int} (hq:aHD n p o d t xs) (hc:cellAt p o d≠-1) (h1:bW xs=true):(0≤cellAt p o d∧cellAt p o d < n.2.2.2.2.1.length)∧aHD n p (bI n (cellAt p o d)).2.2.1 d (qR (aB n o).1 (hd xs - 2 + p.1) (bI n (cellAt p o d)).2.2.2.1 + (bI n (cellAt p o d)).2.2.2.2.1) (tl xs):=by
 obtain ⟨⟨⟨hu,hpl⟩,ho2,hd2⟩,ht2,hys⟩:=hq
 obtain ⟨⟨p0,p1,p2⟩,⟨q1,q2⟩,q3,_⟩:=id hpl
 obtain ⟨g1,g2⟩:=q3 o d ho2 hd2
 have hl:cellAt p o d < n.2.2.2.2.1.length:=by
  unfold lW at g1
  rw [decide_eq_false hc,Bool.false_or,Bool.and_eq_true,decide_eq_true_eq] at g1
  exact g1.1
 have h0:0≤cellAt p o d:=by omega
 obtain ⟨_,lo,⟨m0,m1⟩,r0,r1⟩:=aJB hu h0 hl
 obtain ⟨⟨z1,z2⟩,hw,hs⟩:=sO (aGY hu ho2)
 have hm1:0≤hd xs∧hd xs≤65519:=gK.1 hys.1 _ (aW (of_decide_eq_true h1))
 refine ⟨⟨h0,hl⟩,⟨⟨hu,hpl⟩,lo,hd2⟩,⟨?_,?_⟩,jS hys 1⟩ <;> unfold qR <;> omega
theorem aGB {n:Net} {p:Plan} {d:Int}:∀ (f:Nat) {o t:Int} {xs:List Int},aHD n p o d t xs→tOk (qZ n p d f o t xs).2.1∧iR (qZ n p d f o t xs).2.2
 | 0,o,t,xs,h=>⟨h.2.1,h.2.2⟩
 | f + 1,o,t,xs,h=>by
  unfold qZ
  by_cases h1:o=d
  ·rw [if_pos h1];exact ⟨h.2.1,h.2.2⟩
  rw [if_neg h1]
  by_cases h2:cellAt p o d=-1
  ·rw [if_pos h2];exact ⟨h.2.1,h.2.2⟩
  rw [if_neg h2]
  by_cases h3:bW xs=false
  ·rw [if_pos h3];exact ⟨h.2.1,h.2.2⟩
  rw [if_neg h3]
  by_cases h4:iQ n o (cellAt p o d) p (hd xs) t=true
  ·rw [if_pos h4]
   exact aGB f (aNZ h h2 (by simpa using h3)).2
  ·rw [if_neg h4];exact ⟨h.2.1,jS h.2.2 1⟩
theorem aRf {c:Cal} {m t:Int} (h:uY c m t=true):aJk c m t≤aHI c m t∧aHI c m t≤aJk c m t + 59:=by
 unfold uY at h
 unfold aHI
 cases e:aPc c m t with
 | none=>rw [e] at h;cases h
 | some y =>
  unfold aPc at e
  have:=aOE (List.mem_of_mem_head? e)
  exact ⟨this.1,this.2.1⟩
theorem aRT (w:List Bool) (h:List Int) (a b:Int):(iG w h a b).length≤(b + 1 - a).toNat:=by
 unfold iG
 refine Nat.le_trans (List.length_filter_le _ _) ?_
 rw [List.length_map,List.length_range];exact Nat.le_refl _
theorem aJQ (n:Net) (p:Plan) (k o d cut:Int) (xs:List Int):aC Tryz.prog fC 29 [.ips [.ip N n,.ip Pl p,.ptr 1 1 0 0],.dat I k,.dat I o,.dat I d,.dat I cut] [(1,.var [.dat R xs])] ⟨aOZ n p k o d cut xs∧aAv n p k o d cut xs=true,.tup [],[(1,.var [.dat R (aFL n p o d cut xs)])]⟩ ∧
  jM Tryz.prog fC 29 [.ips [.ip N n,.ip Pl p,.ptr 1 1 0 0],.dat I k,.dat I o,.dat I d,.dat I cut] [(1,.var [.dat R xs])] ⟨aOZ n p k o d cut xs,aAv n p k o d cut xs,iK 39 190⟩:=by
 refine fK (c:=c13) aPm aUj hm aRy (aMq n p k o d cut xs ⟨rfl,fun hp=>?_⟩)
 simp only [eq_self,true_and,and_true,forall_const,D.nil,D.le,D.ilen,D.ile,D.ilt,D.sub,D.add,D.nat,D.ofN,D.len,D.fE,D.get,decide_eq_true_eq,decide_eq_false_iff_not]
 obtain ⟨hf,hk⟩:=id hp
 obtain ⟨⟨⟨hu,hpl⟩,ho,hd⟩,ht,hys⟩:=id hf
 obtain ⟨⟨p0,p1,p2⟩,⟨q1,q2⟩,q3,q4,q5⟩:=id hpl
 obtain ⟨ft,_⟩:=aGB 19 hf
 have hcl:=aOG hu hk
 have hc:=aGY hu hd
 obtain ⟨⟨z1,z2⟩,hw,hs⟩:=sO hc
 have hr:=aOW (t:=aBS n p o d cut xs) hu hd
 have ft:-3000000000≤aBS n p o d cut xs∧aBS n p o d cut xs≤3000000000:=ft
 have ht2:-3000000000≤cut∧cut≤3000000000:=ht
 have eK:n.2.2.2.2.2.getD k.toNat (⟨#[]⟩,0,0)=bC n k:=rfl
 have eL:aHI (aB n d) (bC n k).2.2 (tZ n d (aBS n p o d cut xs))=aE1 n p k o d cut xs:=rfl
 have eB:bQ (aB n d).1 cut=aFB n d cut:=rfl
 have eN:iG (aB n d).2.1 (aB n d).2.2 (aFB n d cut + 1) (aE1 n p k o d cut xs)=aIt n p k o d cut xs:=rfl
 have eY:((p.2.2.2.getD k.toNat []).getD o.toNat []).getD d.toNat 0=kR p k o d:=rfl
 have eP:aAv n p k o d cut xs=(aBT n p o d cut xs && (uY (aB n d) (bC n k).2.2 (tZ n d (aBS n p o d cut xs)) && (decide (aE1 n p k o d cut xs - aFB n d cut≤2000) && decide (((aIt n p k o d cut xs).length:Int)≤kR p k o d)))):=rfl
 simp only [eK,eL,eB,eN,eY]
 have hrp:aOX n d (aBS n p o d cut xs):=⟨hu,hd,ft⟩
 have hdp:aN8 (aB n d) (tZ n d (aBS n p o d cut xs)):=⟨hc,⟨by omega,by omega⟩⟩
 have hB:-10000000≤aFB n d cut∧aFB n d cut≤10000000:=by unfold aFB bQ;omega
 refine ⟨⟨hf,fun h=>by rw [eP,h];rfl⟩,fun h1=>⟨⟨hf,h1⟩,⟨hu,hd⟩,hk.1,hk.2,hrp,hdp,fun h2=>⟨hk.1,hk.2,hrp,⟨hdp,h2⟩,⟨⟨by omega,by omega⟩,⟨by omega,by omega⟩⟩,?_⟩,fun h=>by rw [eP,h1,h];rfl⟩⟩
 have hD:=aRf h2
 rw [eL] at hD
 have hbg:bQ (aB n d).1 (tZ n d (aBS n p o d cut xs))≤aJk (aB n d) (bC n k).2.2 (tZ n d (aBS n p o d cut xs))∧aJk (aB n d) (bC n k).2.2 (tZ n d (aBS n p o d cut xs))≤bQ (aB n d).1 (tZ n d (aBS n p o d cut xs)) + 1:=by unfold aJk;split <;> omega
 have hbd:-10000000≤bQ (aB n d).1 (tZ n d (aBS n p o d cut xs))∧bQ (aB n d).1 (tZ n d (aBS n p o d cut xs))≤10000000:=by unfold bQ;omega
 refine ⟨aN (by omega),fun h=>by rw [eP,h1,h2,decide_eq_false h];rfl,fun h3=>⟨h3,aN (by omega),⟨hw,hs,⟨by omega,by omega⟩,⟨by omega,by omega⟩⟩,⟨0,Nat.zero_le _,rfl,rfl⟩,fun x y hx hy=>?_,fun x hx hlen=>?_⟩⟩
 ·have hlt:x < (aIt n p k o d cut xs).length:=(List.getElem?_eq_some_iff.1 hy).1
  have:=aRT (aB n d).2.1 (aB n d).2.2 (aFB n d cut + 1) (aE1 n p k o d cut xs)
  rw [eN] at this
  exact ⟨aN (by omega),x + 1,by show x + 1≤4000000000000;omega,rfl,by omega⟩
 ·have hk':=hk.1
  have hk2:=hk.2
  have ho1:=ho.1
  have ho2:=ho.2
  have hd1:=hd.1
  have hd2:=hd.2
  obtain ⟨w1,w2⟩:=q5 _ (aW (l:=p.2.2.2) (i:=k.toNat) (d:=[]) (by omega))
  have w3:=w2 _ (aW (l:=p.2.2.2.getD k.toNat []) (i:=o.toNat) (d:=[]) (by omega))
  refine ⟨hk',by omega,ho1,by omega,hd1,by omega,fun h=>⟨hk',by omega,ho1,by omega,hd1,by omega,h,?_⟩,fun h=>?_⟩
  ·rw [eP,h1,h2,decide_eq_true h3,decide_eq_true (by omega)];rfl
  ·rw [eP,h1,h2,decide_eq_true h3,decide_eq_false (by omega)];rfl
end Go.Eng.In
