/- PeIn4j -/
import Derived.Test.YtlobbofhlcjlmaaGreatDoorZ22
import Derived.Test.YtlobbofhlcjlmaaGreatDoorIn3j
set_option linter.unusedSimpArgs false
set_option linter.unusedVariables false
set_option maxRecDepth 100000
noncomputable section
namespace Go.Eng.In
open Go.Proofs
def offAt (n:Net) (o:Int):Off:=n.2.2.2.1.getD o.toNat (⟨#[]⟩,0,0,0,0,0,[])
def calAt (n:Net) (o:Int):Cal:=n.1.getD (offAt n o).2.2.1.toNat (0,[],[])
def claAt (n:Net) (k:Int):Cla:=n.2.2.2.2.2.getD k.toNat (⟨#[]⟩,0,0)
def usP (n:Net):Prop:=usF n=true∧netP n
def offIn (n:Net) (o:Int):Prop:=0≤o∧o < n.2.2.2.1.length
def claIn (n:Net) (k:Int):Prop:=0≤k∧k < n.2.2.2.2.2.length
def tOk (t:Int):Prop:=-3000000000≤t∧t≤3000000000
def rdyF (n:Net) (o t:Int):Int:=t + (offAt n o).2.2.2.2.1 * (offAt n o).2.2.2.2.2.1
def rdyP (n:Net) (o t:Int):Prop:=usP n∧offIn n o∧tOk t
def cellAt (p:Plan) (o d:Int):Int:=(p.2.2.1.getD o.toNat []).getD d.toNat 0
def daysAt (p:Plan) (k o d:Int):Int:=((p.2.2.2.getD k.toNat []).getD o.toNat []).getD d.toNat 0
def plP (n:Net) (p:Plan):Prop:=(0≤p.1∧p.1≤p.2.1∧p.2.1≤600)∧(p.2.2.1.length=n.2.2.2.1.length∧∀ r ∈ p.2.2.1,r.length=n.2.2.2.1.length)∧(∀ i j:Int,offIn n i→offIn n j→cellGood n i (cellAt p i j)=true∧-1≤cellAt p i j) ∧
 p.2.2.2.length=n.2.2.2.2.2.length∧∀ t ∈ p.2.2.2,t.length=n.2.2.2.1.length∧∀ r ∈ t,r.length=n.2.2.2.1.length
def okDay (n:Net) (o l:Int) (p:Plan) (x t:Int):Bool:=wkF (calAt n o).2.1 (calAt n o).2.2 (x - 2 + p.1) && decide (momF (calAt n o).1 (x - 2 + p.1) (linAt n l).2.2.2.1 ≥ rdyF n o t)
def folF (n:Net) (p:Plan) (d:Int):Nat→Int→Int→List Int→Bool×Int×List Int
 | 0,o,t,xs=>(decide (o=d),t,xs)
 | f + 1,o,t,xs=>if o=d then (true,t,xs) else if cellAt p o d=-1 then (false,t,xs) else if hasOne xs=false then (false,t,xs) else
  if okDay n o (cellAt p o d) p (hd xs) t=true then folF n p d f (linAt n (cellAt p o d)).2.2.1 (momF (calAt n o).1 (hd xs - 2 + p.1) (linAt n (cellAt p o d)).2.2.2.1 + (linAt n (cellAt p o d)).2.2.2.2.1) (tl xs) else (false,t,tl xs)
def folOk (n:Net) (p:Plan) (o d t:Int) (xs:List Int):Bool:=(folF n p d 19 o t xs).1
def folT (n:Net) (p:Plan) (o d t:Int) (xs:List Int):Int:=(folF n p d 19 o t xs).2.1
def folR (n:Net) (p:Plan) (o d t:Int) (xs:List Int):List Int:=(folF n p d 19 o t xs).2.2
def folP (n:Net) (p:Plan) (o d t:Int) (xs:List Int):Prop:=((usP n∧plP n p)∧offIn n o∧offIn n d)∧tOk t∧numsOk xs
def folTo (n:Net) (p:Plan) (d o0 t0:Int) (xs0:List Int) (k o t:Int) (xs:List Int):Prop:=(0≤k∧k≤19∧folP n p o d t xs)∧folF n p d (19 - k).toNat o t xs=folF n p d 19 o0 t0 xs0
def begF (c:Cal) (m t:Int):Int:=if m < minF c.1 t then dayF c.1 t + 1 else dayF c.1 t
def delO (c:Cal) (m t:Int):Option Int:=(wdays c.2.1 c.2.2 (begF c m t) (begF c m t + 59)).head?
def delOk (c:Cal) (m t:Int):Bool:=(delO c m t).isSome
def delD (c:Cal) (m t:Int):Int:=(delO c m t).getD 0
def delP (c:Cal) (t:Int):Prop:=calGood c=true∧big t
def isZ (k:Nat):Prop:=k=0
def begD (n:Net) (d cut:Int):Int:=dayF (calAt n d).1 cut
def lastD (n:Net) (p:Plan) (k o d cut:Int) (xs:List Int):Int:=delD (calAt n d) (claAt n k).2.2 (rdyF n d (folT n p o d cut xs))
def needL (n:Net) (p:Plan) (k o d cut:Int) (xs:List Int):List Int:=wdays (calAt n d).2.1 (calAt n d).2.2 (begD n d cut + 1) (lastD n p k o d cut xs)
def proOk (n:Net) (p:Plan) (k o d cut:Int) (xs:List Int):Bool:=folOk n p o d cut xs && (delOk (calAt n d) (claAt n k).2.2 (rdyF n d (folT n p o d cut xs)) && (decide (lastD n p k o d cut xs - begD n d cut≤2000) && decide (((needL n p k o d cut xs).length:Int)≤daysAt p k o d)))
def proP (n:Net) (p:Plan) (k o d cut:Int) (xs:List Int):Prop:=folP n p o d cut xs∧claIn n k
def cntLe (k:Nat):Prop:=k≤4000000000000
def cutIn (p:Plan) (t:Int):Bool:=decide (1440 * p.1≤t) && decide (t < 1440 * p.2.1)
def cutD (n:Net) (p:Plan) (o:Int):List Int:=wdays (calAt n o).2.1 (calAt n o).2.2 (p.1 - 1) (p.2.1 + 1)
def cutM (n:Net) (k o d:Int):Int:=momF (calAt n o).1 d (claAt n k).2.1
def cutsF (n:Net) (p:Plan) (k o:Int):List Int:=((cutD n p o).map fun d=>cutM n k o d).filter (cutIn p)
def cutK (n:Net) (p:Plan) (k o:Int) (j:Nat):Nat:=((((cutD n p o).take j).map fun d=>cutM n k o d).filter (cutIn p)).length
def cutP (n:Net) (p:Plan) (k o:Int):Prop:=(usP n∧plP n p)∧offIn n o∧claIn n k
theorem vc_ready (n:Net) (p:Plan) (o t:Int) (hvc :
 let c1:=n.snd.snd.snd.fst;
 let c2:=(D.get c1 (D.nat o) (ByteArray.mk (D.nil UInt8).toArray,(0:Int),(0:Int),(0:Int),(0:Int),(0:Int),D.nil ByteArray)).snd.snd.snd.snd;
 let c3:=D.mul c2.fst c2.snd.fst;
 let c4:=D.add t c3;true=true∧(rdyP n o t→D.ile (0:Int) o∧D.ilt o (D.ilen c1)∧inR IntKind.i64 c3∧inR IntKind.i64 c4∧c4=rdyF n o t∧True)) :
  evF (mkc K10) noAnn 72 [.ips [.ip N n,.ip Pl p,.top],.dat I o,.dat I t] [] ⟨rdyP n o t,.dat I (rdyF n o t),[]⟩:=@of_eq _ _ (by kernel_rfl) hvc
theorem vc_calOf (n:Net) (p:Plan) (o:Int) (hvc :
 let c1:=n.snd.snd.snd.fst;
 let c2:=(D.get c1 (D.nat o) (ByteArray.mk (D.nil UInt8).toArray,(0:Int),(0:Int),(0:Int),(0:Int),(0:Int),D.nil ByteArray)).snd.snd.fst;
 let c3:=n.fst;true=true∧(usP n∧offIn n o→D.ile (0:Int) o∧D.ilt o (D.ilen c1)∧D.ile (0:Int) c2∧D.ilt c2 (D.ilen c3)∧D.get c3 (D.nat c2)
 ((0:Int),D.nil Bool,D.nil Int)=calAt n o∧True)) :
  evF (mkc K10) noAnn 67 [.ips [.ip N n,.ip Pl p,.top],.dat I o] [] ⟨usP n∧offIn n o,.ip C (calAt n o),[]⟩:=@of_eq _ _ (by kernel_rfl) hvc
theorem vc_cuts (n:Net) (p:Plan) (k o:Int) (hvc :
 true=true∧(True→n=n∧p=p∧o=o∧k=k∧True)) :
  evF (mkc K10) noAnn 28 [.ips [.ip N n,.ip Pl p,.top],.dat I k,.dat I o] [] ⟨True,.fn 66 [.ipv (.ips [.ip N n,.ip Pl p,.top]),.ip I o,.ip I k],[]⟩:=@of_eq _ _ (by kernel_rfl) hvc
def K11:Kt:=kOr 72 (dataK [.pvf N Pl,.val I,.val I] (fun ((n,_),o,t,_)=>rdyP n o t) fun ((n,_),o,t,_)=>.dat I (rdyF n o t)) <|
 kOr 67 (dataK [.pvf N Pl,.val I] (fun ((n,_),o,_)=>usP n∧offIn n o) fun ((n,_),o,_)=>.ip C (calAt n o)) <|
 kOr 28 (dataK [.pvf N Pl,.val I,.val I] (fun _=>True) fun ((n,p),k,o,_)=>.fn 66 [.ipv (.ips [.ip N n,.ip Pl p,.top]),.ip I o,.ip I k]) K10
def KI1:FuncId→List AV→Option IRes:=fun f caps=>if f=100 then match ofK [.ptr I,.ptr I,.bp C] caps with
 | some (a,b,c,_)=>some ⟨wdP c.2.1 c.2.2 a b,I,wdays c.2.1 c.2.2 a b⟩
 | none=>none
 else none
noncomputable def mkr (K:Kt) (KI:FuncId→List AV→Option IRes) (KP:KPt) (pf:FuncId→Bool):Cfg:=⟨Tryz.prog,G0,K,fun _=>false,KI,true,KP,pf⟩
def mki (K:Kt) (KI:FuncId→List AV→Option IRes):Cfg:={ mkc K with KI:=KI }
def cutA (n:Net) (p:Plan) (k o:Int):AnnN:=⟨noAnn,⟨fun _ _=>none,fun _ _=>none,fun id=>id == 6⟩,fun s=>some (frz (allNames s) s),fun j=>cutK n p k o j⟩
theorem vc_cuti (n:Net) (p:Plan) (k o:Int) (hvc :
 let c1:=p.fst;
 let c2:=D.mul (1440:Int) c1;
 let c3:=p.snd;
 let c4:=c3.fst;
 let c5:=D.mul (1440:Int) c4;
 let c6:=D.sub c1 (1:Int);
 let c7:=D.add c4 (1:Int);
 let c8:=(calAt n o).snd;
 let c9:=c8.fst;
 let c10:=c8.snd;
 let c11:=wdays c9 c10 c6 c7;
 let c12:=cutsF n p k o;
 let c13:=D.len c12;
 let c14:=n.snd.snd.snd.snd.snd;
 let c15:=(calAt n o).fst;
 let c16:=(D.get c14 (D.nat k) (ByteArray.mk (D.nil UInt8).toArray,(0:Int),(0:Int))).snd.fst;true=true∧true=true∧true=true∧false=false∧∀
 (l:Nat),cutP n p k o→(usP n∧offIn n o)∧1=1∧0=0∧inR IntKind.i64 c2∧inR IntKind.i64 c5∧1=1∧0=0∧1=1∧0=0∧1=1∧0=0∧inR
 IntKind.i64 c6∧inR IntKind.i64 c7∧True∧l=l∧n=n∧p=p∧o=o∧k=k∧l=l∧1=1∧0=0∧AV.ip ((Ty.int IntKind.i64).pair (Ty.bool.sl.pair
 (Ty.int IntKind.i64).sl)) (calAt n o)=AV.ip ((Ty.int IntKind.i64).pair (Ty.bool.sl.pair (Ty.int IntKind.i64).sl)) (calAt n o)∧1=1∧0=0∧c2=c2∧1 =
 1∧0=0∧c5=c5∧n=n∧p=p∧o=o∧calAt n o=calAt n o∧n=n∧p=p∧n=n∧p=p∧p=p∧p=p∧p=p∧p=p∧c1=c1∧c2=c2∧n=n
 ∧ p=p∧n=n∧p=p∧p=p∧p=p∧p=p∧c3=c3∧c4=c4∧c5=c5∧calAt n o=calAt n o∧n=n∧p=p∧n=n∧p=p∧p=p∧p=p∧p=p ∧
 p=p∧c1=c1∧c6=c6∧n=n∧p=p∧n=n∧p=p∧p=p∧p=p∧p=p∧c3=c3∧c4=c4∧c7=c7∧c6=c6∧c7=c7∧calAt n o=calAt n o ∧
 wdP c9 c10 c6 c7∧cutK n p k o (0)=0∧cutK n p k o (D.len c11)=c13∧∀ (j:Nat),
 let c17:=cutK n p k o j;
 let c18:=D.nadd c17 (1);
 let c19:=cutK n p k o (D.nadd j (1));∀ (y:Int),
 let c20:=D.ge (momF c15 y c16) c2;
 let c21:=D.cnd c20 (D.lt (momF c15 y c16) c5) false;
 let c22:=D.cnd c21 (D.not false) false;isAt c11 j y→true=true∧D.ile (0:Int) k∧D.ilt k (D.ilen c14)∧(big c15∧big y∧big c16)∧(c20=true →
 c20=true→c20=true)∧(c20=true→c20=true→c20=true)∧(D.and true c20=true→c20=true)∧(c21=true→(c21=true→c21=true)∧(c21 =
 true→c21=true)∧l=l∧true=true∧isAt c12 c17 (momF c15 y c16)∧∀ (b:Bool),
 let c23:=D.cnd c21 (D.not b) false;(D.and true c21=true→c21=true)∧(c23=true→b=true→c18=c13)∧(c23=false→b=true∧c18=c19))∧(c21
 = false→(c21=true→c21=true→c21=true)∧(D.and true c21=true→c21=true)∧(c22=true→true=true→c17=c13)∧(c22=false→true=true ∧
 c17=c19))) :
  evIN (mki K11 KI1) (cutA n p k o) 66 [.ipv (.ips [.ip N n,.ip Pl p,.top]),.ip I o,.ip I k] ⟨cutP n p k o,I,cutsF n p k o⟩:=@of_eq _ _ (by kernel_rfl) hvc
def folA (n:Net) (p:Plan) (d o0 t0:Int) (xs0:List Int):Ann:=⟨fun id s=>match id with
 | 2=>some { α:=Int×Int×Int×List Int,inv:=fun x=>folTo n p d o0 t0 xs0 x.1 x.2.1 x.2.2.1 x.2.2.2,st:=fun x=>putM (put (flat s) [(9,.dat I x.1),(1,.dat I x.2.1),(3,.dat I x.2.2.1)]) 1 (.var [.dat R x.2.2.2]),μ:=fun x=>D.nat (D.sub 19 x.1) }
 | _=>none,fun _ _=>none,fun _ _=>none⟩
def K12:Kt:=kOr 98 (memK 1 R [.mp 1] (fun _ xs=>True∧hasOne xs=true) (fun _ xs=>.dat I (hd xs)) fun _ xs=>tl xs) K11
def c12:Cfg:=mkp K12 (fun _=>false) KP6 (fun f=>f == 25 || f == 98)
theorem vc_follow (n:Net) (p:Plan) (o d t:Int) (xs:List Int) (hvc :
 let c1:=p.snd.snd.fst;
 let c2:=folOk n p o d t xs;
 let c3:=chainOf (Value.iface (39) (Value.int IntKind.i64 (190:Int)));
 let c4:=n.snd.snd.snd.snd.fst;
 let c5:=p.fst;
 let c6:=(ByteArray.mk (D.nil UInt8).toArray,(0:Int),(0:Int),(0:Int),(0:Int),(0:Int));true=true∧(folP n p o d t xs→1=1∧(∃ (x:Int ×
 Int×Int×List Int),
 let c7:=x.fst;
 let c8:=x.snd;
 let c9:=c8.fst;
 let c10:=c8.snd;
 let c11:=c10.fst;
 let c12:=c10.snd;folTo n p d o t xs c7 c9 c11 c12∧n=n∧p=p∧1=1∧0=0∧0=0∧o=c9∧d=d∧t=c11∧(0:Int)=(0:Int)∧(0:Int)=c7
 ∧ xs=c12∧1=1∧True)∧∀ (x:Int×Int×Int×List Int),
 let c13:=x.fst;
 let c14:=x.snd;
 let c15:=c14.fst;
 let c16:=c14.snd;
 let c17:=c16.fst;
 let c18:=c16.snd;
 let c19:=D.ne c15 d;
 let c20:=D.get c1 (D.nat c15) (D.nil Int);
 let c21:=D.lt c13 (19:Int);
 let c22:=D.get c20 (D.nat d) (0:Int);
 let c23:=D.cnd c21 (D.ne c22 (-1:Int)) false;
 let c24:=hasOne c18;
 let c25:=D.sub (hd c18) (2:Int);
 let c26:=D.add c25 c5;
 let c27:=calAt n c15;
 let c28:=c27.fst;
 let c29:=(D.get c4 (D.nat c22) c6).snd.snd;
 let c30:=c29.snd;
 let c31:=c30.fst;
 let c32:=c27.snd;
 let c33:=c32.fst;
 let c34:=c32.snd;
 let c35:=wkF c33 c34 c26;
 let c36:=momF c28 c26 c31;
 let c37:=D.cnd c35 (D.ge c36 (rdyF n c15 c17)) false;
 let c38:=D.add c36 c30.snd.fst;
 let c39:=D.add c13 (1:Int);folTo n p d o t xs c13 c15 c17 c18→(c19=true→D.ile (0:Int) c15∧D.ilt c15 (D.ilen c1)∧D.ile (0:Int) d∧D.ilt d
 (D.ilen c20)∧(c21=true→c21=true→c21=true)∧(D.and true c21=true→c21=true)∧(true=true→True∧(c23=false→c2=false∧true=true ∧
 c3=c3))∧((true=true→c23=true)→(True∧c23=true)∧D.ile (0:Int) c22∧D.ilt c22 (D.ilen c4)∧(usP n∧offIn n c15)∧True∧(c24=true →
 (True∧c24=true)∧1=1∧inR IntKind.i64 c25∧inR IntKind.i64 c26∧(big c28∧big c26∧big c31)∧wkP c33 c34 c26∧(c35=true→c35=true→c35 =
 true)∧(c35=true→c35=true→c35=true)∧(c35=true→c35=true→c35=true)∧(c35=true→rdyP n c15 c17)∧(c35=true→c35=true→c35 =
 true)∧(c35=true→c35=true→c35=true)∧(D.and true c35=true→c35=true)∧(true=true→True∧(c37=false→c2=false∧true=true∧c3 =
 c3))∧((true=true→c37=true)→(True∧c37=true)∧inR IntKind.i64 c38∧inR IntKind.i64 c39∧∃ (y:Int×Int×Int×List Int),
 let c40:=y.fst;
 let c41:=y.snd;
 let c42:=c41.fst;
 let c43:=c41.snd;
 let c44:=c43.fst;
 let c45:=c43.snd;folTo n p d o t xs c40 c42 c44 c45∧(n=n∧p=p∧1=1∧0=0∧0=0∧c29.fst=c42∧d=d∧c38=c44∧(0:Int)=(0:Int) ∧
 c39=c40∧tl c18=c45∧1=1∧True)∧D.nlt (D.nat (D.sub (19:Int) c40)) (D.nat (D.sub (19:Int) c13))))∧(c24=false→c2=false∧true=true∧c3
 = c3)))∧(c19=false→c2=true∧c17=folT n p o d t xs∧c18=folR n p o d t xs∧1=1∧True))) :
  evM c12 (folA n p d o t xs) 70 [.ips [.ip N n,.ip Pl p,.ptr 1 1 0 0],.dat I o,.dat I d,.dat I t] [(1,.var [.dat R xs])] (.dat I (folT n p o d t xs)) [(1,.var [.dat R (folR n p o d t xs)])] ⟨folP n p o d t xs,folOk n p o d t xs,errV 39 190⟩:=@of_eq _ _ (by kernel_rfl) hvc
def delA:Ann:=⟨fun id s=>match id with
 | 5=>some { α:=Nat,inv:=fun k=>isZ k,st:=fun _=>flat s,μ:=fun k=>k }
 | _=>none,fun _ _=>none,fun _ _=>none⟩
theorem vc_deliv (z m t:Int) (w:List Bool) (h:List Int) (hvc :
 let c1:=(z,w,h);
 let c2:=D.lt m (minF z t);
 let c3:=D.add (dayF z t) (1:Int);
 let c4:=D.add c3 (60:Int);
 let c5:=D.sub c4 (1:Int);
 let c6:=wdays w h c3 c5;
 let c7:=delOk c1 m t;
 let c8:=chainOf (Value.iface (39) (Value.int IntKind.i64 (190:Int)));
 let c9:=D.add (dayF z t) (60:Int);
 let c10:=D.sub c9 (1:Int);
 let c11:=wdays w h (dayF z t) c10;true=true∧(delP c1 t→(big z∧big t)∧(c2=true→inR IntKind.i64 c3∧inR IntKind.i64 c4∧inR IntKind.i64 c5 ∧
 True∧wdP w h c3 c5∧(∃ x,isZ x∧x=0∧c1=c1∧m=m∧t=t∧1=1∧0=0∧0=0∧c3=c3∧minF z t=minF z t∧dayF z t=dayF z t∧minF z t =
 minF z t∧c1=c1∧t=t∧dayF z t=dayF z t∧minF z t=minF z t∧dayF z t=dayF z t∧minF z t=minF z t∧m=m∧minF z t=minF z t∧c2=c2 ∧
 dayF z t=dayF z t∧c3=c3∧c1=c1∧c3=c3∧c3=c3∧c4=c4∧c5=c5∧c3=c3∧c5=c5∧c1=c1∧(0:Int)=(0:Int)∧True)∧(∀ (x:Nat) (y
 : Int),isZ x→isAt c6 x y→1=1∧0=0∧c7=true∧1=1∧0=0∧y=delD c1 m t∧True)∧∀ (x:Nat),isZ x→x=D.len c6→(true=true→True ∧
 (false=false→c7=false∧true=true∧c8=c8))∧True)∧(c2=false→inR IntKind.i64 c9∧inR IntKind.i64 c10∧True∧wdP w h (dayF z t) c10∧(∃ x,
 isZ x∧x=0∧c1=c1∧m=m∧t=t∧1=1∧0=0∧0=0∧dayF z t=dayF z t∧minF z t=minF z t∧dayF z t=dayF z t∧minF z t=minF z t∧c1 =
 c1∧t=t∧dayF z t=dayF z t∧minF z t=minF z t∧dayF z t=dayF z t∧minF z t=minF z t∧m=m∧minF z t=minF z t∧c2=c2∧c1=c1∧dayF z t
 = dayF z t∧dayF z t=dayF z t∧c9=c9∧c10=c10∧dayF z t=dayF z t∧c10=c10∧c1=c1∧(0:Int)=(0:Int)∧True)∧(∀ (x:Nat) (y:Int),
 isZ x→isAt c11 x y→1=1∧0=0∧c7=true∧1=1∧0=0∧y=delD c1 m t∧True)∧∀ (x:Nat),isZ x→x=D.len c11→(true=true→True∧(false
 = false→c7=false∧true=true∧c8=c8))∧True))) :
  evC (mkr K11 KI1 Go.Eng.noP (fun _=>false)) delA 71 [.ip C (z,w,h),.dat I m,.dat I t] (.dat I (delD (z,w,h) m t)) ⟨delP (z,w,h) t,delOk (z,w,h) m t,errV 39 190⟩:=@of_eq _ _ (by kernel_rfl) hvc
def K13:Kt:=kOr 70 (memK 1 R [.pv 1 N Pl,.val I,.val I,.val I] (fun ((n,p),o,d,t,_) xs=>folP n p o d t xs∧folOk n p o d t xs=true) (fun ((n,p),o,d,t,_) xs=>.dat I (folT n p o d t xs)) fun ((n,p),o,d,t,_) xs=>folR n p o d t xs) <|
 kOr 71 (dataK [.ptr C,.val I,.val I] (fun (c,m,t,_)=>delP c t∧delOk c m t=true) fun (c,m,t,_)=>.dat I (delD c m t)) K11
def KP13:KPt:=pOr 70 (memP 1 R [.pv 1 N Pl,.val I,.val I,.val I] fun ((n,p),o,d,t,_) xs=>⟨folP n p o d t xs,folOk n p o d t xs,errV 39 190⟩) <|
 pOr 71 (dataP [.ptr C,.val I,.val I] fun (c,m,t,_)=>⟨delP c t,delOk c m t,errV 39 190⟩) KPr
def c13:Cfg:=mkr K13 KI1 KP13 (fun f=>f == 25 || f == 70 || f == 71)
def proA:Ann:=⟨fun id s=>match id with
 | 7=>match s.sig.T 15 with
  | .ptr nm _ _ _=>some { α:=Nat,inv:=fun k=>cntLe k,st:=fun k=>putM (flat s) nm (.var [.dat I (D.ofN k)]),μ:=fun k=>k }
  | _=>none
 | _=>none,fun _ _=>none,fun _ _=>none⟩
theorem vc_prove (n:Net) (p:Plan) (k o d cut:Int) (xs:List Int) (hvc :
 let c1:=folOk n p o d cut xs;
 let c2:=proOk n p k o d cut xs;
 let c3:=chainOf (Value.iface (39) (Value.int IntKind.i64 (190:Int)));
 let c4:=n.snd.snd.snd.snd.snd;
 let c5:=folT n p o d cut xs;
 let c6:=rdyF n d c5;
 let c7:=D.get c4 (D.nat k) (ByteArray.mk (D.nil UInt8).toArray,(0:Int),(0:Int));
 let c8:=c7.snd.snd;
 let c9:=delOk (calAt n d) c8 c6;
 let c10:=(calAt n d).fst;
 let c11:=delD (calAt n d) c8 c6;
 let c12:=dayF c10 cut;
 let c13:=D.sub c11 c12;
 let c14:=D.le c13 (2000:Int);
 let c15:=D.add c12 (1:Int);
 let c16:=(calAt n d).snd;
 let c17:=c16.fst;
 let c18:=c16.snd;
 let c19:=minF c10 cut;
 let c20:=folR n p o d cut xs;
 let c21:=wdays c17 c18 c15 c11;
 let c22:=p.snd.snd.snd;
 let c23:=D.get c22 (D.nat k) (D.nil (List Int));
 let c24:=D.get c23 (D.nat o) (D.nil Int);
 let c25:=D.get c24 (D.nat d) (0:Int);true=true∧(proP n p k o d cut xs→1=1∧(true=true→folP n p o d cut xs∧(c1=false→c2=false∧true =
 true∧c3=c3))∧((true=true→c1=true)→(folP n p o d cut xs∧c1=true)∧1=1∧(usP n∧offIn n d)∧D.ile (0:Int) k∧D.ilt k (D.ilen c4) ∧
 rdyP n d c5∧delP (calAt n d) c6∧(c9=true→D.ile (0:Int) k∧D.ilt k (D.ilen c4)∧rdyP n d c5∧(delP (calAt n d) c6∧c9=true)∧(big c10∧big
 cut)∧inR IntKind.i64 c13∧(true=true→True∧(c14=false→c2=false∧true=true∧c3=c3))∧((true=true→c14=true)→(True∧c14=true)∧1
 = 1∧0=0∧inR IntKind.i64 c15∧True∧wdP c17 c18 c15 c11∧(∃ x,cntLe x∧x=0∧n=n∧p=p∧1=1∧0=0∧0=0∧k=k∧o=o∧d=d∧cut =
 cut∧c5=c5∧calAt n d=calAt n d∧c11=c11∧c12=c12∧c19=c19∧1=1∧0=0∧0=0∧n=n∧p=p∧1=1∧0=0∧0=0∧o=o∧d=d∧cut
 = cut∧c5=c5∧n=n∧p=p∧1=1∧0=0∧0=0∧d=d∧calAt n d=calAt n d∧calAt n d=calAt n d∧n=n∧p=p∧1=1∧0=0∧0=0∧n=n
 ∧ p=p∧1=1∧0=0∧0=0∧n=n∧p=p∧1=1∧0=0∧0=0∧n=n∧n=n∧c4=c4∧c4=c4∧k=k∧c7=c7∧c8=c8∧c8=c8∧n=n∧p =
 p∧1=1∧0=0∧0=0∧d=d∧c5=c5∧c6=c6∧c11=c11∧c12=c12∧c19=c19∧calAt n d=calAt n d∧cut=cut∧c12=c12∧c19=c19∧c12 =
 c12∧c19=c19∧c11=c11∧c12=c12∧c13=c13∧c14=c14∧calAt n d=calAt n d∧c12=c12∧c15=c15∧c11=c11∧c15=c15∧c11=c11∧calAt n d
 = calAt n d∧c20=c20∧(0:Int)=D.ofN x∧1=1∧True)∧(∀ (x:Nat),
 let c26:=D.add (D.ofN x) (1:Int);∀ (y:Int),cntLe x→isAt c21 x y→1=1∧0=0∧inR IntKind.i64 c26∧1=1∧0=0∧∃ z,cntLe z∧z=D.nadd x
 (1)∧n=n∧p=p∧1=1∧0=0∧0=0∧k=k∧o=o∧d=d∧cut=cut∧c5=c5∧calAt n d=calAt n d∧c11=c11∧c12=c12∧c19=c19∧1=1 ∧
 0=0∧0=0∧n=n∧p=p∧1=1∧0=0∧0=0∧o=o∧d=d∧cut=cut∧c5=c5∧n=n∧p=p∧1=1∧0=0∧0=0∧d=d∧calAt n d=calAt
 n d∧calAt n d=calAt n d∧n=n∧p=p∧1=1∧0=0∧0=0∧n=n∧p=p∧1=1∧0=0∧0=0∧n=n∧p=p∧1=1∧0=0∧0=0∧n=n∧n
 = n∧c4=c4∧c4=c4∧k=k∧c7=c7∧c8=c8∧c8=c8∧n=n∧p=p∧1=1∧0=0∧0=0∧d=d∧c5=c5∧c6=c6∧c11=c11∧c12=c12∧c19
 = c19∧calAt n d=calAt n d∧cut=cut∧c12=c12∧c19=c19∧c12=c12∧c19=c19∧c11=c11∧c12=c12∧c13=c13∧c14=c14∧calAt n d=calAt n
 d∧c12=c12∧c15=c15∧c11=c11∧c15=c15∧c11=c11∧calAt n d=calAt n d∧c20=c20∧c26=D.ofN z∧1=1∧True)∧∀ (x:Nat),cntLe x→x =
 D.len c21→1=1∧0=0∧D.ile (0:Int) k∧D.ilt k (D.ilen c22)∧D.ile (0:Int) o∧D.ilt o (D.ilen c23)∧D.ile (0:Int) d∧D.ilt d (D.ilen c24) ∧
 True∧(D.le (D.ofN x) c25=true→1=1∧0=0∧D.ile (0:Int) k∧D.ilt k (D.ilen c22)∧D.ile (0:Int) o∧D.ilt o (D.ilen c23)∧D.ile (0:Int) d ∧
 D.ilt d (D.ilen c24)∧(True∧D.le (D.ofN x) c25=true)∧c2=true∧c20=c20∧1=1∧True)∧(D.le (D.ofN x) c25=false→c2=false∧true=true∧c3
 = c3)))∧(c9=false→c2=false∧true=true∧c3=c3)))) :
  evM c13 proA 29 [.ips [.ip N n,.ip Pl p,.ptr 1 1 0 0],.dat I k,.dat I o,.dat I d,.dat I cut] [(1,.var [.dat R xs])] (.tup []) [(1,.var [.dat R (folR n p o d cut xs)])] ⟨proP n p k o d cut xs,proOk n p k o d cut xs,errV 39 190⟩:=@of_eq _ _ (by kernel_rfl) hvc
theorem us_all {n:Net} (h:usP n):((∀ c ∈ n.1,calGood c=true)∧(∀ o ∈ n.2.2.2.1,offGood n o=true))∧(∀ l ∈ n.2.2.2.2.1,linGood n l=true)∧∀ k ∈ n.2.2.2.2.2,claGood k=true:=by
 have:=h.1
 unfold usF at this
 simp only [Bool.and_eq_true,List.all_eq_true] at this
 exact ⟨⟨this.1.1.1,this.1.1.2⟩,this.1.2,this.2⟩
theorem us_off {n:Net} {o:Int} (h:usP n) (ho:offIn n o):(0≤(offAt n o).2.2.1∧(offAt n o).2.2.1 < n.1.length)∧(1≤(offAt n o).2.2.2.2.1∧(offAt n o).2.2.2.2.1≤1000)∧1≤(offAt n o).2.2.2.2.2.1∧(offAt n o).2.2.2.2.2.1≤1000:=by
 have:=(us_all h).1.2 (offAt n o) (getD_mem (by have:=ho.1;have:=ho.2;omega))
 unfold offGood at this
 simp only [Bool.and_eq_true,btw_iff] at this
 omega
theorem us_cal {n:Net} {o:Int} (h:usP n) (ho:offIn n o):calGood (calAt n o)=true :=
 (us_all h).1.1 _ (getD_mem (by have:=(us_off h ho).1;omega))
theorem us_lin {n:Net} {l:Int} (h:usP n) (h0:0≤l) (h1:l < n.2.2.2.2.1.length):offIn n (linAt n l).2.1∧offIn n (linAt n l).2.2.1∧(0≤(linAt n l).2.2.2.1∧(linAt n l).2.2.2.1≤1439)∧1≤(linAt n l).2.2.2.2.1∧(linAt n l).2.2.2.2.1≤100000:=by
 have:=(us_all h).2.1 (linAt n l) (getD_mem (by omega))
 unfold linGood officeF at this
 simp only [Bool.and_eq_true,btw_iff] at this
 unfold offIn
 omega
theorem us_cla {n:Net} {k:Int} (h:usP n) (hk:claIn n k):(0≤(claAt n k).2.1∧(claAt n k).2.1≤1439)∧0≤(claAt n k).2.2∧(claAt n k).2.2≤1439:=by
 have:=(us_all h).2.2 (claAt n k) (getD_mem (by have:=hk.1;have:=hk.2;omega))
 unfold claGood at this
 simp only [Bool.and_eq_true,btw_iff] at this
 omega
theorem cal_parts {c:Cal} (h:calGood c=true):(-720≤c.1∧c.1≤840)∧c.2.1.length=7∧srt c.2.2:=by
 have:=(validF_iff.1 h).1
 exact ⟨⟨this.1,this.2.1⟩,this.2.2.1,valid_srt h⟩
theorem rdy_le {n:Net} {o t:Int} (h:usP n) (ho:offIn n o):t + 1≤rdyF n o t∧rdyF n o t≤t + 1000000:=by
 obtain ⟨_,⟨a1,a2⟩,b1,b2⟩:=us_off h ho
 unfold rdyF
 have h1:1 * 1≤(offAt n o).2.2.2.2.1 * (offAt n o).2.2.2.2.2.1:=Int.mul_le_mul a1 b1 (by decide) (by omega)
 have h2:(offAt n o).2.2.2.2.1 * (offAt n o).2.2.2.2.2.1≤1000 * 1000:=Int.mul_le_mul a2 b2 (by omega) (by decide)
 omega
theorem t_ready (n:Net) (p:Plan) (o t:Int):SoundC Tryz.prog G0 72 [.ips [.ip N n,.ip Pl p,.top],.dat I o,.dat I t] [] ⟨rdyP n o t,.dat I (rdyF n o t),[]⟩:=by
 refine sound_of_ev (c:=mkc K10) KS10 KI0s hm (vc_ready n p o t ⟨rfl,fun ⟨hu,ho,ht⟩=>?_⟩)
 obtain ⟨r1,r2⟩:=rdy_le (t:=t) hu ho
 obtain ⟨t1,t2⟩:=ht
 have e:rdyF n o t=t + (offAt n o).2.2.2.2.1 * (offAt n o).2.2.2.2.2.1:=rfl
 refine ⟨ho.1,ho.2,in_big ?_,in_big ?_,rfl,trivial⟩
 ·show _≤(offAt n o).2.2.2.2.1 * (offAt n o).2.2.2.2.2.1∧(offAt n o).2.2.2.2.1 * (offAt n o).2.2.2.2.2.1≤_
  omega
 ·show _≤t + (offAt n o).2.2.2.2.1 * (offAt n o).2.2.2.2.2.1∧t + (offAt n o).2.2.2.2.1 * (offAt n o).2.2.2.2.2.1≤_
  omega
theorem t_calOf (n:Net) (p:Plan) (o:Int):SoundC Tryz.prog G0 67 [.ips [.ip N n,.ip Pl p,.top],.dat I o] [] ⟨usP n∧offIn n o,.ip C (calAt n o),[]⟩:=by
 refine sound_of_ev (c:=mkc K10) KS10 KI0s hm (vc_calOf n p o ⟨rfl,fun ⟨hu,ho⟩=>?_⟩)
 have:=(us_off hu ho).1
 exact ⟨ho.1,ho.2,this.1,this.2,rfl,trivial⟩
theorem t_cuts (n:Net) (p:Plan) (k o:Int):SoundC Tryz.prog G0 28 [.ips [.ip N n,.ip Pl p,.top],.dat I k,.dat I o] [] ⟨True,.fn 66 [.ipv (.ips [.ip N n,.ip Pl p,.top]),.ip I o,.ip I k],[]⟩ :=
 sound_of_ev (c:=mkc K10) KS10 KI0s hm (vc_cuts n p k o ⟨rfl,fun _=>by simp⟩)
theorem KS11:KSound Tryz.prog G0 K11:=kOr_ok (dataK_ok fun ((n,p),o,t,_)=>t_ready n p o t) <| kOr_ok (dataK_ok fun ((n,p),o,_)=>t_calOf n p o) <| kOr_ok (dataK_ok fun ((n,p),k,o,_)=>t_cuts n p k o) KS10
theorem IterC.args {P:Program} {G:List (Nat×AV)} {gf:FuncId} {xs ys:List AV} {it:IRes} (h:IterC P G gf ys it) (hab:∀ (C:Ctx) us,AV.relL P C xs us→AV.relL P C ys us):IterC P G gf xs it :=
 fun hp l J JX JP w D us hD hG hu=>h hp l J JX JP w D us hD hG (hab _ us hu)
theorem KI1s:KISound Tryz.prog G0 KI1:=by
 intro f caps it h
 unfold KI1 at h
 split at h
 ·rename_i e
  subst e
  split at h
  ·rename_i a b c _ hx
   cases h
   exact IterC.args (t_wdi c.1 a b c.2.1 c.2.2) fun C us hu=>ofK_rel hx hu
  ·cases h
 ·cases h
theorem cutK_end (n:Net) (p:Plan) (k o:Int):cutK n p k o (cutD n p o).length=(cutsF n p k o).length:=by
 unfold cutK cutsF
 rw [List.take_of_length_le (Nat.le_refl _)]
theorem cutK_succ {n:Net} {p:Plan} {k o:Int} {j:Nat} {y:Int} (h:isAt (cutD n p o) j y):cutK n p k o (j + 1)=cutK n p k o j + (if cutIn p (cutM n k o y)=true then 1 else 0):=by
 have h:(cutD n p o)[j]?=some y:=h
 unfold cutK
 rw [List.take_add_one,h,List.map_append,List.filter_append,List.length_append]
 congr 1
 simp only [Option.toList,List.map_cons,List.map_nil,List.filter_cons,List.filter_nil]
 split <;> rfl
theorem cutK_at {n:Net} {p:Plan} {k o:Int} {j:Nat} {y:Int} (h:isAt (cutD n p o) j y) (hc:cutIn p (cutM n k o y)=true):isAt (cutsF n p k o) (cutK n p k o j) (cutM n k o y):=by
 have h:(cutD n p o)[j]?=some y:=h
 obtain ⟨hj,hy⟩:=List.getElem?_eq_some_iff.1 h
 have e:cutD n p o=(cutD n p o).take j ++ y :: (cutD n p o).drop (j + 1):=by rw [← hy,List.getElem_cons_drop,List.take_append_drop]
 have e2:cutsF n p k o=(((cutD n p o).take j).map fun d=>cutM n k o d).filter (cutIn p) ++ ((y :: (cutD n p o).drop (j + 1)).map fun d=>cutM n k o d).filter (cutIn p):=by
  unfold cutsF
  conv=>lhs;rw [e]
  rw [List.map_append,List.filter_append]
 unfold isAt
 rw [e2]
 unfold cutK
 rw [List.getElem?_append_right (Nat.le_refl _),Nat.sub_self,List.map_cons,List.filter_cons,if_pos hc]
 rfl
theorem wd_mem {w:List Bool} {h:List Int} {a b x:Int} (hx:x ∈ wdays w h a b):a≤x∧x≤b∧wkF w h x=true:=by
 unfold wdays at hx
 rw [List.mem_filter,List.mem_map] at hx
 obtain ⟨⟨i,hi,rfl⟩,h2⟩:=hx
 have:=List.mem_range.1 hi
 exact ⟨by omega,by omega,h2⟩
theorem t_cuti (n:Net) (p:Plan) (k o:Int):IterC Tryz.prog G0 66 [.ipv (.ips [.ip N n,.ip Pl p,.top]),.ip I o,.ip I k] ⟨cutP n p k o,I,cutsF n p k o⟩:=by
 refine iter_of_evN (c:=mki K11 KI1) KS11 KI1s hm (vc_cuti n p k o ⟨rfl,rfl,rfl,rfl,fun l ⟨⟨hu,hp⟩,ho,hk⟩=>?_⟩)
 obtain ⟨⟨p0,p1,p2⟩,_⟩:=hp
 have hc:=us_cal hu ho
 obtain ⟨⟨z1,z2⟩,hw,hs⟩:=cal_parts hc
 have hcl:=us_cla hu hk
 simp only [eq_self,true_and]
 refine ⟨⟨hu,ho⟩,in_big (by simp only [D.mul];omega),in_big (by simp only [D.mul];omega),in_big (by simp only [D.sub];omega),in_big (by simp only [D.add];omega),⟨hw,hs,⟨by simp only [D.sub];omega,by simp only [D.sub];omega⟩,⟨by simp only [D.add];omega,by simp only [D.add];omega⟩⟩,rfl,cutK_end n p k o,fun j y hy=>?_⟩
 have hy':isAt (cutD n p o) j y:=hy
 have hm2:=wd_mem (List.mem_of_getElem? hy')
 have hk2:=cutK_succ (k:=k) hy'
 have eM:momF (calAt n o).1 y (claAt n k).2.1=cutM n k o y:=rfl
 have eC:D.cnd (D.ge (cutM n k o y) (D.mul 1440 p.1)) (D.lt (cutM n k o y) (D.mul 1440 p.2.1)) false=cutIn p (cutM n k o y):=by
  rw [cnd_and];rfl
 have two:∀ {q:Prop},q→(q∧q):=fun h=>⟨h,h⟩
 refine ⟨hk.1,hk.2,⟨⟨by omega,by omega⟩,⟨by omega,by omega⟩,⟨by show _≤(claAt n k).2.1;omega,by show (claAt n k).2.1≤_;omega⟩⟩,?_⟩
 simp only [imp_self,implies_true,true_and]
 refine ⟨fun h=>by simpa [D.and] using h,fun hc1=>?_,fun hc1=>?_⟩
 ·have hin:cutIn p (cutM n k o y)=true:=by rw [← eC];exact hc1
  rw [if_pos hin] at hk2
  refine ⟨cutK_at hy' hin,fun b=>⟨fun _=>hc1,fun h1 h2=>?_,fun h1=>?_⟩⟩
  ·rw [h2] at h1
   rw [hc1] at h1;cases h1
  ·rw [hc1] at h1
   have:b=true:=by simpa [D.cnd,D.not] using h1
   exact ⟨this,hk2.symm⟩
 ·have hin:cutIn p (cutM n k o y)=false:=by rw [← eC];exact hc1
  rw [if_neg (by rw [hin];exact Bool.false_ne_true)] at hk2
  refine ⟨fun h=>by simpa [D.and] using h,?_,?_⟩
  ·intro h
   rw [hc1] at h;cases h
  ·intro _
   exact hk2.symm
theorem KS12:KSound Tryz.prog G0 K12:=kOr_ok (memK_ok fun _ xs=>(t_next1 xs).1) KS11
theorem t_follow (n:Net) (p:Plan) (o d t:Int) (xs:List Int):SoundC Tryz.prog G0 70 [.ips [.ip N n,.ip Pl p,.ptr 1 1 0 0],.dat I o,.dat I d,.dat I t] [(1,.var [.dat R xs])] ⟨folP n p o d t xs∧folOk n p o d t xs=true,.dat I (folT n p o d t xs),[(1,.var [.dat R (folR n p o d t xs)])]⟩ ∧
  SoundP Tryz.prog G0 70 [.ips [.ip N n,.ip Pl p,.ptr 1 1 0 0],.dat I o,.dat I d,.dat I t] [(1,.var [.dat R xs])] ⟨folP n p o d t xs,folOk n p o d t xs,errV 39 190⟩:=by
 refine sound_of_evM (c:=c12) KS12 KI0s hm KP6_ok (vc_follow n p o d t xs ⟨rfl,fun hp=>?_⟩)
 simp only [cnd_and,D.and,Bool.true_and,eq_self,true_and,and_true,imp_self,implies_true,Bool.and_eq_true,Bool.and_eq_false_imp,forall_const,D.nil,D.ne,D.lt,D.ge,D.ilen,D.ile,D.ilt,D.nlt,D.sub,D.add,D.nat,D.get,decide_eq_true_eq,decide_eq_false_iff_not,bne_iff_ne,bne_eq_false_iff_eq]
 refine ⟨⟨(0,o,t,xs),⟨⟨Int.le_refl _,show (0:Int)≤19 by decide,hp⟩,rfl⟩,rfl,rfl,rfl,rfl⟩,fun ⟨k,o2,t2,ys⟩ hi=>?_⟩
 obtain ⟨⟨k0,k1,hq⟩,he⟩:=hi
 simp only at k0 k1 hq he
 obtain ⟨⟨⟨hu,hpl⟩,ho2,hd2⟩,ht2,hys⟩:=id hq
 obtain ⟨⟨p0,p1,p2⟩,⟨q1,q2⟩,q3,_⟩:=id hpl
 obtain ⟨c,ec⟩:∃ c,c=cellAt p o2 d:=⟨_,rfl⟩
 have eC:(p.2.2.1.getD o2.toNat []).getD d.toNat 0=c:=ec.symm
 obtain ⟨ln,el⟩:∃ ln,ln=linAt n c:=⟨_,rfl⟩
 have eL:n.2.2.2.2.1.getD c.toNat (⟨#[]⟩,0,0,0,0,0)=ln:=el.symm
 simp only [eC,eL]
 obtain ⟨g1,g2⟩:=q3 o2 d ho2 hd2
 rw [← ec] at g1 g2
 have eOk:folOk n p o d t xs=(folF n p d (19 - k).toNat o2 t2 ys).1:=by rw [he];rfl
 have eT:folT n p o d t xs=(folF n p d (19 - k).toNat o2 t2 ys).2.1:=by rw [he];rfl
 have eR:folR n p o d t xs=(folF n p d (19 - k).toNat o2 t2 ys).2.2:=by rw [he];rfl
 have hf:k < 19→(19 - k).toNat=(19 - (k + 1)).toNat + 1:=fun h=>by omega
 have eS:∀ f,folF n p d (f + 1) o2 t2 ys=if o2=d then (true,t2,ys) else if c=-1 then (false,t2,ys) else if hasOne ys=false then (false,t2,ys) else
   if okDay n o2 c p (hd ys) t2=true then folF n p d f ln.2.2.1 (momF (calAt n o2).1 (hd ys - 2 + p.1) ln.2.2.2.1 + ln.2.2.2.2.1) (tl ys) else (false,t2,tl ys):=fun f=>by rw [el,ec];rfl
 have eD:okDay n o2 c p (hd ys) t2=(wkF (calAt n o2).2.1 (calAt n o2).2.2 (hd ys - 2 + p.1) && decide (momF (calAt n o2).1 (hd ys - 2 + p.1) ln.2.2.2.1 ≥ rdyF n o2 t2)):=by rw [el];rfl
 refine ⟨fun hne=>?_,fun heq=>?_⟩
 ·have hrow:=q2 _ (getD_mem (l:=p.2.2.1) (i:=o2.toNat) (d:=[]) (by have:=ho2.1;have:=ho2.2;omega))
  refine ⟨ho2.1,by rw [q1];exact ho2.2,hd2.1,by rw [hrow];exact hd2.2,fun h=>?_,fun ⟨hk,hc⟩=>?_⟩
  ·rw [eOk]
   by_cases hk:k < 19
   ·rw [hf hk,eS,if_neg hne,if_pos (h hk)]
   ·rw [show (19 - k).toNat=0 by omega]
    exact decide_eq_false hne
  ·have hl:c < n.2.2.2.2.1.length:=by
    unfold cellGood at g1
    rw [decide_eq_false hc,Bool.false_or,Bool.and_eq_true,decide_eq_true_eq] at g1
    exact g1.1
   obtain ⟨_,lo,⟨m0,m1⟩,r0,r1⟩:=us_lin hu (by omega:0≤c) hl
   rw [← el] at lo m0 m1 r0 r1
   obtain ⟨⟨z1,z2⟩,hw,hs⟩:=cal_parts (us_cal hu ho2)
   refine ⟨⟨hk,hc⟩,by omega,hl,⟨hu,ho2⟩,fun h1=>?_,fun h1=>?_⟩
   ·have hm1:0≤hd ys∧hd ys≤65519:=inSeal_iff.1 hys.1 _ (getD_mem (of_decide_eq_true h1))
    have hm2:-1000000≤momF (calAt n o2).1 (hd ys - 2 + p.1) ln.2.2.2.1∧momF (calAt n o2).1 (hd ys - 2 + p.1) ln.2.2.2.1≤100000000:=by unfold momF;omega
    refine ⟨h1,in_big (by omega),in_big (by omega),⟨⟨by omega,by omega⟩,⟨by omega,by omega⟩,⟨by omega,by omega⟩⟩,⟨hw,hs,⟨by omega,by omega⟩⟩,fun _=>⟨hu,ho2,ht2⟩,fun h=>?_,fun h=>?_⟩
    ·rw [eOk,hf hk,eS,if_neg hne,if_neg hc,if_neg (by rw [h1];exact Bool.noConfusion),if_neg]
     rw [eD]
     simpa using h
    ·have hy:okDay n o2 c p (hd ys) t2=true:=by rw [eD];simpa using h
     refine ⟨h,in_big (by omega),in_big (by omega),⟨(k + 1,ln.2.2.1,momF (calAt n o2).1 (hd ys - 2 + p.1) ln.2.2.2.1 + ln.2.2.2.2.1,tl ys),⟨⟨by show 0≤k + 1;omega,by show k + 1≤19;omega,⟨⟨hu,hpl⟩,lo,hd2⟩,⟨by show -3000000000≤_ + _;omega,by show _ + _≤3000000000;omega⟩,numsOk_drop hys 1⟩,?_⟩,⟨rfl,rfl,rfl,rfl⟩,by show (19 - (k + 1)).toNat < _;omega⟩⟩
     rw [← he,hf hk,eS,if_neg hne,if_neg hc,if_neg (by rw [h1];exact Bool.noConfusion),if_pos hy]
   ·rw [eOk,hf hk,eS,if_neg hne,if_neg hc,if_pos h1]
 ·have e:folF n p d (19 - k).toNat o2 t2 ys=(true,t2,ys):=by
   by_cases hk:k < 19
   ·rw [hf hk,eS,if_pos heq]
   ·rw [show (19 - k).toNat=0 by omega]
    show (decide (o2=d),t2,ys)=_
    rw [decide_eq_true heq]
  rw [eOk,eT,eR,e]
  exact ⟨rfl,rfl,rfl⟩
theorem t_deliv (c:Cal) (m t:Int):SoundC Tryz.prog G0 71 [.ip C c,.dat I m,.dat I t] [] ⟨delP c t∧delOk c m t=true,.dat I (delD c m t),[]⟩ ∧
  SoundP Tryz.prog G0 71 [.ip C c,.dat I m,.dat I t] [] ⟨delP c t,delOk c m t,errV 39 190⟩:=by
 obtain ⟨z,w,h⟩:=c
 refine sound_of_evC (c:=mkr K11 KI1 noP (fun _=>false)) KS11 KI1s hm noP_ok (vc_deliv z m t w h ⟨rfl,fun hp=>?_⟩)
 simp only [eq_self,true_and,and_true,forall_const,exists_eq_right,D.lt,D.sub,D.add,D.len,decide_eq_true_eq,decide_eq_false_iff_not]
 obtain ⟨hc,t1,t2⟩:=id hp
 obtain ⟨⟨z1,z2⟩,hw,hs⟩:=cal_parts hc
 simp only at z1 z2 hw hs
 have hday:-1000000000≤dayF z t∧dayF z t≤1000000000:=by unfold dayF;omega
 have key:∀ b:Int,begF (z,w,h) m t=b→(∀ (x:Nat) (y:Int),isZ x→isAt (wdays w h b (b + 60 - 1)) x y→delOk (z,w,h) m t=true∧y=delD (z,w,h) m t)∧∀ x:Nat,isZ x→x=(wdays w h b (b + 60 - 1)).length→delOk (z,w,h) m t=false:=fun b hb=>by
  have e:delO (z,w,h) m t=(wdays w h b (b + 60 - 1)).head?:=by
   unfold delO
   rw [hb,show b + 60 - 1=b + 59 by omega]
  refine ⟨fun x y hx hy=>?_,fun x hx hy=>?_⟩
  ·have hx:x=0:=hx
   have hy:(wdays w h b (b + 60 - 1))[x]?=some y:=hy
   rw [hx,← List.head?_eq_getElem?,← e] at hy
   unfold delOk delD
   rw [hy]
   exact ⟨rfl,rfl⟩
  ·have hx:x=0:=hx
   have:wdays w h b (b + 60 - 1)=[]:=List.eq_nil_of_length_eq_zero (by omega)
   unfold delOk
   rw [e,this];rfl
 refine ⟨⟨⟨by omega,by omega⟩,t1,t2⟩,fun hlt=>?_,fun hge=>?_⟩
 ·obtain ⟨k1,k2⟩:=key (dayF z t + 1) (by unfold begF;exact if_pos hlt)
  exact ⟨in_big (by omega),in_big (by omega),in_big (by omega),⟨hw,hs,⟨by omega,by omega⟩,⟨by omega,by omega⟩⟩,rfl,k1,k2⟩
 ·obtain ⟨k1,k2⟩:=key (dayF z t) (by unfold begF;exact if_neg hge)
  exact ⟨in_big (by omega),in_big (by omega),⟨hw,hs,⟨by omega,by omega⟩,⟨by omega,by omega⟩⟩,rfl,k1,k2⟩
theorem KS13:KSound Tryz.prog G0 K13:=kOr_ok (memK_ok fun ((n,p),o,d,t,_) xs=>(t_follow n p o d t xs).1) <| kOr_ok (dataK_ok fun (c,m,t,_)=>(t_deliv c m t).1) KS11
theorem KP13_ok:KPSound Tryz.prog G0 KP13:=pOr_ok (memP_ok fun ((n,p),o,d,t,_) xs=>(t_follow n p o d t xs).2) <| pOr_ok (dataP_ok fun (c,m,t,_)=>(t_deliv c m t).2) KPr_ok
theorem fol_step {n:Net} {p:Plan} {o d t:Int} {xs:List Int} (hq:folP n p o d t xs) (hc:cellAt p o d≠-1) (h1:hasOne xs=true):(0≤cellAt p o d∧cellAt p o d < n.2.2.2.2.1.length)∧folP n p (linAt n (cellAt p o d)).2.2.1 d (momF (calAt n o).1 (hd xs - 2 + p.1) (linAt n (cellAt p o d)).2.2.2.1 + (linAt n (cellAt p o d)).2.2.2.2.1) (tl xs):=by
 obtain ⟨⟨⟨hu,hpl⟩,ho2,hd2⟩,ht2,hys⟩:=hq
 obtain ⟨⟨p0,p1,p2⟩,⟨q1,q2⟩,q3,_⟩:=id hpl
 obtain ⟨g1,g2⟩:=q3 o d ho2 hd2
 have hl:cellAt p o d < n.2.2.2.2.1.length:=by
  unfold cellGood at g1
  rw [decide_eq_false hc,Bool.false_or,Bool.and_eq_true,decide_eq_true_eq] at g1
  exact g1.1
 have h0:0≤cellAt p o d:=by omega
 obtain ⟨_,lo,⟨m0,m1⟩,r0,r1⟩:=us_lin hu h0 hl
 obtain ⟨⟨z1,z2⟩,hw,hs⟩:=cal_parts (us_cal hu ho2)
 have hm1:0≤hd xs∧hd xs≤65519:=inSeal_iff.1 hys.1 _ (getD_mem (of_decide_eq_true h1))
 refine ⟨⟨h0,hl⟩,⟨⟨hu,hpl⟩,lo,hd2⟩,⟨?_,?_⟩,numsOk_drop hys 1⟩ <;> unfold momF <;> omega
theorem folF_ok {n:Net} {p:Plan} {d:Int}:∀ (f:Nat) {o t:Int} {xs:List Int},folP n p o d t xs→tOk (folF n p d f o t xs).2.1∧numsOk (folF n p d f o t xs).2.2
 | 0,o,t,xs,h=>⟨h.2.1,h.2.2⟩
 | f + 1,o,t,xs,h=>by
  unfold folF
  by_cases h1:o=d
  ·rw [if_pos h1];exact ⟨h.2.1,h.2.2⟩
  rw [if_neg h1]
  by_cases h2:cellAt p o d=-1
  ·rw [if_pos h2];exact ⟨h.2.1,h.2.2⟩
  rw [if_neg h2]
  by_cases h3:hasOne xs=false
  ·rw [if_pos h3];exact ⟨h.2.1,h.2.2⟩
  rw [if_neg h3]
  by_cases h4:okDay n o (cellAt p o d) p (hd xs) t=true
  ·rw [if_pos h4]
   exact folF_ok f (fol_step h h2 (by simpa using h3)).2
  ·rw [if_neg h4];exact ⟨h.2.1,numsOk_drop h.2.2 1⟩
theorem del_mem {c:Cal} {m t:Int} (h:delOk c m t=true):begF c m t≤delD c m t∧delD c m t≤begF c m t + 59:=by
 unfold delOk at h
 unfold delD
 cases e:delO c m t with
 | none=>rw [e] at h;cases h
 | some y =>
  unfold delO at e
  have:=wd_mem (List.mem_of_mem_head? e)
  exact ⟨this.1,this.2.1⟩
theorem wd_len (w:List Bool) (h:List Int) (a b:Int):(wdays w h a b).length≤(b + 1 - a).toNat:=by
 unfold wdays
 refine Nat.le_trans (List.length_filter_le _ _) ?_
 rw [List.length_map,List.length_range];exact Nat.le_refl _
theorem t_prove (n:Net) (p:Plan) (k o d cut:Int) (xs:List Int):SoundC Tryz.prog G0 29 [.ips [.ip N n,.ip Pl p,.ptr 1 1 0 0],.dat I k,.dat I o,.dat I d,.dat I cut] [(1,.var [.dat R xs])] ⟨proP n p k o d cut xs∧proOk n p k o d cut xs=true,.tup [],[(1,.var [.dat R (folR n p o d cut xs)])]⟩ ∧
  SoundP Tryz.prog G0 29 [.ips [.ip N n,.ip Pl p,.ptr 1 1 0 0],.dat I k,.dat I o,.dat I d,.dat I cut] [(1,.var [.dat R xs])] ⟨proP n p k o d cut xs,proOk n p k o d cut xs,errV 39 190⟩:=by
 refine sound_of_evM (c:=c13) KS13 KI1s hm KP13_ok (vc_prove n p k o d cut xs ⟨rfl,fun hp=>?_⟩)
 simp only [eq_self,true_and,and_true,forall_const,D.nil,D.le,D.ilen,D.ile,D.ilt,D.sub,D.add,D.nat,D.ofN,D.len,D.nadd,D.get,decide_eq_true_eq,decide_eq_false_iff_not]
 obtain ⟨hf,hk⟩:=id hp
 obtain ⟨⟨⟨hu,hpl⟩,ho,hd⟩,ht,hys⟩:=id hf
 obtain ⟨⟨p0,p1,p2⟩,⟨q1,q2⟩,q3,q4,q5⟩:=id hpl
 obtain ⟨ft,_⟩:=folF_ok 19 hf
 have hcl:=us_cla hu hk
 have hc:=us_cal hu hd
 obtain ⟨⟨z1,z2⟩,hw,hs⟩:=cal_parts hc
 have hr:=rdy_le (t:=folT n p o d cut xs) hu hd
 have ft:-3000000000≤folT n p o d cut xs∧folT n p o d cut xs≤3000000000:=ft
 have ht2:-3000000000≤cut∧cut≤3000000000:=ht
 have eK:n.2.2.2.2.2.getD k.toNat (⟨#[]⟩,0,0)=claAt n k:=rfl
 have eL:delD (calAt n d) (claAt n k).2.2 (rdyF n d (folT n p o d cut xs))=lastD n p k o d cut xs:=rfl
 have eB:dayF (calAt n d).1 cut=begD n d cut:=rfl
 have eN:wdays (calAt n d).2.1 (calAt n d).2.2 (begD n d cut + 1) (lastD n p k o d cut xs)=needL n p k o d cut xs:=rfl
 have eY:((p.2.2.2.getD k.toNat []).getD o.toNat []).getD d.toNat 0=daysAt p k o d:=rfl
 have eP:proOk n p k o d cut xs=(folOk n p o d cut xs && (delOk (calAt n d) (claAt n k).2.2 (rdyF n d (folT n p o d cut xs)) && (decide (lastD n p k o d cut xs - begD n d cut≤2000) && decide (((needL n p k o d cut xs).length:Int)≤daysAt p k o d)))):=rfl
 simp only [eK,eL,eB,eN,eY]
 have hrp:rdyP n d (folT n p o d cut xs):=⟨hu,hd,ft⟩
 have hdp:delP (calAt n d) (rdyF n d (folT n p o d cut xs)):=⟨hc,⟨by omega,by omega⟩⟩
 have hB:-10000000≤begD n d cut∧begD n d cut≤10000000:=by unfold begD dayF;omega
 refine ⟨⟨hf,fun h=>by rw [eP,h];rfl⟩,fun h1=>⟨⟨hf,h1⟩,⟨hu,hd⟩,hk.1,hk.2,hrp,hdp,fun h2=>⟨hk.1,hk.2,hrp,⟨hdp,h2⟩,⟨⟨by omega,by omega⟩,⟨by omega,by omega⟩⟩,?_⟩,fun h=>by rw [eP,h1,h];rfl⟩⟩
 have hD:=del_mem h2
 rw [eL] at hD
 have hbg:dayF (calAt n d).1 (rdyF n d (folT n p o d cut xs))≤begF (calAt n d) (claAt n k).2.2 (rdyF n d (folT n p o d cut xs))∧begF (calAt n d) (claAt n k).2.2 (rdyF n d (folT n p o d cut xs))≤dayF (calAt n d).1 (rdyF n d (folT n p o d cut xs)) + 1:=by unfold begF;split <;> omega
 have hbd:-10000000≤dayF (calAt n d).1 (rdyF n d (folT n p o d cut xs))∧dayF (calAt n d).1 (rdyF n d (folT n p o d cut xs))≤10000000:=by unfold dayF;omega
 refine ⟨in_big (by omega),fun h=>by rw [eP,h1,h2,decide_eq_false h];rfl,fun h3=>⟨h3,in_big (by omega),⟨hw,hs,⟨by omega,by omega⟩,⟨by omega,by omega⟩⟩,⟨0,Nat.zero_le _,rfl,rfl⟩,fun x y hx hy=>?_,fun x hx hlen=>?_⟩⟩
 ·have hlt:x < (needL n p k o d cut xs).length:=(List.getElem?_eq_some_iff.1 hy).1
  have:=wd_len (calAt n d).2.1 (calAt n d).2.2 (begD n d cut + 1) (lastD n p k o d cut xs)
  rw [eN] at this
  exact ⟨in_big (by omega),x + 1,by show x + 1≤4000000000000;omega,rfl,by omega⟩
 ·have hk':=hk.1
  have hk2:=hk.2
  have ho1:=ho.1
  have ho2:=ho.2
  have hd1:=hd.1
  have hd2:=hd.2
  obtain ⟨w1,w2⟩:=q5 _ (getD_mem (l:=p.2.2.2) (i:=k.toNat) (d:=[]) (by omega))
  have w3:=w2 _ (getD_mem (l:=p.2.2.2.getD k.toNat []) (i:=o.toNat) (d:=[]) (by omega))
  refine ⟨hk',by omega,ho1,by omega,hd1,by omega,fun h=>⟨hk',by omega,ho1,by omega,hd1,by omega,h,?_⟩,fun h=>?_⟩
  ·rw [eP,h1,h2,decide_eq_true h3,decide_eq_true (by omega)];rfl
  ·rw [eP,h1,h2,decide_eq_true h3,decide_eq_false (by omega)];rfl
end Go.Eng.In
