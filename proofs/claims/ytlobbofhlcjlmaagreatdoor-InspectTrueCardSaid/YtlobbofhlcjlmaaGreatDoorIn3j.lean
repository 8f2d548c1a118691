/- PeIn3j -/
import Derived.Test.YtlobbofhlcjlmaaGreatDoorZ22
import Derived.Test.YtlobbofhlcjlmaaGreatDoorIn2j
set_option linter.unusedSimpArgs false
set_option linter.unusedVariables false
set_option maxRecDepth 100000
noncomputable section
namespace Go.Eng.In
open Go.Proofs
abbrev Of:Ty:=.pair S (.pair I (.pair I (.pair I (.pair I (.pair I (.sl S))))))
abbrev Ln:Ty:=.pair S (.pair I (.pair I (.pair I (.pair I I))))
abbrev Kl:Ty:=.pair S (.pair I I)
abbrev N:Ty:=.pair (.sl C) (.pair (.sl S) (.pair (.sl S) (.pair (.sl Of) (.pair (.sl Ln) (.sl Kl)))))
abbrev Cal:=Int×List Bool×List Int
abbrev Off:=ByteArray×Int×Int×Int×Int×Int×List ByteArray
abbrev Line:=ByteArray×Int×Int×Int×Int×Int
abbrev Cla:=ByteArray×Int×Int
abbrev Net:=List Cal×List ByteArray×List ByteArray×List Off×List Line×List Cla
def calGood (c:Cal):Bool:=validF c.1 c.2.1 c.2.2
def offGood (n:Net) (o:Off):Bool:=(btw o.2.2.1 0 ((n.1.length:Int) - 1) && btw o.2.2.2.2.1 1 1000) && btw o.2.2.2.2.2.1 1 1000
def officeF (n:Net) (x:Int):Bool:=btw x 0 ((n.2.2.2.1.length:Int) - 1)
def linGood (n:Net) (l:Line):Bool:=((officeF n l.2.1 && officeF n l.2.2.1) && btw l.2.2.2.1 0 1439) && btw l.2.2.2.2.1 1 100000
def claGood (k:Cla):Bool:=btw k.2.1 0 1439 && btw k.2.2 0 1439
def usF (n:Net):Bool:=((n.1.all calGood && n.2.2.2.1.all (offGood n)) && n.2.2.2.2.1.all (linGood n)) && n.2.2.2.2.2.all claGood
def netP (n:Net):Prop:=((n.1.length≤2000000000000000∧n.2.2.2.1.length≤2000000000000000)∧n.2.2.2.2.1.length≤2000000000000000)∧n.2.2.2.2.2.length≤2000000000000000
def calTo (n:Net) (k:Int):Prop:=0≤k∧k≤n.1.length∧(n.1.take k.toNat).all calGood=true
def offTo (n:Net) (k:Int):Prop:=0≤k∧k≤n.2.2.2.1.length∧(n.2.2.2.1.take k.toNat).all (offGood n)=true
def linTo (n:Net) (k:Int):Prop:=0≤k∧k≤n.2.2.2.2.1.length∧(n.2.2.2.2.1.take k.toNat).all (linGood n)=true
def claTo (n:Net) (k:Int):Prop:=0≤k∧k≤n.2.2.2.2.2.length∧(n.2.2.2.2.2.take k.toNat).all claGood=true
def linAt (n:Net) (l:Int):Line:=n.2.2.2.2.1.getD l.toNat (⟨#[]⟩,0,0,0,0,0)
def cellGood (n:Net) (o l:Int):Bool:=decide (l=-1) || (decide (l < n.2.2.2.2.1.length) && decide ((linAt n l).2.1=o))
def rowGood (n:Net) (o:Int) (r:List Int):Bool:=r.all (cellGood n o)
def fitF (n:Net) (p:Plan):Bool:=(decide (p.2.2.1.length=n.2.2.2.1.length) && decide (p.2.2.2.length=n.2.2.2.2.2.length)) && (List.range p.2.2.1.length).all fun i=>rowGood n i (p.2.2.1.getD i [])
def nxP (p:Plan):Prop:=p.2.2.1.length≤2000000000000000∧∀ r ∈ p.2.2.1,r.length≤2000000000000000∧∀ x ∈ r,-1≤x
def nxTo (n:Net) (p:Plan) (k:Int):Prop:=0≤k∧k≤p.2.2.1.length∧∀ i:Nat,(i:Int) < k→rowGood n i (p.2.2.1.getD i [])=true
def nxTo2 (n:Net) (o:Int) (r:List Int) (k:Int):Prop:=0≤k∧k≤r.length∧(r.take k.toNat).all (cellGood n o)=true
def openOk (c:List Int×Int):Bool:=sealedF c.1 c.2 && plOk c.1
def openE (c:List Int×Int):Int:=if sealedF c.1 c.2 then 190 else 180
def openP (c:List Int×Int):Prop:=limI c.1
def codeK (args:List AV) (m:Mem):Option CRes:=match args,m with
 | [.ifc t (.dat (.int .i64) e)],[]=>if t=39 then some ⟨True,.dat I e,[]⟩ else none
 | _,_=>none
def K9:Kt:=kOr 23 codeK K8
def c9:Cfg:=mkp K9 (fun t=>t == 12) KP8 (fun f=>f == 25 || f == 61)
theorem vc_open (s:Int) (l:List Int) (hvc :
 let c1:=(l,s);
 let c2:=openOk c1;
 let c3:=chainOf (Value.iface (39) (Value.int IntKind.i64 (openE c1)));
 let c4:=(planF l).fst;
 let c5:=(planF l).snd;
 let c6:=c5.fst;
 let c7:=c5.snd;
 let c8:=c7.fst;
 let c9:=c7.snd;true=true∧(openP c1→limI l∧(true=true→True∧(sealedF l s=false→c2=false∧true=true∧chainOf (Value.iface (39)
 (Value.int IntKind.i64 (180:Int)))=c3))∧((true=true→sealedF l s=true)→(True∧sealedF l s=true)∧(true=true→numsOk l∧(plOk l=false →
 c2=false∧true=true∧chainOf (Value.iface (39) (Value.int IntKind.i64 (190:Int)))=c3))∧((true=true→plOk l=true)→(numsOk l∧plOk l=true)
 ∧ 1=1∧1=1∧0=0∧1=1∧0=0∧1=1∧0=0∧c2=true∧1=1∧0=0∧c4=c4∧c6=c6∧c8=c8∧c9=c9∧1=1∧0=0∧0=0∧plRest l
 = plRest l∧True)))) :
  evM c9 noAnn 24 [.agg [.dat R l,.dat I s]] [] (.tup [.agg [.dat I (planF l).1,.dat I (planF l).2.1,.dat M (planF l).2.2.1,.dat (.sl M) (planF l).2.2.2],.ptr 1 1 0 0]) [(1,.var [.dat R (plRest l)])] ⟨openP (l,s),openOk (l,s),errV 39 (openE (l,s))⟩:=@of_eq _ _ (by kernel_rfl) hvc
theorem vc_us1 (x:Int) (hvc :
 let c1:=btw x (0:Int) (1439:Int);true=true∧(True→True∧c1=c1∧True)) :
  evF (mkc K9) noAnn 62 [.dat I x] [] ⟨True,.dat .bool (btw x 0 1439),[]⟩:=@of_eq _ _ (by kernel_rfl) hvc
theorem vc_us2 (x:Int) (n:Net) (hvc :
 let c1:=D.sub (D.ilen n.snd.snd.snd.fst) (1:Int);true=true∧(netP n→inR IntKind.i64 c1∧True∧btw x (0:Int) c1=officeF n x∧True)) :
  evF (mkc K9) noAnn 64 [.dat I x,.ipv (.ip N n)] [] ⟨netP n,.dat .bool (officeF n x),[]⟩:=@of_eq _ _ (by kernel_rfl) hvc
def K10:Kt:=kOr 62 (dataK [.val I] (fun _=>True) fun (x,_)=>.dat .bool (btw x 0 1439)) <| kOr 64 (dataK [.val I,.bp N] (fun (_,n,_)=>netP n) fun (x,n,_)=>.dat .bool (officeF n x)) K9
def usA (n:Net):Ann:=⟨fun id s=>match id with
 | 4=>some { α:=Int,inv:=fun k=>calTo n k,st:=fun k=>put { flat s with mem:=[] } [(19,.dat I k),(6,.top)],μ:=fun k=>D.nat (D.sub (D.ilen n.1) k) }
 | 10=>some { α:=Int,inv:=fun k=>offTo n k,st:=fun k=>put { flat s with mem:=[] } [(32,.dat I k),(8,.top)],μ:=fun k=>D.nat (D.sub (D.ilen n.2.2.2.1) k) }
 | 16=>some { α:=Int,inv:=fun k=>linTo n k,st:=fun k=>put { flat s with mem:=[] } [(64,.dat I k),(10,.top)],μ:=fun k=>D.nat (D.sub (D.ilen n.2.2.2.2.1) k) }
 | 22=>some { α:=Int,inv:=fun k=>claTo n k,st:=fun k=>put { flat s with mem:=[] } [(99,.dat I k),(12,.top)],μ:=fun k=>D.nat (D.sub (D.ilen n.2.2.2.2.2) k) }
 | _=>none,fun _ _=>none,fun _ _=>none⟩
theorem vc_us (n:Net) (hvc :
 let c1:=n.fst;
 let c2:=D.ilen c1;
 let c3:=n.snd.snd.snd;
 let c4:=c3.fst;
 let c5:=D.ilen c4;
 let c6:=D.sub c2 (1:Int);
 let c7:=(ByteArray.mk (D.nil UInt8).toArray,(0:Int),(0:Int),(0:Int),(0:Int),(0:Int),D.nil ByteArray);
 let c8:=c3.snd;
 let c9:=c8.fst;
 let c10:=D.ilen c9;
 let c11:=((0:Int),(0:Int));
 let c12:=(ByteArray.mk (D.nil UInt8).toArray,(0:Int),(0:Int),(0:Int),c11);
 let c13:=c8.snd;
 let c14:=D.ilen c13;
 let c15:=(ByteArray.mk (D.nil UInt8).toArray,c11);true=true∧(netP n→(∃ x,calTo n x∧n=n∧n=n∧n=n∧n=n∧n=n∧n=n∧n=n∧c1=c1
 ∧ c2=c2∧(0:Int)=x∧True)∧∀ (x:Int),
 let c16:=D.get c1 (D.nat x) ((0:Int),D.nil Bool,D.nil Int);
 let c17:=c16.snd;
 let c18:=D.not (validF c16.fst c17.fst c17.snd);
 let c19:=D.add x (1:Int);calTo n x→(D.lt x c2=true→D.ile (0:Int) x∧D.ilt x c2∧1=1∧0=0∧1=1∧0=0∧True∧(c18=true→false=usF
 n∧True)∧(c18=false→inR IntKind.i64 c19∧∃ y,calTo n y∧(n=n∧n=n∧n=n∧n=n∧n=n∧n=n∧n=n∧c1=c1∧c2=c2∧c19=y∧True)
 ∧ D.nlt (D.nat (D.sub c2 y)) (D.nat (D.sub c2 x))))∧(D.lt x c2=false→(∃ x_3,offTo n x_3∧n=n∧n=n∧n=n∧n=n∧n=n∧n=n∧n=n∧c1 =
 c1∧c2=c2∧x=x∧D.lt x c2=D.lt x c2∧n=n∧n=n∧c3=c3∧c4=c4∧c5=c5∧(0:Int)=x_3∧True)∧∀ (x_3:Int),
 let c20:=(D.get c4 (D.nat x_3) c7).snd.snd;
 let c21:=D.not (btw c20.fst (0:Int) c6);
 let c22:=D.not c21;
 let c23:=c20.snd.snd;
 let c24:=D.cnd c21 true (D.not (btw c23.fst (1:Int) (1000:Int)));
 let c25:=D.not c24;
 let c26:=D.cnd c24 true (D.not (btw c23.snd.fst (1:Int) (1000:Int)));
 let c27:=D.add x_3 (1:Int);offTo n x_3→(D.lt x_3 c5=true→D.ile (0:Int) x_3∧D.ilt x_3 c5∧1=1∧0=0∧1=1∧1=1∧0=0∧inR IntKind.i64
 c6∧True∧(c22=true→1=1)∧(c22=true→c22=true→c22=true)∧(c22=true→1=1)∧(c22=true→0=0)∧(c22=true→c22=true→c22 =
 true)∧(c22=true→True)∧(c22=true→c22=true→c22=true)∧(D.and true c22=true→c22=true)∧(c25=true→1=1)∧(c25=true→c25=true →
 c25=true)∧(c25=true→1=1)∧(c25=true→0=0)∧(c25=true→c25=true→c25=true)∧(c25=true→True)∧(c25=true→c25=true→c25 =
 true)∧(D.and true c25=true→c25=true)∧(c26=true→false=usF n∧True)∧(c26=false→inR IntKind.i64 c27∧∃ y,offTo n y∧(n=n∧n=n∧n =
 n∧n=n∧n=n∧n=n∧n=n∧c1=c1∧c2=c2∧x=x∧D.lt x c2=D.lt x c2∧n=n∧n=n∧c3=c3∧c4=c4∧c5=c5∧c27=y∧True)∧D.nlt
 (D.nat (D.sub c5 y)) (D.nat (D.sub c5 x_3))))∧(D.lt x_3 c5=false→(∃ x_6,linTo n x_6∧n=n∧n=n∧n=n∧n=n∧n=n∧n=n∧n=n∧c1=c1 ∧
 c2=c2∧x=x∧D.lt x c2=D.lt x c2∧n=n∧n=n∧c3=c3∧c4=c4∧c5=c5∧x_3=x_3∧D.lt x_3 c5=D.lt x_3 c5∧n=n∧n=n∧c8=c8∧c9 =
 c9∧c10=c10∧(0:Int)=x_6∧True)∧∀ (x_6:Int),
 let c28:=(D.get c9 (D.nat x_6) c12).snd;
 let c29:=D.not (officeF n c28.fst);
 let c30:=D.not c29;
 let c31:=c28.snd;
 let c32:=D.cnd c29 true (D.not (officeF n c31.fst));
 let c33:=D.not c32;
 let c34:=c31.snd;
 let c35:=D.cnd c32 true (D.not (btw c34.fst (0:Int) (1439:Int)));
 let c36:=D.not c35;
 let c37:=D.cnd c35 true (D.not (btw c34.snd.fst (1:Int) (100000:Int)));
 let c38:=D.add x_6 (1:Int);linTo n x_6→(D.lt x_6 c10=true→D.ile (0:Int) x_6∧D.ilt x_6 c10∧1=1∧0=0∧1=1∧1=1∧0=0∧netP n∧(c30
 = true→1=1)∧(c30=true→c30=true→c30=true)∧(c30=true→1=1)∧(c30=true→0=0)∧(c30=true→c30=true→c30=true)∧(c30=true →
 c30=true→c30=true)∧(c30=true→netP n)∧(c30=true→c30=true→c30=true)∧(D.and true c30=true→c30=true)∧(c33=true→1=1)∧(c33
 = true→c33=true→c33=true)∧(c33=true→1=1)∧(c33=true→0=0)∧(c33=true→c33=true→c33=true)∧(c33=true→c33=true→c33 =
 true)∧(c33=true→True)∧(c33=true→c33=true→c33=true)∧(D.and true c33=true→c33=true)∧(c36=true→1=1)∧(c36=true→c36=true →
 c36=true)∧(c36=true→1=1)∧(c36=true→0=0)∧(c36=true→c36=true→c36=true)∧(c36=true→True)∧(c36=true→c36=true→c36 =
 true)∧(D.and true c36=true→c36=true)∧(c37=true→false=usF n∧True)∧(c37=false→inR IntKind.i64 c38∧∃ y,linTo n y∧(n=n∧n=n∧n =
 n∧n=n∧n=n∧n=n∧n=n∧c1=c1∧c2=c2∧x=x∧D.lt x c2=D.lt x c2∧n=n∧n=n∧c3=c3∧c4=c4∧c5=c5∧x_3=x_3∧D.lt x_3 c5 =
 D.lt x_3 c5∧n=n∧n=n∧c8=c8∧c9=c9∧c10=c10∧c38=y∧True)∧D.nlt (D.nat (D.sub c10 y)) (D.nat (D.sub c10 x_6))))∧(D.lt x_6 c10=false →
 (∃ x_9,claTo n x_9∧n=n∧n=n∧n=n∧n=n∧n=n∧n=n∧n=n∧c1=c1∧c2=c2∧x=x∧D.lt x c2=D.lt x c2∧n=n∧n=n∧c3=c3∧c4
 = c4∧c5=c5∧x_3=x_3∧D.lt x_3 c5=D.lt x_3 c5∧n=n∧n=n∧c8=c8∧c9=c9∧c10=c10∧x_6=x_6∧D.lt x_6 c10=D.lt x_6 c10∧n=n∧n =
 n∧c13=c13∧c13=c13∧c14=c14∧(0:Int)=x_9∧True)∧∀ (x_9:Int),
 let c39:=(D.get c13 (D.nat x_9) c15).snd;
 let c40:=D.not (btw c39.fst (0:Int) (1439:Int));
 let c41:=D.not c40;
 let c42:=D.cnd c40 true (D.not (btw c39.snd (0:Int) (1439:Int)));
 let c43:=D.add x_9 (1:Int);claTo n x_9→(D.lt x_9 c14=true→D.ile (0:Int) x_9∧D.ilt x_9 c14∧1=1∧0=0∧1=1∧1=1∧0=0∧True∧(c41 =
 true→1=1)∧(c41=true→c41=true→c41=true)∧(c41=true→1=1)∧(c41=true→0=0)∧(c41=true→c41=true→c41=true)∧(c41=true →
 c41=true→c41=true)∧(c41=true→True)∧(c41=true→c41=true→c41=true)∧(D.and true c41=true→c41=true)∧(c42=true→false=usF n ∧
 True)∧(c42=false→inR IntKind.i64 c43∧∃ y,claTo n y∧(n=n∧n=n∧n=n∧n=n∧n=n∧n=n∧n=n∧c1=c1∧c2=c2∧x=x∧D.lt x c2 =
 D.lt x c2∧n=n∧n=n∧c3=c3∧c4=c4∧c5=c5∧x_3=x_3∧D.lt x_3 c5=D.lt x_3 c5∧n=n∧n=n∧c8=c8∧c9=c9∧c10=c10∧x_6=x_6 ∧
 D.lt x_6 c10=D.lt x_6 c10∧n=n∧n=n∧c13=c13∧c13=c13∧c14=c14∧c43=y∧True)∧D.nlt (D.nat (D.sub c14 y)) (D.nat (D.sub c14 x_9)))) ∧
 (D.lt x_9 c14=false→true=usF n∧True)))))) :
  evF (mkc K10) (usA n) 26 [.ip N n] [] ⟨netP n,.dat .bool (usF n),[]⟩:=@of_eq _ _ (by kernel_rfl) hvc
def fitA (n:Net) (p:Plan):Ann:=⟨fun id s=>match id with
 | 4=>some { α:=Int,inv:=fun k=>nxTo n p k,st:=fun k=>put (flat s) [(38,.dat I k)],μ:=fun k=>D.nat (D.sub (D.ilen p.2.2.1) k) }
 | 7=>match s.sig.T 5,s.sig.T 6 with
  | .dat (.int .i64) o,.dat (.sl (.int .i64)) r=>some { α:=Int,inv:=fun k=>nxTo2 n o r k,st:=fun k=>put (flat s) [(45,.dat I k)],μ:=fun k=>D.nat (D.sub (D.ilen r) k) }
  | _,_=>none
 | _=>none,fun _ _=>none,fun _ _=>none⟩
theorem vc_fit (n:Net) (p:Plan) (hvc :
 let c1:=p.snd.snd;
 let c2:=c1.fst;
 let c3:=D.ilen c2;
 let c4:=n.snd.snd.snd;
 let c5:=c4.fst;
 let c6:=D.ilen c5;
 let c7:=D.ne c3 c6;
 let c8:=D.not c7;
 let c9:=c4.snd;
 let c10:=D.cnd c7 true (D.ne (D.ilen c1.snd) (D.ilen c9.snd));
 let c11:=c9.fst;
 let c12:=D.ilen c11;true=true∧(netP n∧nxP p→(c8=true→c8=true→c8=true)∧(c8=true→c8=true→c8=true)∧(c8=true→c8=true→c8 =
 true)∧(c8=true→c8=true→c8=true)∧(c8=true→c8=true→c8=true)∧(c8=true→c8=true→c8=true)∧(c8=true→c8=true→c8=true) ∧
 (c8=true→c8=true→c8=true)∧(c8=true→c8=true→c8=true)∧(c8=true→c8=true→c8=true)∧(D.and true c8=true→c8=true)∧(c10 =
 true→false=fitF n p∧True)∧(c10=false→(∃ x,nxTo n p x∧n=n∧p=p∧p=p∧p=p∧c1=c1∧c2=c2∧c3=c3∧n=n∧n=n∧c4=c4∧c5
 = c5∧c6=c6∧c7=c7∧c7=c7∧c10=c10∧p=p∧p=p∧c1=c1∧c2=c2∧c3=c3∧(0:Int)=x∧True)∧∀ (x:Int),
 let c13:=D.get c2 (D.nat x) (D.nil Int);
 let c14:=D.ilen c13;
 let c15:=D.add x (1:Int);nxTo n p x→(D.lt x c3=true→D.ile (0:Int) x∧D.ilt x c3∧(∃ x_3,nxTo2 n x c13 x_3∧n=n∧p=p∧x=x∧c13=c13 ∧
 p=p∧p=p∧c1=c1∧c2=c2∧c3=c3∧n=n∧n=n∧c4=c4∧c5=c5∧c6=c6∧c7=c7∧c7=c7∧c10=c10∧p=p∧p=p∧c1=c1∧c2=c2 ∧
 c3=c3∧x=x∧D.lt x c3=D.lt x c3∧x=x∧c13=c13∧c13=c13∧c13=c13∧c14=c14∧(0:Int)=x_3∧True)∧∀ (x_3:Int),
 let c16:=D.get c13 (D.nat x_3) (0:Int);
 let c17:=D.ne c16 (-1:Int);
 let c18:=D.ge c16 c12;
 let c19:=D.cnd c17 (D.cnd c18 true (D.ne (D.get c11 (D.nat c16) (ByteArray.mk (D.nil UInt8).toArray,(0:Int),(0:Int),(0:Int),(0:Int),(0 :
 Int))).snd.fst x)) false;
 let c20:=D.add x_3 (1:Int);nxTo2 n x c13 x_3→(D.lt x_3 c14=true→D.ile (0:Int) x_3∧D.ilt x_3 c14∧(c17=true→c17=true→c17=true)∧(c17 =
 true→c17=true→c17=true)∧(c17=true→c17=true→c17=true)∧(c17=true→c17=true→c17=true)∧(c17=true→c17=true→c17=true) ∧
 (c17=true→c17=true→c17=true)∧(c17=true→c17=true→c17=true)∧(D.and c17 (D.not c18)=true→D.and c17 (D.not c18)=true→D.and c17
 (D.not c18)=true)∧(D.and c17 (D.not c18)=true→D.and c17 (D.not c18)=true→D.and c17 (D.not c18)=true)∧(D.and c17 (D.not c18)=true→D.and c17
 (D.not c18)=true→D.and c17 (D.not c18)=true)∧(D.and c17 (D.not c18)=true→D.and c17 (D.not c18)=true→D.and c17 (D.not c18)=true)∧(D.and c17
 (D.not c18)=true→D.and c17 (D.not c18)=true→D.and c17 (D.not c18)=true)∧(D.and c17 (D.not c18)=true→D.ile (0:Int) c16)∧(D.and c17 (D.not
 c18)=true→D.ilt c16 c12)∧(D.and c17 (D.not c18)=true→D.and c17 (D.not c18)=true→D.and c17 (D.not c18)=true)∧(D.and c17 (D.not c18)=true →
 D.and c17 (D.not c18)=true→D.and c17 (D.not c18)=true)∧(D.and c17 (D.not c18)=true→D.and c17 (D.not c18)=true→D.and c17 (D.not c18)=true) ∧
 (D.and c17 (D.not c18)=true→D.and c17 (D.not c18)=true→D.and c17 (D.not c18)=true)∧(c17=true→c17=true→c17=true)∧(c17=true→D.and c17
 (D.not c18)=true→D.and c17 (D.not c18)=true)∧(D.and true c17=true→c17=true)∧(c19=true→false=fitF n p∧True)∧(c19=false→inR
 IntKind.i64 c20∧∃ y,nxTo2 n x c13 y∧(n=n∧p=p∧x=x∧c13=c13∧p=p∧p=p∧c1=c1∧c2=c2∧c3=c3∧n=n∧n=n∧c4=c4∧c5=c5 ∧
 c6=c6∧c7=c7∧c7=c7∧c10=c10∧p=p∧p=p∧c1=c1∧c2=c2∧c3=c3∧x=x∧D.lt x c3=D.lt x c3∧x=x∧c13=c13∧c13=c13∧c13 =
 c13∧c14=c14∧c20=y∧True)∧D.nlt (D.nat (D.sub c14 y)) (D.nat (D.sub c14 x_3))))∧(D.lt x_3 c14=false→inR IntKind.i64 c15∧∃ y,nxTo n p y∧(n
 = n∧p=p∧p=p∧p=p∧c1=c1∧c2=c2∧c3=c3∧n=n∧n=n∧c4=c4∧c5=c5∧c6=c6∧c7=c7∧c7=c7∧c10=c10∧p=p∧p=p∧c1 =
 c1∧c2=c2∧c3=c3∧c15=y∧True)∧D.nlt (D.nat (D.sub c3 y)) (D.nat (D.sub c3 x))))∧(D.lt x c3=false→true=fitF n p∧True)))) :
  evF (mkc K10) (fitA n p) 27 [.ip N n,.ip Pl p] [] ⟨netP n∧nxP p,.dat .bool (fitF n p),[]⟩:=@of_eq _ _ (by kernel_rfl) hvc
theorem codeK_ok:∀ args m c,codeK args m=some c→SoundC Tryz.prog G0 23 args m c:=by
 intro args m c h
 unfold codeK at h
 split at h
 ·split at h
  ·rename_i e;subst e;cases h;exact t_code _
  ·cases h
 ·cases h
theorem KS9:KSound Tryz.prog G0 K9:=kOr_ok codeK_ok KS8
theorem t_open (s:Int) (l:List Int):SoundC Tryz.prog G0 24 [.agg [.dat R l,.dat I s]] [] ⟨openP (l,s)∧openOk (l,s)=true,.tup [.agg [.dat I (planF l).1,.dat I (planF l).2.1,.dat M (planF l).2.2.1,.dat (.sl M) (planF l).2.2.2],.ptr 1 1 0 0],[(1,.var [.dat R (plRest l)])]⟩ ∧
  SoundP Tryz.prog G0 24 [.agg [.dat R l,.dat I s]] [] ⟨openP (l,s),openOk (l,s),errV 39 (openE (l,s))⟩:=by
 refine sound_of_evM (c:=c9) KS9 KI0s hm KP8_ok (vc_open s l ⟨rfl,fun hp=>?_⟩)
 simp only [eq_self,true_and,and_true,forall_const]
 refine ⟨hp,fun h=>⟨?_,?_⟩,fun h=>⟨h,⟨?_,fun h2=>⟨?_,?_⟩⟩,fun h2=>⟨⟨?_,h2⟩,?_⟩⟩⟩
 ·unfold openOk;rw [h];rfl
 ·unfold openE;rw [h];rfl
 ·exact ⟨by unfold sealedF at h;rw [Bool.and_eq_true] at h;exact h.1,hp⟩
 ·unfold openOk;rw [h2];simp
 ·unfold openE;rw [h];rfl
 ·exact ⟨by unfold sealedF at h;rw [Bool.and_eq_true] at h;exact h.1,hp⟩
 ·unfold openOk;rw [h,h2];rfl
theorem t_us1 (x:Int):SoundC Tryz.prog G0 62 [.dat I x] [] ⟨True,.dat .bool (btw x 0 1439),[]⟩ :=
 sound_of_ev (c:=mkc K9) KS9 KI0s hm (vc_us1 x ⟨rfl,fun _=>⟨trivial,rfl,trivial⟩⟩)
theorem t_us2 (x:Int) (n:Net):SoundC Tryz.prog G0 64 [.dat I x,.ipv (.ip N n)] [] ⟨netP n,.dat .bool (officeF n x),[]⟩:=by
 refine sound_of_ev (c:=mkc K9) KS9 KI0s hm (vc_us2 x n ⟨rfl,fun hp=>⟨in_big ?_,trivial,rfl,trivial⟩⟩)
 have:=hp.1.1.2
 simp only [D.sub,D.ilen];omega
theorem KS10:KSound Tryz.prog G0 K10:=kOr_ok (dataK_ok fun (x,_)=>t_us1 x) <| kOr_ok (dataK_ok fun (x,n,_)=>t_us2 x n) KS9
theorem all_next {α:Type} {p:α→Bool} {l:List α} {k:Int} (d:α) (h0:0≤k) (hk:k < l.length) (ha:(l.take k.toNat).all p=true) (hp:p (l.getD k.toNat d)=true):(l.take (k + 1).toNat).all p=true:=by
 rw [show (k + 1).toNat=k.toNat + 1 by omega,List.take_add_one,List.all_append,ha]
 rw [List.getD_eq_getElem?_getD,List.getElem?_eq_getElem (by omega:k.toNat < l.length)] at hp
 rw [List.getElem?_eq_getElem (by omega:k.toNat < l.length)]
 simpa using hp
theorem all_no {α:Type} {p:α→Bool} {l:List α} {k:Int} (d:α) (h0:0≤k) (hk:k < l.length) (hp:p (l.getD k.toNat d)=false):l.all p=false:=by
 cases e:l.all p with
 | false=>rfl
 | true=>rw [List.all_eq_true.1 e _ (getD_mem (d:=d) (by omega))] at hp;cases hp
theorem all_end {α:Type} {p:α→Bool} {l:List α} {k:Int} (ha:(l.take k.toNat).all p=true) (hk:¬ k < l.length):l.all p=true:=by
 rwa [List.take_of_length_le (by omega)] at ha
theorem t_us (n:Net):SoundC Tryz.prog G0 26 [.ip N n] [] ⟨netP n,.dat .bool (usF n),[]⟩:=by
 refine sound_of_ev (c:=mkc K10) KS10 KI0s hm (vc_us n ⟨rfl,fun hp=>?_⟩)
 obtain ⟨⟨⟨l1,l2⟩,l3⟩,l4⟩:=id hp
 obtain ⟨cs,ns,os,fs,ls,ks⟩:=n
 simp only at l1 l2 l3 l4
 simp only [cnd_or,D.and,D.not,Bool.true_and,eq_self,true_and,and_true,imp_self,implies_true,Bool.not_eq_true',Bool.or_eq_true,Bool.or_eq_false_iff,Bool.not_eq_false',Bool.not_not,exists_eq_right',D.nil,D.lt,D.ilen,D.ile,D.ilt,D.nlt,D.sub,D.add,D.nat,D.get,decide_eq_true_eq,decide_eq_false_iff_not]
 refine ⟨⟨Int.le_refl _,Int.natCast_nonneg _,rfl⟩,fun x hx=>?_⟩
 have hx0:0≤x:=hx.1
 have hx1:x≤cs.length:=hx.2.1
 refine ⟨fun hlt=>⟨hx0,hlt,fun hb=>?_,fun hb=>⟨in_big (by omega),x + 1,⟨by omega,by show x + 1≤(cs.length:Int);omega,all_next (0,[],[]) hx0 hlt hx.2.2 hb⟩,rfl,by omega⟩⟩,fun hge=>?_⟩
 ·unfold usF;rw [all_no (p:=calGood) (0,[],[]) hx0 hlt hb];rfl
 have e1:=all_end hx.2.2 hge
 refine ⟨⟨Int.le_refl _,Int.natCast_nonneg _,rfl⟩,fun y hy=>?_⟩
 have hy0:0≤y:=hy.1
 have hy1:y≤fs.length:=hy.2.1
 refine ⟨fun hlt=>⟨hy0,hlt,in_big (by omega),fun hb=>?_,fun hb=>⟨in_big (by omega),y + 1,⟨by omega,by show y + 1≤(fs.length:Int);omega,all_next (⟨#[]⟩,0,0,0,0,0,[]) hy0 hlt hy.2.2 ?_⟩,rfl,by omega⟩⟩,fun hge=>?_⟩
 ·have:offGood (cs,ns,os,fs,ls,ks) (fs.getD y.toNat (⟨#[]⟩,0,0,0,0,0,[]))=false:=by
   unfold offGood
   rcases hb with (h | h) | h <;> rw [h] <;> simp
  unfold usF;rw [all_no (p:=offGood (cs,ns,os,fs,ls,ks)) (⟨#[]⟩,0,0,0,0,0,[]) hy0 hlt this];simp
 ·unfold offGood;rw [hb.1.1,hb.1.2,hb.2];rfl
 have e2:=all_end hy.2.2 hge
 refine ⟨⟨Int.le_refl _,Int.natCast_nonneg _,rfl⟩,fun z hz=>?_⟩
 have hz0:0≤z:=hz.1
 have hz1:z≤ls.length:=hz.2.1
 refine ⟨fun hlt=>⟨hz0,hlt,hp,fun _=>hp,fun hb=>?_,fun hb=>⟨in_big (by omega),z + 1,⟨by omega,by show z + 1≤(ls.length:Int);omega,all_next (⟨#[]⟩,0,0,0,0,0) hz0 hlt hz.2.2 ?_⟩,rfl,by omega⟩⟩,fun hge=>?_⟩
 ·have:linGood (cs,ns,os,fs,ls,ks) (ls.getD z.toNat (⟨#[]⟩,0,0,0,0,0))=false:=by
   unfold linGood
   rcases hb with ((h | h) | h) | h <;> rw [h] <;> simp
  unfold usF;rw [all_no (p:=linGood (cs,ns,os,fs,ls,ks)) (⟨#[]⟩,0,0,0,0,0) hz0 hlt this];simp
 ·unfold linGood;rw [hb.1.1.1,hb.1.1.2,hb.1.2,hb.2];rfl
 have e3:=all_end hz.2.2 hge
 refine ⟨⟨Int.le_refl _,Int.natCast_nonneg _,rfl⟩,fun u hu=>?_⟩
 have hu0:0≤u:=hu.1
 have hu1:u≤ks.length:=hu.2.1
 refine ⟨fun hlt=>⟨hu0,hlt,fun hb=>?_,fun hb=>⟨in_big (by omega),u + 1,⟨by omega,by show u + 1≤(ks.length:Int);omega,all_next (⟨#[]⟩,0,0) hu0 hlt hu.2.2 ?_⟩,rfl,by omega⟩⟩,fun hge=>?_⟩
 ·have:claGood (ks.getD u.toNat (⟨#[]⟩,0,0))=false:=by
   unfold claGood
   rcases hb with h | h <;> rw [h] <;> simp
  unfold usF;rw [all_no (p:=claGood) (⟨#[]⟩,0,0) hu0 hlt this];simp
 ·unfold claGood;rw [hb.1,hb.2];rfl
 have e4:=all_end hu.2.2 hge
 unfold usF;rw [e1,e2,e3,e4];rfl
theorem fit_no {n:Net} {p:Plan} {i:Nat} (hi:i < p.2.2.1.length) (h:rowGood n i (p.2.2.1.getD i [])=false):fitF n p=false:=by
 cases e:fitF n p with
 | false=>rfl
 | true =>
  unfold fitF at e
  rw [Bool.and_eq_true,List.all_eq_true] at e
  rw [e.2 i (List.mem_range.2 hi)] at h;cases h
theorem t_fit (n:Net) (p:Plan):SoundC Tryz.prog G0 27 [.ip N n,.ip Pl p] [] ⟨netP n∧nxP p,.dat .bool (fitF n p),[]⟩:=by
 refine sound_of_ev (c:=mkc K10) KS10 KI0s hm (vc_fit n p ⟨rfl,fun ⟨hn,hp⟩=>?_⟩)
 obtain ⟨⟨⟨l1,l2⟩,l3⟩,l4⟩:=id hn
 obtain ⟨cs,ns,os,fs,ls,ks⟩:=n
 obtain ⟨p1,p2,nx,dy⟩:=p
 simp only at l1 l2 l3 l4
 simp only [cnd_or,cnd_and,D.and,D.not,Bool.true_and,eq_self,true_and,and_true,imp_self,implies_true,Bool.not_eq_true',Bool.or_eq_true,Bool.or_eq_false_iff,Bool.and_eq_true,Bool.and_eq_false_imp,exists_eq_right',D.nil,D.ne,D.lt,D.ge,D.ilen,D.ile,D.ilt,D.nlt,D.sub,D.add,D.nat,D.get,decide_eq_true_eq,decide_eq_false_iff_not,bne_iff_ne,bne_eq_false_iff_eq]
 obtain ⟨q1,q2⟩:nx.length≤2000000000000000∧∀ r ∈ nx,r.length≤2000000000000000∧∀ x ∈ r,-1≤x:=hp
 refine ⟨fun h=>?_,fun ⟨h1,h2⟩=>⟨⟨Int.le_refl _,Int.natCast_nonneg _,fun i hi=>by omega⟩,fun x hx=>?_⟩⟩
 ·unfold fitF
  rcases h with h | h
  ·rw [decide_eq_false (p:=nx.length=fs.length) (by omega)];simp
  ·rw [decide_eq_false (p:=dy.length=ks.length) (by omega)];simp
 have hx0:0≤x:=hx.1
 have hx1:x≤nx.length:=hx.2.1
 refine ⟨fun hlt=>⟨hx0,hlt,⟨Int.le_refl _,Int.natCast_nonneg _,rfl⟩,fun y hy=>?_⟩,fun hge=>?_⟩
 ·obtain ⟨r1,r2⟩:=q2 _ (getD_mem (l:=nx) (i:=x.toNat) (d:=[]) (by omega))
  obtain ⟨r,hr⟩:∃ r,r=nx.getD x.toNat []:=⟨_,rfl⟩
  rw [← hr] at r1 r2 hy ⊢
  have hy0:0≤y:=hy.1
  have hy1:y≤r.length:=hy.2.1
  refine ⟨fun hlt2=>?_,fun hge2=>?_⟩
  ·have hv:=r2 _ (getD_mem (l:=r) (i:=y.toNat) (d:=0) (by omega))
   obtain ⟨v,hv2⟩:∃ v,v=r.getD y.toNat 0:=⟨_,rfl⟩
   rw [← hv2] at hv ⊢
   have cg:cellGood (cs,ns,os,fs,ls,ks) x v=(decide (v=-1) || (decide (v < ls.length) && decide ((ls.getD v.toNat (⟨#[]⟩,0,0,0,0,0)).2.1=x))):=rfl
   refine ⟨hy0,hlt2,fun h=>by omega,fun h=>by omega,fun h=>?_,fun h=>⟨in_big (by omega),y + 1,⟨by omega,by omega,all_next 0 hy0 hlt2 hy.2.2 ?_⟩,rfl,by omega⟩⟩
   ·have:cellGood (cs,ns,os,fs,ls,ks) x v=false:=by
     rw [cg,decide_eq_false h.1]
     rcases h.2 with h3 | h3
     ·rw [decide_eq_false (by omega)];rfl
     ·rw [decide_eq_false h3];simp
    refine (fit_no (i:=x.toNat) (by show x.toNat < nx.length;omega) ?_).symm
    show rowGood _ _ (nx.getD x.toNat [])=false
    rw [← hr]
    unfold rowGood
    rw [Int.toNat_of_nonneg hx0]
    exact all_no 0 hy0 hlt2 (by rw [← hv2];exact this)
   ·rw [← hv2,cg]
    by_cases hm:v=-1
    ·rw [decide_eq_true hm];rfl
    ·obtain ⟨g1,g2⟩:=h hm
     rw [decide_eq_true (p:=v < ls.length) (by omega),decide_eq_true g2];simp
  ·have e1:=all_end hy.2.2 hge2
   refine ⟨in_big (by omega),x + 1,⟨by omega,by show x + 1≤(nx.length:Int);omega,fun i hi=>?_⟩,rfl,by omega⟩
   by_cases e:(i:Int) < x
   ·exact hx.2.2 i e
   ·have:(i:Int)=x:=by omega
    rw [this]
    show rowGood _ _ (nx.getD i [])=true
    have e2:i=x.toNat:=by omega
    rw [e2,← hr];exact e1
 ·unfold fitF
  rw [decide_eq_true (p:=nx.length=fs.length) (by omega),decide_eq_true (p:=dy.length=ks.length) (by omega)]
  symm
  simp only [Bool.true_and]
  exact List.all_eq_true.2 fun i hi=>hx.2.2 i (by have:i < nx.length:=List.mem_range.1 hi;omega)
end Go.Eng.In
