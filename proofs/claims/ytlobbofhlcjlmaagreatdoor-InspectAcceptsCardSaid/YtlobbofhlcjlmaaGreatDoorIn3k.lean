/- PeIn3k -/
import Derived.Test.YtlobbofhlcjlmaaGreatDoorH22
import Derived.Test.YtlobbofhlcjlmaaGreatDoorIn2k
set_option linter.unusedSimpArgs false
set_option linter.unusedVariables false
set_option maxRecDepth 100000
noncomputable section
namespace Go.Eng.In
open Go.Proofs
abbrev Of:Ty:=.pair S (.pair I (.pair I (.pair I (.pair I (.pair I (.sl S))))))
abbrev Ln:Ty:=.pair S (.pair I (.pair I (.pair I (.pair I I))))
abbrev Kl:Ty:=.pair S (.pair I I)
abbrev N:Ty:=.pair (.sl C) (.pair (.sl S) (.pair (.sl S) (.pair (.sl Of) (.pair (.sl Ln) (.sl Kl)))))
abbrev Cal:=Int×List Bool×List Int
abbrev Off:=ByteArray×Int×Int×Int×Int×Int×List ByteArray
abbrev Line:=ByteArray×Int×Int×Int×Int×Int
abbrev Cla:=ByteArray×Int×Int
abbrev Net:=List Cal×List ByteArray×List ByteArray×List Off×List Line×List Cla
def vW (c:Cal):Bool:=jB c.1 c.2.1 c.2.2
def pU (n:Net) (o:Off):Bool:=(btw o.2.2.1 0 ((n.1.length:Int) - 1) && btw o.2.2.2.2.1 1 1000) && btw o.2.2.2.2.2.1 1 1000
def nR (n:Net) (x:Int):Bool:=btw x 0 ((n.2.2.2.1.length:Int) - 1)
def pY (n:Net) (l:Line):Bool:=((nR n l.2.1 && nR n l.2.2.1) && btw l.2.2.2.1 0 1439) && btw l.2.2.2.2.1 1 100000
def qJ (k:Cla):Bool:=btw k.2.1 0 1439 && btw k.2.2 0 1439
def usF (n:Net):Bool:=((n.1.all vW && n.2.2.2.1.all (pU n)) && n.2.2.2.2.1.all (pY n)) && n.2.2.2.2.2.all qJ
def uH (n:Net):Prop:=((n.1.length≤2000000000000000∧n.2.2.2.1.length≤2000000000000000)∧n.2.2.2.2.1.length≤2000000000000000)∧n.2.2.2.2.2.length≤2000000000000000
def aOo (n:Net) (k:Int):Prop:=0≤k∧k≤n.1.length∧(n.1.take k.toNat).all vW=true
def aNz (n:Net) (k:Int):Prop:=0≤k∧k≤n.2.2.2.1.length∧(n.2.2.2.1.take k.toNat).all (pU n)=true
def aNL (n:Net) (k:Int):Prop:=0≤k∧k≤n.2.2.2.2.1.length∧(n.2.2.2.2.1.take k.toNat).all (pY n)=true
def aOi (n:Net) (k:Int):Prop:=0≤k∧k≤n.2.2.2.2.2.length∧(n.2.2.2.2.2.take k.toNat).all qJ=true
def bI (n:Net) (l:Int):Line:=n.2.2.2.2.1.getD l.toNat (⟨#[]⟩,0,0,0,0,0)
def lW (n:Net) (o l:Int):Bool:=decide (l=-1) || (decide (l < n.2.2.2.2.1.length) && decide ((bI n l).2.1=o))
def rO (n:Net) (o:Int) (r:List Int):Bool:=r.all (lW n o)
def aDG (n:Net) (p:Plan):Bool:=(decide (p.2.2.1.length=n.2.2.2.1.length) && decide (p.2.2.2.length=n.2.2.2.2.2.length)) && (List.range p.2.2.1.length).all fun i=>rO n i (p.2.2.1.getD i [])
def nxP (p:Plan):Prop:=p.2.2.1.length≤2000000000000000∧∀ r ∈ p.2.2.1,r.length≤2000000000000000∧∀ x ∈ r,-1≤x
def aT5 (n:Net) (p:Plan) (k:Int):Prop:=0≤k∧k≤p.2.2.1.length∧∀ i:Nat,(i:Int) < k→rO n i (p.2.2.1.getD i [])=true
def aNB (n:Net) (o:Int) (r:List Int) (k:Int):Prop:=0≤k∧k≤r.length∧(r.take k.toNat).all (lW n o)=true
def jX (c:List Int×Int):Bool:=fP c.1 c.2 && uD c.1
def aAw (c:List Int×Int):Int:=if fP c.1 c.2 then 190 else 180
def aCd (c:List Int×Int):Prop:=xJ c.1
def aGJ (args:List AV) (m:Mem):Option pF:=match args,m with
 | [.ifc t (.dat (.int .i64) e)],[]=>if t=39 then some ⟨True,.dat I e,[]⟩ else none
 | _,_=>none
def aRA:Kt:=kOr 23 aGJ aV7
def c9:Cfg:=aIv aRA (fun t=>t == 12) KP8 (fun f=>f == 25 || f == 61)
theorem aPC (s:Int) (l:List Int) (hvc :
 let c1:=(l,s);
 let c2:=jX c1;
 let c3:=chainOf (Value.iface (39) (Value.int IntKind.i64 (aAw c1)));
 let c4:=(aI l).fst;
 let c5:=(aI l).snd;
 let c6:=c5.fst;
 let c7:=c5.snd;
 let c8:=c7.fst;
 let c9:=c7.snd;true=true∧(aCd c1→xJ l∧(true=true→True∧(fP l s=false→c2=false∧true=true∧chainOf (Value.iface (39)
 (Value.int IntKind.i64 (180:Int)))=c3))∧((true=true→fP l s=true)→(True∧fP l s=true)∧(true=true→iR l∧(uD l=false →
 c2=false∧true=true∧chainOf (Value.iface (39) (Value.int IntKind.i64 (190:Int)))=c3))∧((true=true→uD l=true)→(iR l∧uD l=true)
 ∧ 1=1∧1=1∧0=0∧1=1∧0=0∧1=1∧0=0∧c2=true∧1=1∧0=0∧c4=c4∧c6=c6∧c8=c8∧c9=c9∧1=1∧0=0∧0=0∧dP l
 = dP l∧True)))) :
  evM c9 bF 24 [.agg [.dat R l,.dat I s]] [] (.tup [.agg [.dat I (aI l).1,.dat I (aI l).2.1,.dat M (aI l).2.2.1,.dat (.sl M) (aI l).2.2.2],.ptr 1 1 0 0]) [(1,.var [.dat R (dP l)])] ⟨aCd (l,s),jX (l,s),iK 39 (aAw (l,s))⟩:=@of_eq _ _ (by kernel_rfl) hvc
theorem aR0 (x:Int) (hvc :
 let c1:=btw x (0:Int) (1439:Int);true=true∧(True→True∧c1=c1∧True)) :
  evF (mkc aRA) bF 62 [.dat I x] [] ⟨True,.dat .bool (btw x 0 1439),[]⟩:=@of_eq _ _ (by kernel_rfl) hvc
theorem aRZ (x:Int) (n:Net) (hvc :
 let c1:=D.sub (D.ilen n.snd.snd.snd.fst) (1:Int);true=true∧(uH n→inR IntKind.i64 c1∧True∧btw x (0:Int) c1=nR n x∧True)) :
  evF (mkc aRA) bF 64 [.dat I x,.ipv (.ip N n)] [] ⟨uH n,.dat .bool (nR n x),[]⟩:=@of_eq _ _ (by kernel_rfl) hvc
def aAF:Kt:=kOr 62 (bD [.val I] (fun _=>True) fun (x,_)=>.dat .bool (btw x 0 1439)) <| kOr 64 (bD [.val I,.bp N] (fun (_,n,_)=>uH n) fun (x,n,_)=>.dat .bool (nR n x)) aRA
def usA (n:Net):Ann:=⟨fun id s=>match id with
 | 4=>some { α:=Int,inv:=fun k=>aOo n k,st:=fun k=>put { jK s with mem:=[] } [(19,.dat I k),(6,.top)],μ:=fun k=>D.nat (D.sub (D.ilen n.1) k) }
 | 10=>some { α:=Int,inv:=fun k=>aNz n k,st:=fun k=>put { jK s with mem:=[] } [(32,.dat I k),(8,.top)],μ:=fun k=>D.nat (D.sub (D.ilen n.2.2.2.1) k) }
 | 16=>some { α:=Int,inv:=fun k=>aNL n k,st:=fun k=>put { jK s with mem:=[] } [(64,.dat I k),(10,.top)],μ:=fun k=>D.nat (D.sub (D.ilen n.2.2.2.2.1) k) }
 | 22=>some { α:=Int,inv:=fun k=>aOi n k,st:=fun k=>put { jK s with mem:=[] } [(99,.dat I k),(12,.top)],μ:=fun k=>D.nat (D.sub (D.ilen n.2.2.2.2.2) k) }
 | _=>none,fun _ _=>none,fun _ _=>none⟩
theorem aUr (n:Net) (hvc :
 let c1:=n.fst;
 let c2:=D.ilen c1;
 let c3:=n.snd.snd.snd;
 let c4:=c3.fst;
 let c5:=D.ilen c4;
 let c6:=D.sub c2 (1:Int);
 let c7:=(ByteArray.mk (D.nil UInt8).toArray,(0:Int),(0:Int),(0:Int),(0:Int),(0:Int),D.nil ByteArray);
 let c8:=c3.snd;
 let c9:=c8.fst;
 let c10:=D.ilen c9;
 let c11:=((0:Int),(0:Int));
 let c12:=(ByteArray.mk (D.nil UInt8).toArray,(0:Int),(0:Int),(0:Int),c11);
 let c13:=c8.snd;
 let c14:=D.ilen c13;
 let c15:=(ByteArray.mk (D.nil UInt8).toArray,c11);true=true∧(uH n→(∃ x,aOo n x∧n=n∧n=n∧c1=c1∧c2=c2∧(0:Int)=x∧True)∧∀ (x
 : Int),
 let c16:=D.get c1 (D.nat x) ((0:Int),D.nil Bool,D.nil Int);
 let c17:=c16.snd;
 let c18:=D.not (jB c16.fst c17.fst c17.snd);
 let c19:=D.add x (1:Int);aOo n x→(D.lt x c2=true→D.ile (0:Int) x∧D.ilt x c2∧1=1∧0=0∧1=1∧0=0∧True∧(c18=true→false=usF
 n∧True)∧(c18=false→inR IntKind.i64 c19∧∃ y,aOo n y∧(n=n∧n=n∧c1=c1∧c2=c2∧c19=y∧True)∧D.nlt (D.nat (D.sub c2 y)) (D.nat
 (D.sub c2 x))))∧(D.lt x c2=false→(∃ x,aNz n x∧n=n∧n=n∧c4=c4∧c5=c5∧(0:Int)=x∧True)∧∀ (x:Int),
 let c20:=(D.get c4 (D.nat x) c7).snd.snd;
 let c21:=D.not (btw c20.fst (0:Int) c6);
 let c22:=D.not c21;
 let c23:=c20.snd.snd;
 let c24:=D.cnd c21 true (D.not (btw c23.fst (1:Int) (1000:Int)));
 let c25:=D.not c24;
 let c26:=D.cnd c24 true (D.not (btw c23.snd.fst (1:Int) (1000:Int)));
 let c27:=D.add x (1:Int);aNz n x→(D.lt x c5=true→D.ile (0:Int) x∧D.ilt x c5∧1=1∧0=0∧1=1∧1=1∧0=0∧inR IntKind.i64 c6∧True
 ∧ (c22=true→1=1)∧(c22=true→c22=true→c22=true)∧(c22=true→1=1)∧(c22=true→0=0)∧(c22=true→c22=true→c22=true)∧(c22 =
 true→True)∧(c22=true→c22=true→c22=true)∧(D.and true c22=true→c22=true)∧(c25=true→1=1)∧(c25=true→c25=true→c25=true) ∧
 (c25=true→1=1)∧(c25=true→0=0)∧(c25=true→c25=true→c25=true)∧(c25=true→True)∧(c25=true→c25=true→c25=true)∧(D.and
 true c25=true→c25=true)∧(c26=true→false=usF n∧True)∧(c26=false→inR IntKind.i64 c27∧∃ y,aNz n y∧(n=n∧n=n∧c4=c4∧c5=c5
 ∧ c27=y∧True)∧D.nlt (D.nat (D.sub c5 y)) (D.nat (D.sub c5 x))))∧(D.lt x c5=false→(∃ x,aNL n x∧n=n∧n=n∧c9=c9∧c10=c10∧(0:Int)
 = x∧True)∧∀ (x:Int),
 let c28:=(D.get c9 (D.nat x) c12).snd;
 let c29:=D.not (nR n c28.fst);
 let c30:=D.not c29;
 let c31:=c28.snd;
 let c32:=D.cnd c29 true (D.not (nR n c31.fst));
 let c33:=D.not c32;
 let c34:=c31.snd;
 let c35:=D.cnd c32 true (D.not (btw c34.fst (0:Int) (1439:Int)));
 let c36:=D.not c35;
 let c37:=D.cnd c35 true (D.not (btw c34.snd.fst (1:Int) (100000:Int)));
 let c38:=D.add x (1:Int);aNL n x→(D.lt x c10=true→D.ile (0:Int) x∧D.ilt x c10∧1=1∧0=0∧1=1∧1=1∧0=0∧uH n∧(c30=true →
 1=1)∧(c30=true→c30=true→c30=true)∧(c30=true→1=1)∧(c30=true→0=0)∧(c30=true→c30=true→c30=true)∧(c30=true→c30 =
 true→c30=true)∧(c30=true→uH n)∧(c30=true→c30=true→c30=true)∧(D.and true c30=true→c30=true)∧(c33=true→1=1)∧(c33=true
 → c33=true→c33=true)∧(c33=true→1=1)∧(c33=true→0=0)∧(c33=true→c33=true→c33=true)∧(c33=true→c33=true→c33=true) ∧
 (c33=true→True)∧(c33=true→c33=true→c33=true)∧(D.and true c33=true→c33=true)∧(c36=true→1=1)∧(c36=true→c36=true→c36 =
 true)∧(c36=true→1=1)∧(c36=true→0=0)∧(c36=true→c36=true→c36=true)∧(c36=true→True)∧(c36=true→c36=true→c36=true) ∧
 (D.and true c36=true→c36=true)∧(c37=true→false=usF n∧True)∧(c37=false→inR IntKind.i64 c38∧∃ y,aNL n y∧(n=n∧n=n∧c9=c9 ∧
 c10=c10∧c38=y∧True)∧D.nlt (D.nat (D.sub c10 y)) (D.nat (D.sub c10 x))))∧(D.lt x c10=false→(∃ x,aOi n x∧c13=c13∧c14=c14∧(0:Int) =
 x∧True)∧∀ (x:Int),
 let c39:=(D.get c13 (D.nat x) c15).snd;
 let c40:=D.not (btw c39.fst (0:Int) (1439:Int));
 let c41:=D.not c40;
 let c42:=D.cnd c40 true (D.not (btw c39.snd (0:Int) (1439:Int)));
 let c43:=D.add x (1:Int);aOi n x→(D.lt x c14=true→D.ile (0:Int) x∧D.ilt x c14∧1=1∧0=0∧1=1∧1=1∧0=0∧True∧(c41=true→1
 = 1)∧(c41=true→c41=true→c41=true)∧(c41=true→1=1)∧(c41=true→0=0)∧(c41=true→c41=true→c41=true)∧(c41=true→c41=true
 → c41=true)∧(c41=true→True)∧(c41=true→c41=true→c41=true)∧(D.and true c41=true→c41=true)∧(c42=true→false=usF n∧True) ∧
 (c42=false→inR IntKind.i64 c43∧∃ y,aOi n y∧(c13=c13∧c14=c14∧c43=y∧True)∧D.nlt (D.nat (D.sub c14 y)) (D.nat (D.sub c14 x))))∧(D.lt x
 c14=false→true=usF n∧True)))))) :
  evF (mkc aAF) (lvA [(4,[1,2,3,4,6,8,10,12,17,18,19,30,31,32,62,63,64,97,98,99]),(10,[1,2,3,4,8,10,12,30,31,32,62,63,64,97,98,99]),(16,[1,2,3,4,10,12,62,63,64,97,98,99]),(22,[2,3,12,97,98,99])] (usA n)) 26 [.ip N n] [] ⟨uH n,.dat .bool (usF n),[]⟩:=@of_eq _ _ (by kernel_rfl) hvc
def aWi (n:Net) (p:Plan):Ann:=⟨fun id s=>match id with
 | 4=>some { α:=Int,inv:=fun k=>aT5 n p k,st:=fun k=>put (jK s) [(38,.dat I k)],μ:=fun k=>D.nat (D.sub (D.ilen p.2.2.1) k) }
 | 7=>match s.sig.T 5,s.sig.T 6 with
  | .dat (.int .i64) o,.dat (.sl (.int .i64)) r=>some { α:=Int,inv:=fun k=>aNB n o r k,st:=fun k=>put (jK s) [(45,.dat I k)],μ:=fun k=>D.nat (D.sub (D.ilen r) k) }
  | _,_=>none
 | _=>none,fun _ _=>none,fun _ _=>none⟩
theorem aSv (n:Net) (p:Plan) (hvc :
 let c1:=p.snd.snd;
 let c2:=c1.fst;
 let c3:=D.ilen c2;
 let c4:=n.snd.snd.snd;
 let c5:=D.ne c3 (D.ilen c4.fst);
 let c6:=D.not c5;
 let c7:=c4.snd;
 let c8:=D.cnd c5 true (D.ne (D.ilen c1.snd) (D.ilen c7.snd));
 let c9:=c7.fst;
 let c10:=D.ilen c9;true=true∧(uH n∧nxP p→(c6=true→c6=true→c6=true)∧(c6=true→c6=true→c6=true)∧(c6=true→c6=true→c6 =
 true)∧(c6=true→c6=true→c6=true)∧(c6=true→c6=true→c6=true)∧(c6=true→c6=true→c6=true)∧(c6=true→c6=true→c6=true) ∧
 (c6=true→c6=true→c6=true)∧(c6=true→c6=true→c6=true)∧(c6=true→c6=true→c6=true)∧(D.and true c6=true→c6=true)∧(c8 =
 true→false=aDG n p∧True)∧(c8=false→(∃ x,aT5 n p x∧n=n∧c2=c2∧c3=c3∧(0:Int)=x∧True)∧∀ (x:Int),
 let c11:=D.get c2 (D.nat x) (D.nil Int);
 let c12:=D.ilen c11;
 let c13:=D.add x (1:Int);aT5 n p x→(D.lt x c3=true→D.ile (0:Int) x∧D.ilt x c3∧(∃ x_3,aNB n x c11 x_3∧n=n∧x=x∧c11=c11∧c2=c2
 ∧ c3=c3∧x=x∧c11=c11∧c12=c12∧(0:Int)=x_3∧True)∧∀ (x_3:Int),
 let c14:=D.get c11 (D.nat x_3) (0:Int);
 let c15:=D.ne c14 (-1:Int);
 let c16:=D.ge c14 c10;
 let c17:=D.cnd c15 (D.cnd c16 true (D.ne (D.get c9 (D.nat c14) (ByteArray.mk (D.nil UInt8).toArray,(0:Int),(0:Int),(0:Int),(0:Int),(0 :
 Int))).snd.fst x)) false;
 let c18:=D.add x_3 (1:Int);aNB n x c11 x_3→(D.lt x_3 c12=true→D.ile (0:Int) x_3∧D.ilt x_3 c12∧(c15=true→c15=true→c15=true)∧(c15 =
 true→c15=true→c15=true)∧(c15=true→c15=true→c15=true)∧(c15=true→c15=true→c15=true)∧(c15=true→c15=true→c15=true) ∧
 (c15=true→c15=true→c15=true)∧(c15=true→c15=true→c15=true)∧(D.and c15 (D.not c16)=true→D.and c15 (D.not c16)=true→D.and c15
 (D.not c16)=true)∧(D.and c15 (D.not c16)=true→D.and c15 (D.not c16)=true→D.and c15 (D.not c16)=true)∧(D.and c15 (D.not c16)=true→D.and c15
 (D.not c16)=true→D.and c15 (D.not c16)=true)∧(D.and c15 (D.not c16)=true→D.and c15 (D.not c16)=true→D.and c15 (D.not c16)=true)∧(D.and c15
 (D.not c16)=true→D.and c15 (D.not c16)=true→D.and c15 (D.not c16)=true)∧(D.and c15 (D.not c16)=true→D.ile (0:Int) c14)∧(D.and c15 (D.not
 c16)=true→D.ilt c14 c10)∧(D.and c15 (D.not c16)=true→D.and c15 (D.not c16)=true→D.and c15 (D.not c16)=true)∧(D.and c15 (D.not c16)=true →
 D.and c15 (D.not c16)=true→D.and c15 (D.not c16)=true)∧(D.and c15 (D.not c16)=true→D.and c15 (D.not c16)=true→D.and c15 (D.not c16)=true) ∧
 (D.and c15 (D.not c16)=true→D.and c15 (D.not c16)=true→D.and c15 (D.not c16)=true)∧(c15=true→c15=true→c15=true)∧(c15=true→D.and c15
 (D.not c16)=true→D.and c15 (D.not c16)=true)∧(D.and true c15=true→c15=true)∧(c17=true→false=aDG n p∧True)∧(c17=false→inR
 IntKind.i64 c18∧∃ y,aNB n x c11 y∧(n=n∧x=x∧c11=c11∧c2=c2∧c3=c3∧x=x∧c11=c11∧c12=c12∧c18=y∧True)∧D.nlt (D.nat (D.sub
 c12 y)) (D.nat (D.sub c12 x_3))))∧(D.lt x_3 c12=false→inR IntKind.i64 c13∧∃ y,aT5 n p y∧(n=n∧c2=c2∧c3=c3∧c13=y∧True)∧D.nlt (D.nat
 (D.sub c3 y)) (D.nat (D.sub c3 x))))∧(D.lt x c3=false→true=aDG n p∧True)))) :
  evF (mkc aAF) (lvA [(4,[0,4,5,6,8,36,37,38,43,44,45]),(7,[0,4,5,6,8,36,37,38,43,44,45])] (aWi n p)) 27 [.ip N n,.ip Pl p] [] ⟨uH n∧nxP p,.dat .bool (aDG n p),[]⟩:=@of_eq _ _ (by kernel_rfl) hvc
theorem aIR:∀ args m c,aGJ args m=some c→aC Tryz.prog fC 23 args m c:=by
 intro args m c h
 unfold aGJ at h
 split at h
 ·split at h
  ·rename_i e;subst e;cases h;exact aS0 _
  ·cases h
 ·cases h
theorem KS9:aQ Tryz.prog fC aRA:=aJ aIR aVG
theorem aOL (s:Int) (l:List Int):aC Tryz.prog fC 24 [.agg [.dat R l,.dat I s]] [] ⟨aCd (l,s)∧jX (l,s)=true,.tup [.agg [.dat I (aI l).1,.dat I (aI l).2.1,.dat M (aI l).2.2.1,.dat (.sl M) (aI l).2.2.2],.ptr 1 1 0 0],[(1,.var [.dat R (dP l)])]⟩ ∧
  jM Tryz.prog fC 24 [.agg [.dat R l,.dat I s]] [] ⟨aCd (l,s),jX (l,s),iK 39 (aAw (l,s))⟩:=by
 refine fK (c:=c9) KS9 cO hm aTQ (aPC s l ⟨rfl,fun hp=>?_⟩)
 simp only [eq_self,true_and,and_true,forall_const]
 refine ⟨hp,fun h=>⟨?_,?_⟩,fun h=>⟨h,⟨?_,fun h2=>⟨?_,?_⟩⟩,fun h2=>⟨⟨?_,h2⟩,?_⟩⟩⟩
 ·unfold jX;rw [h];rfl
 ·unfold aAw;rw [h];rfl
 ·exact ⟨by unfold fP at h;rw [Bool.and_eq_true] at h;exact h.1,hp⟩
 ·unfold jX;rw [h2];simp
 ·unfold aAw;rw [h];rfl
 ·exact ⟨by unfold fP at h;rw [Bool.and_eq_true] at h;exact h.1,hp⟩
 ·unfold jX;rw [h,h2];rfl
theorem aUz (x:Int):aC Tryz.prog fC 62 [.dat I x] [] ⟨True,.dat .bool (btw x 0 1439),[]⟩ :=
 aA (c:=mkc aRA) KS9 cO hm (aR0 x ⟨rfl,fun _=>⟨trivial,rfl,trivial⟩⟩)
theorem aUy (x:Int) (n:Net):aC Tryz.prog fC 64 [.dat I x,.ipv (.ip N n)] [] ⟨uH n,.dat .bool (nR n x),[]⟩:=by
 refine aA (c:=mkc aRA) KS9 cO hm (aRZ x n ⟨rfl,fun hp=>⟨aN ?_,trivial,rfl,trivial⟩⟩)
 have:=hp.1.1.2
 simp only [D.sub,D.ilen];omega
theorem aRP:aQ Tryz.prog fC aAF:=aJ (aG fun (x,_)=>aUz x) <| aJ (aG fun (x,n,_)=>aUy x n) KS9
theorem yG {α:Type} {p:α→Bool} {l:List α} {k:Int} (d:α) (h0:0≤k) (hk:k < l.length) (ha:(l.take k.toNat).all p=true) (hp:p (l.getD k.toNat d)=true):(l.take (k + 1).toNat).all p=true:=by
 rw [show (k + 1).toNat=k.toNat + 1 by omega,List.take_add_one,List.all_append,ha]
 rw [List.getD_eq_getElem?_getD,List.getElem?_eq_getElem (by omega:k.toNat < l.length)] at hp
 rw [List.getElem?_eq_getElem (by omega:k.toNat < l.length)]
 simpa using hp
theorem aFE {α:Type} {p:α→Bool} {l:List α} {k:Int} (d:α) (h0:0≤k) (hk:k < l.length) (hp:p (l.getD k.toNat d)=false):l.all p=false:=by
 cases e:l.all p with
 | false=>rfl
 | true=>rw [List.all_eq_true.1 e _ (aW (d:=d) (by omega))] at hp;cases hp
theorem aB8 {α:Type} {p:α→Bool} {l:List α} {k:Int} (ha:(l.take k.toNat).all p=true) (hk:¬ k < l.length):l.all p=true:=by
 rwa [List.take_of_length_le (by omega)] at ha
theorem aWa (n:Net):aC Tryz.prog fC 26 [.ip N n] [] ⟨uH n,.dat .bool (usF n),[]⟩:=by
 refine aA (c:=mkc aAF) aRP cO hm (aUr n ⟨rfl,fun hp=>?_⟩)
 obtain ⟨⟨⟨l1,l2⟩,l3⟩,l4⟩:=id hp
 obtain ⟨cs,ns,os,fs,ls,ks⟩:=n
 simp only at l1 l2 l3 l4
 simp only [qI,D.and,D.not,Bool.true_and,eq_self,true_and,and_true,imp_self,implies_true,Bool.not_eq_true',Bool.or_eq_true,Bool.or_eq_false_iff,Bool.not_eq_false',Bool.not_not,exists_eq_right',D.nil,D.lt,D.ilen,D.ile,D.ilt,D.nlt,D.sub,D.add,D.nat,D.get,decide_eq_true_eq,decide_eq_false_iff_not]
 refine ⟨⟨Int.le_refl _,Int.natCast_nonneg _,rfl⟩,fun x hx=>?_⟩
 have hx0:0≤x:=hx.1
 have hx1:x≤cs.length:=hx.2.1
 refine ⟨fun hlt=>⟨hx0,hlt,fun hb=>?_,fun hb=>⟨aN (by omega),x + 1,⟨by omega,by show x + 1≤(cs.length:Int);omega,yG (0,[],[]) hx0 hlt hx.2.2 hb⟩,rfl,by omega⟩⟩,fun hge=>?_⟩
 ·unfold usF;rw [aFE (p:=vW) (0,[],[]) hx0 hlt hb];rfl
 have e1:=aB8 hx.2.2 hge
 refine ⟨⟨Int.le_refl _,Int.natCast_nonneg _,rfl⟩,fun y hy=>?_⟩
 have hy0:0≤y:=hy.1
 have hy1:y≤fs.length:=hy.2.1
 refine ⟨fun hlt=>⟨hy0,hlt,aN (by omega),fun hb=>?_,fun hb=>⟨aN (by omega),y + 1,⟨by omega,by show y + 1≤(fs.length:Int);omega,yG (⟨#[]⟩,0,0,0,0,0,[]) hy0 hlt hy.2.2 ?_⟩,rfl,by omega⟩⟩,fun hge=>?_⟩
 ·have:pU (cs,ns,os,fs,ls,ks) (fs.getD y.toNat (⟨#[]⟩,0,0,0,0,0,[]))=false:=by
   unfold pU
   rcases hb with (h | h) | h <;> rw [h] <;> simp
  unfold usF;rw [aFE (p:=pU (cs,ns,os,fs,ls,ks)) (⟨#[]⟩,0,0,0,0,0,[]) hy0 hlt this];simp
 ·unfold pU;rw [hb.1.1,hb.1.2,hb.2];rfl
 have e2:=aB8 hy.2.2 hge
 refine ⟨⟨Int.le_refl _,Int.natCast_nonneg _,rfl⟩,fun z hz=>?_⟩
 have hz0:0≤z:=hz.1
 have hz1:z≤ls.length:=hz.2.1
 refine ⟨fun hlt=>⟨hz0,hlt,hp,fun _=>hp,fun hb=>?_,fun hb=>⟨aN (by omega),z + 1,⟨by omega,by show z + 1≤(ls.length:Int);omega,yG (⟨#[]⟩,0,0,0,0,0) hz0 hlt hz.2.2 ?_⟩,rfl,by omega⟩⟩,fun hge=>?_⟩
 ·have:pY (cs,ns,os,fs,ls,ks) (ls.getD z.toNat (⟨#[]⟩,0,0,0,0,0))=false:=by
   unfold pY
   rcases hb with ((h | h) | h) | h <;> rw [h] <;> simp
  unfold usF;rw [aFE (p:=pY (cs,ns,os,fs,ls,ks)) (⟨#[]⟩,0,0,0,0,0) hz0 hlt this];simp
 ·unfold pY;rw [hb.1.1.1,hb.1.1.2,hb.1.2,hb.2];rfl
 have e3:=aB8 hz.2.2 hge
 refine ⟨⟨Int.le_refl _,Int.natCast_nonneg _,rfl⟩,fun u hu=>?_⟩
 have hu0:0≤u:=hu.1
 have hu1:u≤ks.length:=hu.2.1
 refine ⟨fun hlt=>⟨hu0,hlt,fun hb=>?_,fun hb=>⟨aN (by omega),u + 1,⟨by omega,by show u + 1≤(ks.length:Int);omega,yG (⟨#[]⟩,0,0) hu0 hlt hu.2.2 ?_⟩,rfl,by omega⟩⟩,fun hge=>?_⟩
 ·have:qJ (ks.getD u.toNat (⟨#[]⟩,0,0))=false:=by
   unfold qJ
   rcases hb with h | h <;> rw [h] <;> simp
  unfold usF;rw [aFE (p:=qJ) (⟨#[]⟩,0,0) hu0 hlt this];simp
 ·unfold qJ;rw [hb.1,hb.2];rfl
 have e4:=aB8 hu.2.2 hge
 unfold usF;rw [e1,e2,e3,e4];rfl
theorem aTv {n:Net} {p:Plan} {i:Nat} (hi:i < p.2.2.1.length) (h:rO n i (p.2.2.1.getD i [])=false):aDG n p=false:=by
 cases e:aDG n p with
 | false=>rfl
 | true =>
  unfold aDG at e
  rw [Bool.and_eq_true,List.all_eq_true] at e
  rw [e.2 i (List.mem_range.2 hi)] at h;cases h
theorem aU2 (n:Net) (p:Plan):aC Tryz.prog fC 27 [.ip N n,.ip Pl p] [] ⟨uH n∧nxP p,.dat .bool (aDG n p),[]⟩:=by
 refine aA (c:=mkc aAF) aRP cO hm (aSv n p ⟨rfl,fun ⟨hn,hp⟩=>?_⟩)
 obtain ⟨⟨⟨l1,l2⟩,l3⟩,l4⟩:=id hn
 obtain ⟨cs,ns,os,fs,ls,ks⟩:=n
 obtain ⟨p1,p2,nx,dy⟩:=p
 simp only at l1 l2 l3 l4
 simp only [qI,gQ,D.and,D.not,Bool.true_and,eq_self,true_and,and_true,imp_self,implies_true,Bool.not_eq_true',Bool.or_eq_true,Bool.or_eq_false_iff,Bool.and_eq_true,Bool.and_eq_false_imp,exists_eq_right',D.nil,D.ne,D.lt,D.ge,D.ilen,D.ile,D.ilt,D.nlt,D.sub,D.add,D.nat,D.get,decide_eq_true_eq,decide_eq_false_iff_not,bne_iff_ne,bne_eq_false_iff_eq]
 obtain ⟨q1,q2⟩:nx.length≤2000000000000000∧∀ r ∈ nx,r.length≤2000000000000000∧∀ x ∈ r,-1≤x:=hp
 refine ⟨fun h=>?_,fun ⟨h1,h2⟩=>⟨⟨Int.le_refl _,Int.natCast_nonneg _,fun i hi=>by omega⟩,fun x hx=>?_⟩⟩
 ·unfold aDG
  rcases h with h | h
  ·rw [decide_eq_false (p:=nx.length=fs.length) (by omega)];simp
  ·rw [decide_eq_false (p:=dy.length=ks.length) (by omega)];simp
 have hx0:0≤x:=hx.1
 have hx1:x≤nx.length:=hx.2.1
 refine ⟨fun hlt=>⟨hx0,hlt,⟨Int.le_refl _,Int.natCast_nonneg _,rfl⟩,fun y hy=>?_⟩,fun hge=>?_⟩
 ·obtain ⟨r1,r2⟩:=q2 _ (aW (l:=nx) (i:=x.toNat) (d:=[]) (by omega))
  obtain ⟨r,hr⟩:∃ r,r=nx.getD x.toNat []:=⟨_,rfl⟩
  rw [← hr] at r1 r2 hy ⊢
  have hy0:0≤y:=hy.1
  have hy1:y≤r.length:=hy.2.1
  refine ⟨fun hlt2=>?_,fun hge2=>?_⟩
  ·have hv:=r2 _ (aW (l:=r) (i:=y.toNat) (d:=0) (by omega))
   obtain ⟨v,hv2⟩:∃ v,v=r.getD y.toNat 0:=⟨_,rfl⟩
   rw [← hv2] at hv ⊢
   have cg:lW (cs,ns,os,fs,ls,ks) x v=(decide (v=-1) || (decide (v < ls.length) && decide ((ls.getD v.toNat (⟨#[]⟩,0,0,0,0,0)).2.1=x))):=rfl
   refine ⟨hy0,hlt2,fun h=>by omega,fun h=>by omega,fun h=>?_,fun h=>⟨aN (by omega),y + 1,⟨by omega,by omega,yG 0 hy0 hlt2 hy.2.2 ?_⟩,rfl,by omega⟩⟩
   ·have:lW (cs,ns,os,fs,ls,ks) x v=false:=by
     rw [cg,decide_eq_false h.1]
     rcases h.2 with h3 | h3
     ·rw [decide_eq_false (by omega)];rfl
     ·rw [decide_eq_false h3];simp
    refine (aTv (i:=x.toNat) (by show x.toNat < nx.length;omega) ?_).symm
    show rO _ _ (nx.getD x.toNat [])=false
    rw [← hr]
    unfold rO
    rw [Int.toNat_of_nonneg hx0]
    exact aFE 0 hy0 hlt2 (by rw [← hv2];exact this)
   ·rw [← hv2,cg]
    by_cases hm:v=-1
    ·rw [decide_eq_true hm];rfl
    ·obtain ⟨g1,g2⟩:=h hm
     rw [decide_eq_true (p:=v < ls.length) (by omega),decide_eq_true g2];simp
  ·have e1:=aB8 hy.2.2 hge2
   refine ⟨aN (by omega),x + 1,⟨by omega,by show x + 1≤(nx.length:Int);omega,fun i hi=>?_⟩,rfl,by omega⟩
   by_cases e:(i:Int) < x
   ·exact hx.2.2 i e
   ·have:(i:Int)=x:=by omega
    rw [this]
    show rO _ _ (nx.getD i [])=true
    have e2:i=x.toNat:=by omega
    rw [e2,← hr];exact e1
 ·unfold aDG
  rw [decide_eq_true (p:=nx.length=fs.length) (by omega),decide_eq_true (p:=dy.length=ks.length) (by omega)]
  symm
  simp only [Bool.true_and]
  exact List.all_eq_true.2 fun i hi=>hx.2.2 i (by have:i < nx.length:=List.mem_range.1 hi;omega)
end Go.Eng.In
