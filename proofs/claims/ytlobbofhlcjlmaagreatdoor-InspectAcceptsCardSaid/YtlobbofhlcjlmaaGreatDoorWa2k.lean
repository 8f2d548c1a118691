/- PeWa2k -/
import Derived.Test.YtlobbofhlcjlmaaGreatDoorH22
import Derived.Test.YtlobbofhlcjlmaaGreatDoorWa1k
set_option linter.unusedSimpArgs false
set_option linter.unusedVariables false
set_option maxRecDepth 100000
noncomputable section
namespace Go.Eng.Sv
open Go.Proofs
def aBY (w:List Bool) (h:List Int) (a b:Int):Int:=if b≤a + 2000 then ((jF w h (a + 1) (b - a)).length:Int) else -1
def countP (z:Int) (w:List Bool) (h:List Int) (a b:Int):Prop:=bM z w h=true∧kN a=true∧kN b=true
def aJF (k:Nat) (l:List Int):Prop:=k≤l.length∧l.length≤100000
def aDP (x:Int):Bool:=decide (-1≤x∧x≤65518)
def yH (_o x:Int):Bool:=aDP x
def sgR (g:Int→Int→Bool) (m o:Int) (row:List Int):Bool:=decide ((row.length:Int)=m) && row.all (g o)
def sgF (g:Int→Int→Bool) (t:List (List Int)) (m:Int):Bool:=decide ((t.length:Int)=m) && (List.range t.length).all fun i=>sgR g m i (t.getD i [])
def aLR (g:Int→Int→Bool) (t:List (List Int)) (m k:Int):Prop:=0≤k∧k≤t.length∧(t.length:Int)=m∧∀ i:Nat,(i:Int) < k→sgR g m i (t.getD i [])=true
def aCb (g:Int→Int→Bool) (row:List Int) (m o k:Int):Prop:=0≤k∧k≤row.length∧(row.length:Int)=m∧∀ i:Nat,(i:Int) < k→g o (row.getD i 0)=true
def aBV (p:Plan):Prop:=zC p.2.2.1∧p.2.2.2.length≤1000000∧∀ t ∈ p.2.2.2,zC t
def aBg (p:Plan):Bool:=decide (0≤p.1∧p.1 < p.2.1∧p.2.1≤600∧p.2.1 - p.1≤60)
def aFm (n:Net) (p:Plan):Bool:=decide ((p.2.2.2.length:Int)=n.2.2.2.2.2.length) && p.2.2.2.all fun t=>sgF yH t n.2.2.2.1.length
def sH (n:Net) (p:Plan):Bool:=aBg p && (aLQ n p.2.2.1 && aFm n p)
def aHC (n:Net) (p:Plan) (k:Int):Prop:=0≤k∧k≤p.2.2.2.length∧aBg p=true∧aLQ n p.2.2.1=true∧(p.2.2.2.length:Int)=n.2.2.2.2.2.length∧∀ i:Nat,(i:Int) < k→sgF yH (p.2.2.2.getD i []) n.2.2.2.1.length=true
def aTC (w:List Bool) (h:List Int) (a b:Int):Ann:=⟨fun id s=>match id with
 | 5=>some { α:=Nat,inv:=fun k=>aJF k (jF w h (D.add a 1) (D.sub b a)),st:=fun k=>aAd (flat s) 0 (.var [.dat I (D.ofN k)]),μ:=fun k=>k }
 | _=>none,fun _ _=>none,fun _ _=>none⟩
theorem aMB (z:Int) (w:List Bool) (h:List Int) (a b:Int) (hvc :
 let c1:=D.not (bM z w h);
 let c2:=D.not c1;
 let c3:=D.cnd c1 true (D.not (kN a));
 let c4:=D.not c3;
 let c5:=D.cnd c3 true (D.not (kN b));
 let c6:=D.not c5;
 let c7:=D.add a (2000:Int);
 let c8:=D.cnd c5 true (D.gt b c7);
 let c9:=aBY w h a b;
 let c10:=D.add a (1:Int);
 let c11:=jF w h c10 (D.sub b a);
 let c12:=(z,w,h);true=true∧(countP z w h a b→True∧(c2=true→c2=true→c2=true)∧(c2=true→True)∧(c2=true→c2=true→c2=true) ∧
 (D.and true c2=true→c2=true)∧(c4=true→c4=true→c4=true)∧(c4=true→True)∧(c4=true→c4=true→c4=true)∧(D.and true c4=true →
 c4=true)∧(c6=true→c6=true→c6=true)∧(c6=true→inR IntKind.i64 c7)∧(c6=true→c6=true→c6=true)∧(c6=true→c6=true→c6=true)
 ∧ (D.and true c6=true→c6=true)∧(c8=true→(-1:Int)=c9∧True)∧(c8=false→1=1∧0=0∧inR IntKind.i64 c10∧inR IntKind.i64 (D.sub b a) ∧
 D.len w=7∧aIM w h c10 (D.sub b a)∧(∃ x,aJF x c11∧x=0∧z=z∧w=w∧h=h∧a=a∧b=b∧c12=c12∧(0:Int)=(0:Int)∧1=1∧0=0
 ∧ 0=0∧z=z∧w=w∧h=h∧bM z w h=bM z w h∧c1=c1∧c1=c1∧c3=c3∧c3=c3∧c5=c5∧c5=c5∧c8=c8∧z=z∧w=w∧h=h∧a
 = a∧c10=c10∧b=b∧a=a∧D.sub b a=D.sub b a∧c10=c10∧D.sub b a=D.sub b a∧w=w∧c12=c12∧(0:Int)=D.ofN x∧True)∧(∀ (x:Nat),
 let c13:=D.add (D.ofN x) (1:Int);∀ (y:Int),aJF x c11→yY c11 x y→1=1∧0=0∧inR IntKind.i64 c13∧1=1∧0=0∧∃ z_1,aJF z_1 c11∧z_1
 = D.fE x (1)∧z=z∧w=w∧h=h∧a=a∧b=b∧c12=c12∧(0:Int)=(0:Int)∧1=1∧0=0∧0=0∧z=z∧w=w∧h=h∧bM z w h =
 bM z w h∧c1=c1∧c1=c1∧c3=c3∧c3=c3∧c5=c5∧c5=c5∧c8=c8∧z=z∧w=w∧h=h∧a=a∧c10=c10∧b=b∧a=a∧D.sub b a =
 D.sub b a∧c10=c10∧D.sub b a=D.sub b a∧w=w∧c12=c12∧c13=D.ofN z_1∧True)∧∀ (x:Nat),aJF x c11→x=D.len c11→1=1∧0=0∧D.ofN
 x=c9∧True))) :
  evF (aT6 KR1) (aTC w h a b) 92 [cal z w h,.dat I a,.dat I b] [] ⟨countP z w h a b,.dat I (aBY w h a b),[]⟩:=@of_eq _ _ (by kernel_rfl) hvc
theorem aPQ (o x:Int) (hvc :
 let c1:=D.ge x (-1:Int);true=true∧(True→(c1=true→c1=true→c1=true)∧(D.and true c1=true→c1=true)∧D.cnd c1 (D.le x (65518:Int))
 false=yH o x∧True)) :
  evF (mkc KW3) bF 85 [.dat I o,.dat I x] [] ⟨True,.dat .bool (yH o x),[]⟩:=@of_eq _ _ (by kernel_rfl) hvc
theorem aMv (n:Net) (hvc :
 true=true∧(True→n=n∧True)) :
  evF (mkc KW3) bF 84 [.ip N n] [] ⟨True,.fn 122 [.ipv (.ip N n)],[]⟩:=@of_eq _ _ (by kernel_rfl) hvc
theorem aMw (o x:Int) (cs:LC) (ns os:LB) (fs:List Off) (ls:List Line) (ks:List Cla) (hvc :
 let c1:=D.eq x (-1:Int);
 let c2:=D.not c1;
 let c3:=D.ilen ls;
 let c4:=mW x c3;true=true∧(True→(c2=true→c2=true→c2=true)∧(c2=true→c2=true→c2=true)∧(c2=true→c2=true→c2=true)∧(c2
 = true→c2=true→c2=true)∧(c2=true→c2=true→c2=true)∧(c2=true→c2=true→c2=true)∧(c2=true→True)∧(c2=true→c2=true→c2
 = true)∧(D.and c2 c4=true→D.and c2 c4=true→D.and c2 c4=true)∧(D.and c2 c4=true→D.and c2 c4=true→D.and c2 c4=true)∧(D.and c2 c4=true
 → D.and c2 c4=true→D.and c2 c4=true)∧(D.and c2 c4=true→D.and c2 c4=true→D.and c2 c4=true)∧(D.and c2 c4=true→D.and c2 c4=true→D.and
 c2 c4=true)∧(D.and c2 c4=true→D.ile (0:Int) x)∧(D.and c2 c4=true→D.ilt x c3)∧(D.and c2 c4=true→D.and c2 c4=true→D.and c2 c4=true) ∧
 (D.and c2 c4=true→D.and c2 c4=true→D.and c2 c4=true)∧(D.and c2 c4=true→D.and c2 c4=true→D.and c2 c4=true)∧(D.and c2 c4=true→D.and
 c2 c4=true→D.and c2 c4=true)∧(c2=true→c2=true→c2=true)∧(c2=true→D.and c2 c4=true→D.and c2 c4=true)∧(D.and true c2=true→c2 =
 true)∧D.cnd c1 true (D.cnd c4 (D.eq (D.get ls (D.nat x) (ByteArray.mk (D.nil UInt8).toArray,(0:Int),(0:Int),(0:Int),(0:Int),(0:Int))).snd.fst
 o) false)=gX (cs,ns,os,fs,ls,ks) o x∧True)) :
  evF (mkc KW3) bF 122 [.dat I o,.dat I x,.ipv (.ip N (cs,ns,os,fs,ls,ks))] [] ⟨True,.dat .bool (gX (cs,ns,os,fs,ls,ks) o x),[]⟩:=@of_eq _ _ (by kernel_rfl) hvc
def KW4:Kt:=kOr 85 (bD [.val I,.val I] (fun _=>True) fun (o,x,_)=>.dat .bool (yH o x)) <|
 kOr 84 (bD [.ptr N] (fun _=>True) fun (n,_)=>.fn 122 [.ipv (.ip N n)]) <|
 kOr 122 (bD [.val I,.val I,.bp N] (fun _=>True) fun (o,x,n,_)=>.dat .bool (gX n o x)) <|
 kOr 92 (bD [.row C,.val I,.val I] (fun (c,a,b,_)=>countP c.1 c.2.1 c.2.2 a b) fun (c,a,b,_)=>.dat I (aBY c.2.1 c.2.2 a b)) KW3
def sgA (g:Int→Int→Bool) (t:List (List Int)) (m:Int):Ann:=⟨fun id s=>match id with
 | 4=>some { α:=Int,inv:=fun k=>aLR g t m k,st:=fun k=>put s [(17,.dat I k)],μ:=fun k=>D.nat (D.sub (D.ilen t) k) }
 | 9=>match s.sig.T 17,s.sig.T 26 with
  | .dat (.int .i64) o,.dat (.sl (.int .i64)) row=>some { α:=Int,inv:=fun k=>aCb g row m o k,st:=fun k=>put s [(28,.dat I k)],μ:=fun k=>D.nat (D.sub (D.ilen row) k) }
  | _,_=>none
 | _=>none,fun _ _=>none,fun _ _=>none⟩
theorem aR1 (t:List (List Int)) (m:Int) (n:Net) (hvc :
 let c1:=D.ne (D.ilen t) m;
 let c2:=sgF (gX n) t m;true=true∧(zC t→(c1=true→false=c2∧True)∧(c1=false→(∃ x,aLR (gX n) t m x∧m=m∧n=n∧t=t ∧
 D.ilen t=D.ilen t∧(0:Int)=x∧True)∧∀ (x:Int),
 let c3:=D.lt x (D.ilen t);
 let c4:=D.get t (D.nat x) (D.nil Int);
 let c5:=D.ilen c4;
 let c6:=D.ne c5 m;
 let c7:=D.add x (1:Int);aLR (gX n) t m x→(c3=true→D.ile (0:Int) x∧D.ilt x (D.ilen t)∧(c6=true→false=c2∧True)∧(c6=false→(∃
 x_4,aCb (gX n) c4 m x x_4∧m=m∧n=n∧x=x∧c4=c4∧t=t∧D.ilen t=D.ilen t∧x=x∧c4=c4∧c5=c5∧(0:Int)=x_4∧True)∧∀ (x_4
 : Int),
 let c8:=D.not (gX n x (D.get c4 (D.nat x_4) (0:Int)));
 let c9:=D.add x_4 (1:Int);aCb (gX n) c4 m x x_4→(D.lt x_4 c5=true→D.ile (0:Int) x_4∧D.ilt x_4 c5∧True∧(c8=true→false=c2∧True) ∧
 (c8=false→inR IntKind.i64 c9∧∃ y,aCb (gX n) c4 m x y∧(m=m∧n=n∧x=x∧c4=c4∧t=t∧D.ilen t=D.ilen t∧x=x∧c4=c4∧c5=c5
 ∧ c9=y∧True)∧D.nlt (D.nat (D.sub c5 y)) (D.nat (D.sub c5 x_4))))∧(D.lt x_4 c5=false→inR IntKind.i64 c7∧∃ y,aLR (gX n) t m y∧(m=m∧n =
 n∧t=t∧D.ilen t=D.ilen t∧c7=y∧True)∧D.nlt (D.nat (D.sub (D.ilen t) y)) (D.nat (D.sub (D.ilen t) x)))))∧(c3=false→true=c2∧True)))) :
  evF (mkc KW4) (lvA [(4,[1,2,6,7,8,10,15,16,17,26,27,28]),(9,[1,2,6,7,8,10,15,16,17,26,27,28])] (sgA (gX n) t m)) 83 [.dat M t,.dat I m,.fn 122 [.ipv (.ip N n)]] [] ⟨zC t,.dat .bool (sgF (gX n) t m),[]⟩:=@of_eq _ _ (by kernel_rfl) hvc
theorem aR2 (t:List (List Int)) (m:Int) (hvc :
 let c1:=D.ne (D.ilen t) m;true=true∧(zC t→(c1=true→false=sgF yH t m∧True)∧(c1=false→(∃ x,aLR yH t m x∧m=m∧t=t∧D.ilen t
 = D.ilen t∧(0:Int)=x∧True)∧∀ (x:Int),
 let c2:=D.lt x (D.ilen t);
 let c3:=D.get t (D.nat x) (D.nil Int);
 let c4:=D.ilen c3;
 let c5:=D.ne c4 m;
 let c6:=D.add x (1:Int);aLR yH t m x→(c2=true→D.ile (0:Int) x∧D.ilt x (D.ilen t)∧(c5=true→false=sgF yH t m∧True)∧(c5=false →
 (∃ x_4,aCb yH c3 m x x_4∧m=m∧x=x∧c3=c3∧t=t∧D.ilen t=D.ilen t∧x=x∧c3=c3∧c4=c4∧(0:Int)=x_4∧True)∧∀ (x_4:Int),
 let c7:=D.not (yH x (D.get c3 (D.nat x_4) (0:Int)));
 let c8:=D.add x_4 (1:Int);aCb yH c3 m x x_4→(D.lt x_4 c4=true→D.ile (0:Int) x_4∧D.ilt x_4 c4∧True∧(c7=true→false=sgF yH t m ∧
 True)∧(c7=false→inR IntKind.i64 c8∧∃ y,aCb yH c3 m x y∧(m=m∧x=x∧c3=c3∧t=t∧D.ilen t=D.ilen t∧x=x∧c3=c3∧c4=c4∧c8 =
 y∧True)∧D.nlt (D.nat (D.sub c4 y)) (D.nat (D.sub c4 x_4))))∧(D.lt x_4 c4=false→inR IntKind.i64 c6∧∃ y,aLR yH t m y∧(m=m∧t=t∧D.ilen t
 = D.ilen t∧c6=y∧True)∧D.nlt (D.nat (D.sub (D.ilen t) y)) (D.nat (D.sub (D.ilen t) x)))))∧(c2=false→true=sgF yH t m∧True)))) :
  evF (mkc KW4) (lvA [(4,[1,2,6,7,8,10,15,16,17,26,27,28]),(9,[1,2,6,7,8,10,15,16,17,26,27,28])] (sgA yH t m)) 83 [.dat M t,.dat I m,.fn 85 []] [] ⟨zC t,.dat .bool (sgF yH t m),[]⟩:=@of_eq _ _ (by kernel_rfl) hvc
def KW5:Kt:=kOr 83 (aT7 (bD [.val M,.val I,.fnb 122 N] (fun (t,_,_,_)=>zC t) fun (t,m,n,_)=>.dat .bool (sgF (gX n) t m)) (bD [.val M,.val I,.fn0 85] (fun (t,_,_)=>zC t) fun (t,m,_)=>.dat .bool (sgF yH t m))) KW4
def aVu (n:Net) (p:Plan):Ann:=⟨fun id s=>match id with
 | 7=>some { α:=Int,inv:=fun k=>aHC n p k,st:=fun k=>put s [(74,.dat I k)],μ:=fun k=>D.nat (D.sub (D.ilen p.2.2.2) k) }
 | _=>none,fun _ _=>none,fun _ _=>none⟩
theorem aMc (n:Net) (p:Plan) (hvc :
 let c1:=p.fst;
 let c2:=D.lt c1 (0:Int);
 let c3:=D.not c2;
 let c4:=p.snd;
 let c5:=c4.fst;
 let c6:=D.cnd c2 true (D.le c5 c1);
 let c7:=D.not c6;
 let c8:=D.cnd c6 true (D.gt c5 (600:Int));
 let c9:=D.not c8;
 let c10:=D.sub c5 c1;
 let c11:=D.cnd c8 true (D.gt c10 (60:Int));
 let c12:=c4.snd;
 let c13:=c12.snd;
 let c14:=D.ilen c13;
 let c15:=n.snd.snd.snd;
 let c16:=D.ne c14 (D.ilen c15.snd.snd);
 let c17:=D.not c16;
 let c18:=c12.fst;
 let c19:=D.ilen c15.fst;
 let c20:=D.cnd c16 true (D.not (sgF (gX n) c18 c19));true=true∧(aBV p→(c3=true→c3=true→c3=true)∧(c3=true→c3=true→c3=true) ∧
 (c3=true→c3=true→c3=true)∧(c3=true→c3=true→c3=true)∧(c3=true→c3=true→c3=true)∧(c3=true→c3=true→c3=true)∧(c3 =
 true→c3=true→c3=true)∧(c3=true→c3=true→c3=true)∧(D.and true c3=true→c3=true)∧(c7=true→c7=true→c7=true)∧(c7=true →
 c7=true→c7=true)∧(c7=true→c7=true→c7=true)∧(c7=true→c7=true→c7=true)∧(D.and true c7=true→c7=true)∧(c9=true→c9 =
 true→c9=true)∧(c9=true→c9=true→c9=true)∧(c9=true→c9=true→c9=true)∧(c9=true→c9=true→c9=true)∧(c9=true→c9=true →
 c9=true)∧(c9=true→c9=true→c9=true)∧(c9=true→c9=true→c9=true)∧(c9=true→c9=true→c9=true)∧(c9=true→inR IntKind.i64
 c10)∧(c9=true→c9=true→c9=true)∧(D.and true c9=true→c9=true)∧(c11=true→false=sH n p∧True)∧(c11=false→(c17=true→c17 =
 true→c17=true)∧(c17=true→c17=true→c17=true)∧(c17=true→c17=true→c17=true)∧(c17=true→c17=true→c17=true)∧(c17=true →
 c17=true→c17=true)∧(c17=true→c17=true→c17=true)∧(c17=true→c17=true→c17=true)∧(c17=true→c17=true→c17=true)∧(c17 =
 true→True)∧(c17=true→c17=true→c17=true)∧(c17=true→c17=true→c17=true)∧(c17=true→c17=true→c17=true)∧(c17=true→zC
 c18)∧(c17=true→c17=true→c17=true)∧(D.and true c17=true→c17=true)∧(c20=true→false=sH n p∧True)∧(c20=false→(∃ x,aHC n
 p x∧n=n∧c13=c13∧c14=c14∧(0:Int)=x∧True)∧∀ (x:Int),
 let c21:=D.get c13 (D.nat x) (D.nil (List Int));
 let c22:=D.not (sgF yH c21 c19);
 let c23:=D.add x (1:Int);aHC n p x→(D.lt x c14=true→D.ile (0:Int) x∧D.ilt x c14∧zC c21∧(c22=true→false=sH n p∧True)∧(c22 =
 false→inR IntKind.i64 c23∧∃ y,aHC n p y∧(n=n∧c13=c13∧c14=c14∧c23=y∧True)∧D.nlt (D.nat (D.sub c14 y)) (D.nat (D.sub c14 x)))) ∧
 (D.lt x c14=false→true=sH n p∧True))))) :
  evF (mkc KW5) (lvA [(7,[0,4,5,7,72,73,74])] (aVu n p)) 51 [.ip N n,.ip Pl p] [] ⟨aBV p,.dat .bool (sH n p),[]⟩:=@of_eq _ _ (by kernel_rfl) hvc
theorem aQy (z:Int) (w:List Bool) (h:List Int) (a b:Int):aC Tryz.prog G0 92 [cal z w h,.dat I a,.dat I b] [] ⟨countP z w h a b,.dat I (aBY w h a b),[]⟩:=by
 refine aA (c:=aT6 KR1) aVF aTS hm (aMB z w h a b ⟨rfl,fun ⟨hv,ha,hb⟩=>?_⟩)
 have hc:=aHM hv
 have ha':=okd ha
 have hb':=okd hb
 have hl:(jF w h (a + 1) (b - a)).length≤(b - a).toNat:=by
  unfold jF
  exact Nat.le_trans (List.length_filter_le _ _) (by simp)
 simp only [hv,ha,hb,oN,fA,D.and,D.not,Bool.and_true,Bool.false_or,eq_self,true_and,and_true,imp_self,forall_const,D.gt,D.sub,D.add,D.ofN,D.len,D.fE,decide_eq_true_eq,decide_eq_false_iff_not,Bool.not_true,Bool.not_false,Bool.and_self]
 refine ⟨⟨by omega,by omega⟩,fun hgt=>(if_neg (by omega)).symm,fun hab=>⟨⟨by omega,by omega⟩,⟨by omega,by omega⟩,hc.1,⟨hc,by omega,by omega,by omega,by omega⟩,⟨0,⟨by omega,by omega⟩,rfl,rfl⟩,fun k y hk hy=>?_,fun k hk hlen=>?_⟩⟩
 ·have hy:(jF w h (a + 1) (b - a))[k]?=some y:=hy
  have:=(List.getElem?_eq_some_iff.1 hy).1
  obtain ⟨k1,k2⟩:=hk
  refine ⟨⟨by omega,by omega⟩,k + 1,⟨by omega,k2⟩,rfl,by omega⟩
 ·rw [hlen];exact (if_pos (by omega)).symm
theorem aSX (o x:Int):aC Tryz.prog G0 85 [.dat I o,.dat I x] [] ⟨True,.dat .bool (yH o x),[]⟩:=by
 refine aA (c:=mkc KW3) aRO cO hm (aPQ o x ⟨rfl,fun _=>⟨fun h _=>h,fun h=>by simpa [D.and] using h,?_,trivial⟩⟩)
 unfold yH aDP
 simp only [D.cnd,D.ge,D.le,ge_iff_le]
 by_cases h:-1≤x <;> simp [h]
theorem aQe (n:Net):aC Tryz.prog G0 84 [.ip N n] [] ⟨True,.fn 122 [.ipv (.ip N n)],[]⟩ :=
 aA (c:=mkc KW3) aRO cO hm (aMv n ⟨rfl,fun _=>⟨rfl,trivial⟩⟩)
theorem aQf (o x:Int) (cs:LC) (ns os:LB) (fs:List Off) (ls:List Line) (ks:List Cla):aC Tryz.prog G0 122 [.dat I o,.dat I x,.ipv (.ip N (cs,ns,os,fs,ls,ks))] [] ⟨True,.dat .bool (gX (cs,ns,os,fs,ls,ks) o x),[]⟩:=by
 refine aA (c:=mkc KW3) aRO cO hm (aMw o x cs ns os fs ls ks ⟨rfl,fun _=>?_⟩)
 have e:D.cnd (D.eq x (-1)) true (D.cnd (mW x (D.ilen ls)) (D.eq (D.get ls (D.nat x) (ByteArray.mk (D.nil UInt8).toArray,(0:Int),(0:Int),(0:Int),(0:Int),(0:Int))).snd.fst o) false)=gX (cs,ns,os,fs,ls,ks) o x:=by
  unfold gX
  rw [oN,fA]
  congr 1
 rw [e]
 simp only [D.and,D.not,Bool.true_and,eq_self,true_and,and_true,imp_self,implies_true,Bool.not_eq_true',Bool.and_eq_true,D.eq,D.ilen,D.ile,D.ilt,beq_eq_false_iff_ne]
 unfold mW
 simp only [decide_eq_true_eq]
 exact ⟨fun h=>h.2.1,fun h=>h.2.2⟩
theorem aUh:aQ Tryz.prog G0 KW4:=aJ (aG fun (o,x,_)=>aSX o x) <| aJ (aG fun (n,_)=>aQe n) <| aJ (aG fun (o,x,(cs,ns,os,fs,ls,ks),_)=>aQf o x cs ns os fs ls ks) <|
 aJ (aG fun ((z,w,h),a,b,_)=>aQy z w h a b) aRO
theorem aEq {g:Int→Int→Bool} {t:List (List Int)} {m:Int} (hl:(t.length:Int)=m):sgF g t m=true↔∀ i:Nat,(i:Int) < t.length→sgR g m i (t.getD i [])=true:=by
 unfold sgF
 simp only [Bool.and_eq_true,decide_eq_true_eq,List.all_eq_true,List.mem_range]
 exact ⟨fun h i hi=>h.2 i (by omega),fun h=>⟨hl,fun i hi=>h i (by omega)⟩⟩
theorem aFW {g:Int→Int→Bool} {m o:Int} {row:List Int} (hl:(row.length:Int)=m):sgR g m o row=true↔∀ i:Nat,(i:Int) < row.length→g o (row.getD i 0)=true:=by
 unfold sgR
 simp only [Bool.and_eq_true,decide_eq_true_eq,List.all_eq_true]
 refine ⟨fun h i hi=>h.2 _ ?_,fun h=>⟨hl,fun x hx=>?_⟩⟩
 ·rw [List.getD_eq_getElem?_getD,List.getElem?_eq_getElem (by omega),Option.getD_some];exact List.getElem_mem _
 ·obtain ⟨i,hi,rfl⟩:=List.mem_iff_getElem.1 hx
  have:=h i (by omega)
  rw [List.getD_eq_getElem?_getD,List.getElem?_eq_getElem hi,Option.getD_some] at this
  exact this
theorem aJZ (g:Int→Int→Bool) {t:List (List Int)} {m:Int} (hf:zC t):((t.length:Int)≠m→false=sgF g t m)∧((t.length:Int)=m→aLR g t m 0∧∀ x:Int,aLR g t m x →
  (x < t.length→0≤x∧x < t.length∧(((t.getD x.toNat []).length:Int)≠m→false=sgF g t m)∧(((t.getD x.toNat []).length:Int)=m→aCb g (t.getD x.toNat []) m x 0∧∀ y:Int,aCb g (t.getD x.toNat []) m x y →
   (y < (t.getD x.toNat []).length→0≤y∧y < (t.getD x.toNat []).length∧(g x ((t.getD x.toNat []).getD y.toNat 0)=false→false=sgF g t m) ∧
    (g x ((t.getD x.toNat []).getD y.toNat 0)=true→inR .i64 (y + 1)∧∃ z,aCb g (t.getD x.toNat []) m x z∧y + 1=z∧(((t.getD x.toNat []).length:Int) - z).toNat < (((t.getD x.toNat []).length:Int) - y).toNat)) ∧
   (¬ y < (t.getD x.toNat []).length→inR .i64 (x + 1)∧∃ z,aLR g t m z∧x + 1=z∧((t.length:Int) - z).toNat < ((t.length:Int) - x).toNat)))∧(¬ x < t.length→true=sgF g t m)):=by
 have hct:∀ x:Int,0≤x→((x.toNat:Nat):Int)=x:=fun x h=>by omega
 refine ⟨fun h=>?_,fun he=>⟨⟨Int.le_refl _,by omega,he,fun i h=>by omega⟩,fun x ⟨x0,x1,_,x3⟩=>⟨fun hx=>?_,fun hx=>?_⟩⟩⟩
 ·unfold sgF;rw [decide_eq_false h];rfl
 ·have hr:=hf.2 _ (getD_mem (l:=t) (i:=x.toNat) (d:=[]) (by omega))
  have hfl:=hf.1
  refine ⟨x0,hx,fun h=>?_,fun hm=>⟨⟨Int.le_refl _,by omega,hm,fun i h=>by omega⟩,fun y ⟨y0,y1,_,y3⟩=>⟨fun hy=>⟨y0,hy,fun h=>?_,fun h=>?_⟩,fun hy=>?_⟩⟩⟩
  ·refine (Bool.eq_false_iff.2 fun ht=>h ?_).symm
   have h2:=(aEq he).1 ht x.toNat (by omega)
   unfold sgR at h2
   simp only [Bool.and_eq_true,decide_eq_true_eq] at h2
   exact h2.1
  ·refine (Bool.eq_false_iff.2 fun ht=>?_).symm
   have h2:=(aFW hm).1 ((aEq he).1 ht x.toNat (by omega)) y.toNat (by omega)
   rw [hct x x0,h] at h2;cases h2
  ·refine ⟨jI (by omega),y + 1,⟨by omega,by omega,hm,fun i hi=>?_⟩,rfl,by omega⟩
   by_cases h3:(i:Int) < y
   ·exact y3 i h3
   ·have:i=y.toNat:=by omega
    subst this;exact h
  ·refine ⟨jI (by omega),x + 1,⟨by omega,by omega,he,fun i hi=>?_⟩,rfl,by omega⟩
   by_cases h3:(i:Int) < x
   ·exact x3 i h3
   ·have:i=x.toNat:=by omega
    subst this
    exact (aFW hm).2 fun j hj=>by rw [hct x x0];exact y3 j (by omega)
 ·exact ((aEq he).2 fun i hi=>x3 i (by omega)).symm
theorem aUB (t:List (List Int)) (m:Int):aC Tryz.prog G0 83 [.dat M t,.dat I m,.fn 85 []] [] ⟨zC t,.dat .bool (sgF yH t m),[]⟩:=by
 refine aA (c:=mkc KW4) aUh cO hm (aR2 t m ⟨rfl,fun hf=>?_⟩)
 simp only [D.not,eq_self,true_and,and_true,Bool.not_eq_true',Bool.not_eq_false',exists_eq_right',D.nil,D.ne,D.lt,D.ilen,D.ile,D.ilt,D.nlt,D.sub,D.add,D.nat,D.get,decide_eq_true_eq,decide_eq_false_iff_not,bne_iff_ne,bne_eq_false_iff_eq]
 exact aJZ yH hf
theorem aUA (t:List (List Int)) (m:Int) (n:Net):aC Tryz.prog G0 83 [.dat M t,.dat I m,.fn 122 [.ipv (.ip N n)]] [] ⟨zC t,.dat .bool (sgF (gX n) t m),[]⟩:=by
 refine aA (c:=mkc KW4) aUh cO hm (aR1 t m n ⟨rfl,fun hf=>?_⟩)
 simp only [D.not,eq_self,true_and,and_true,Bool.not_eq_true',Bool.not_eq_false',exists_eq_right',D.nil,D.ne,D.lt,D.ilen,D.ile,D.ilt,D.nlt,D.sub,D.add,D.nat,D.get,decide_eq_true_eq,decide_eq_false_iff_not,bne_iff_ne,bne_eq_false_iff_eq]
 exact aJZ (gX n) hf
theorem aVZ:aQ Tryz.prog G0 KW5:=aJ (aKJ (aG fun (t,m,n,_)=>aUA t m n) (aG fun (t,m,_)=>aUB t m)) aUh
theorem aPZ (n:Net) (p:Plan):aC Tryz.prog G0 51 [.ip N n,.ip Pl p] [] ⟨aBV p,.dat .bool (sH n p),[]⟩:=by
 refine aA (c:=mkc KW5) aVZ cO hm (aMc n p ⟨rfl,fun ⟨a3,a4,a5⟩=>?_⟩)
 simp only [oN,D.and,D.not,Bool.true_and,eq_self,true_and,and_true,imp_self,implies_true,Bool.not_eq_true',Bool.or_eq_true,Bool.or_eq_false_iff,Bool.not_eq_false',exists_eq_right',D.nil,D.ne,D.lt,D.gt,D.le,D.ilen,D.ile,D.ilt,D.nlt,D.sub,D.add,D.nat,D.get,decide_eq_true_eq,decide_eq_false_iff_not,bne_iff_ne,bne_eq_false_iff_eq]
 have eT:sgF (gX n) p.2.2.1 n.2.2.2.1.length=aLQ n p.2.2.1:=rfl
 rw [eT]
 have e1:∀ i:Nat,(i:Int) < p.2.2.2.length→p.2.2.2.getD i [] ∈ p.2.2.2:=fun i hi=>getD_mem (by omega)
 have eD:(p.2.2.2.length:Int)=n.2.2.2.2.2.length→(aFm n p=true↔∀ i:Nat,(i:Int) < p.2.2.2.length→sgF yH (p.2.2.2.getD i []) n.2.2.2.1.length=true):=fun hl=>by
  unfold aFm
  simp only [Bool.and_eq_true,decide_eq_true_eq,List.all_eq_true]
  refine ⟨fun h i hi=>h.2 _ (e1 i hi),fun h=>⟨hl,fun x hx=>?_⟩⟩
  obtain ⟨i,hi,rfl⟩:=List.mem_iff_getElem.1 hx
  have:=h i (by omega)
  rw [List.getD_eq_getElem?_getD,List.getElem?_eq_getElem hi,Option.getD_some] at this
  exact this
 refine ⟨fun h=>jI (by omega),fun h=>?_,fun h=>⟨fun _=>a3,fun h2=>?_,fun ⟨h2,h3⟩=>?_⟩⟩
 ·unfold sH aBg
  rw [decide_eq_false (by omega)];rfl
 ·unfold sH aFm
  rcases h2 with h2 | h2
  ·rw [decide_eq_false h2];simp
  ·rw [h2];simp
 ·have hR:aBg p=true:=by unfold aBg;exact decide_eq_true (by omega)
  refine ⟨⟨Int.le_refl _,by omega,hR,h3,h2,fun i hi=>by omega⟩,fun x ⟨x0,x1,_,_,_,x5⟩=>⟨fun hx=>⟨x0,hx,a5 _ (getD_mem (by omega)),fun h4=>?_,fun h4=>?_⟩,fun hx=>?_⟩⟩
  ·refine (Bool.eq_false_iff.2 fun ht=>?_).symm
   unfold sH at ht
   simp only [Bool.and_eq_true] at ht
   have:=(eD h2).1 ht.2.2 x.toNat (by omega)
   rw [h4] at this;cases this
  ·refine ⟨jI (by omega),x + 1,⟨by omega,by omega,hR,h3,h2,fun i hi=>?_⟩,rfl,by omega⟩
   by_cases h5:(i:Int) < x
   ·exact x5 i h5
   ·have:i=x.toNat:=by omega
    subst this;exact h4
  ·unfold sH
   rw [hR,h3,(eD h2).2 fun i hi=>x5 i (by omega)];rfl
end Go.Eng.Sv
