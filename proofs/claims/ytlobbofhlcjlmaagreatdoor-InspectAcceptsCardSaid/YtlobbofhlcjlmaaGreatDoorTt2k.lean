/- PeTt1k, PeTt2k -/
import Derived.Test.YtlobbofhlcjlmaaGreatDoorH22
import Derived.Test.YtlobbofhlcjlmaaGreatDoorSvSk
set_option linter.unusedSimpArgs false
set_option linter.unusedVariables false
set_option maxRecDepth 100000
noncomputable section
namespace Go.Eng.Sv
open Go.Proofs
def aLT (a b:Int):Int:=a % b
def kN (d:Int):Bool:=decide (-1000000≤d∧d≤1000000)
def aAx (d:Int):Prop:=-1000000000000≤d∧d≤1000000000000
def aF9 (b:Int):Prop:=0 < b∧b≤1000000
def rX (z:Int) (w:List Bool) (h:List Int) (t:Int):Prop:=bM z w h=true∧-2000000000≤t∧t≤2000000000
def aBm (z:Int) (w:List Bool) (h:List Int) (d m:Int):Prop:=bM z w h=true∧kN d=true∧0≤m∧m < 1440
def nT (z t:Int):Int:=(t + z) / 1440
def aLU (z t:Int):Int:=(t + z) % 1440
def wE (z d m:Int):Int:=d * 1440 + m - z
theorem aR4 (a b:Int) (hvc :
 let c1:=D.lt (D.rem a b) (0:Int);
 let c2:=D.add (D.rem a b) b;true=true∧(aAx a∧aF9 b→D.ine b (0:Int)∧(c1=true→inR IntKind.i64 c2∧c2=aLT a b∧True)∧(c1=false →
 D.rem a b=aLT a b∧True))) :
  evF (mkc K19) bF 76 [.dat I a,.dat I b] [] ⟨aAx a∧aF9 b,.dat I (aLT a b),[]⟩:=@of_eq _ _ (by kernel_rfl) hvc
theorem aH3 (a:Int) (hvc :
 let c1:=D.ge a (-1000000:Int);true=true∧(True→(c1=true→c1=true→c1=true)∧(D.and true c1=true→c1=true)∧D.cnd c1 (D.le a (1000000 :
 Int)) false=kN a∧True)) :
  evF (mkc K19) bF 77 [.dat I a] [] ⟨True,.dat .bool (kN a),[]⟩:=@of_eq _ _ (by kernel_rfl) hvc
def KT1:Kt:=kOr 76 (bD [.val I,.val I] (fun (a,b,_)=>aAx a∧aF9 b) fun (a,b,_)=>.dat I (aLT a b)) <|
 kOr 77 (bD [.val I] (fun _=>True) fun (a,_)=>.dat .bool (kN a)) K19
theorem aMu (z:Int) (w:List Bool) (h:List Int) (t:Int) (hvc :
 let c1:=D.not (bM z w h);
 let c2:=D.not c1;
 let c3:=D.cnd c1 true (D.lt t (-2000000000:Int));
 let c4:=D.not c3;
 let c5:=D.cnd c3 true (D.gt t (2000000000:Int));
 let c6:=aLT (D.add t z) (1440:Int);
 let c7:=D.sub (D.add t z) c6;
 let c8:=D.quo c7 (1440:Int);true=true∧(rX z w h t→True∧(c2=true→c2=true→c2=true)∧(D.and true c2=true→c2=true)∧(c4=true →
 c4=true→c4=true)∧(D.and true c4=true→c4=true)∧(c5=true→(0:Int)=nT z t∧(0:Int)=aLU z t∧True)∧(c5=false→inR IntKind.i64
 (D.add t z)∧(aAx (D.add t z)∧aF9 (1440:Int))∧inR IntKind.i64 c7∧D.ine (1440:Int) (0:Int)∧inR IntKind.i64 c8∧c8=nT z t∧c6=aLU z t
 ∧ True))) :
  evF (mkc KT1) bF 41 [cal z w h,.dat I t] [] ⟨rX z w h t,.tup [.dat I (nT z t),.dat I (aLU z t)],[]⟩:=@of_eq _ _ (by kernel_rfl) hvc
theorem aPz (z:Int) (w:List Bool) (h:List Int) (d m:Int) (hvc :
 let c1:=D.not (bM z w h);
 let c2:=D.not c1;
 let c3:=D.cnd c1 true (D.not (kN d));
 let c4:=D.not c3;
 let c5:=D.cnd c3 true (D.lt m (0:Int));
 let c6:=D.not c5;
 let c7:=D.cnd c5 true (D.ge m (1440:Int));
 let c8:=D.mul d (1440:Int);
 let c9:=D.add c8 m;
 let c10:=D.sub c9 z;true=true∧(aBm z w h d m→True∧(c2=true→c2=true→c2=true)∧(c2=true→True)∧(c2=true→c2=true→c2=true) ∧
 (D.and true c2=true→c2=true)∧(c4=true→c4=true→c4=true)∧(D.and true c4=true→c4=true)∧(c6=true→c6=true→c6=true)∧(D.and
 true c6=true→c6=true)∧(c7=true→(0:Int)=wE z d m∧True)∧(c7=false→inR IntKind.i64 c8∧inR IntKind.i64 c9∧inR IntKind.i64 c10∧c10
 = wE z d m∧True))) :
  evF (mkc KT1) bF 42 [cal z w h,.dat I d,.dat I m] [] ⟨aBm z w h d m,.dat I (wE z d m),[]⟩:=@of_eq _ _ (by kernel_rfl) hvc
def KT2:Kt:=kOr 41 (bD [.row C,.val I] (fun (c,t,_)=>rX c.1 c.2.1 c.2.2 t) fun (c,t,_)=>.tup [.dat I (nT c.1 t),.dat I (aLU c.1 t)]) <|
 kOr 42 (bD [.row C,.val I,.val I] (fun (c,d,m,_)=>aBm c.1 c.2.1 c.2.2 d m) fun (c,d,m,_)=>.dat I (wE c.1 d m)) KT1
theorem aVc (a b:Int):aC Tryz.prog G0 76 [.dat I a,.dat I b] [] ⟨aAx a∧aF9 b,.dat I (aLT a b),[]⟩:=by
 refine aA (c:=mkc K19) aVI cO hm (aR4 a b ⟨rfl,fun ⟨⟨h1,h2⟩,h3,h4⟩=>?_⟩)
 have e:=Int.tmod_eq_emod (a:=a) (b:=b)
 have e1:=Int.emod_nonneg a (show b≠0 by omega)
 have e2:=Int.emod_lt_of_pos a h3
 have e3:(b.natAbs:Int)=b:=Int.natAbs_of_nonneg (by omega)
 simp only [D.ine,D.lt,D.rem,D.add,aLT,inR,decide_eq_true_eq,decide_eq_false_iff_not]
 by_cases hc:0≤a∨b ∣ a
 ·rw [if_pos hc] at e
  refine ⟨by omega,fun h=>by omega,fun h=>⟨by omega,trivial⟩⟩
 ·rw [if_neg hc,e3] at e
  have hz:a % b≠0:=fun h0=>hc (.inr (Int.dvd_of_emod_eq_zero h0))
  refine ⟨by omega,fun h=>⟨by omega,by omega,trivial⟩,fun h=>by omega⟩
theorem aJ6 (a:Int):aC Tryz.prog G0 77 [.dat I a] [] ⟨True,.dat .bool (kN a),[]⟩:=by
 refine aA (c:=mkc K19) aVI cO hm (aH3 a ⟨rfl,fun _=>⟨fun h _=>h,fun h=>by simpa [D.and] using h,?_,trivial⟩⟩)
 rw [fA];simp [kN,D.ge,D.le]
theorem aVE:aQ Tryz.prog G0 KT1:=aJ (aG fun (a,b,_)=>aVc a b) <| aJ (aG fun (a,_)=>aJ6 a) aVI
theorem aQw (z:Int) (w:List Bool) (h:List Int) (t:Int):aC Tryz.prog G0 41 [cal z w h,.dat I t] [] ⟨rX z w h t,.tup [.dat I (nT z t),.dat I (aLU z t)],[]⟩:=by
 refine aA (c:=mkc KT1) aVE cO hm (aMu z w h t ⟨rfl,fun ⟨hv,h1,h2⟩=>?_⟩)
 obtain ⟨⟨v1,v2,v3,v4⟩,_⟩:=fJ.1 hv
 have a1:¬ t < -2000000000:=by omega
 have a2:¬ t > 2000000000:=by omega
 simp only [hv,a1,a2,fA,D.and,D.not,eq_self,true_and,and_true,imp_self,Bool.not_true,Bool.not_false,D.lt,D.gt,decide_false,Bool.false_eq_true,Bool.and_true,Bool.and_self,false_implies,forall_const,D.ine,D.sub,D.add,D.quo,inR,aLT,nT,aLU,aAx,aF9]
 have e0:=Int.emod_nonneg (t + z) (show (1440:Int)≠0 by omega)
 have e1:=Int.emod_lt_of_pos (t + z) (show (0:Int) < 1440 by omega)
 have e3:t + z - (t + z) % 1440=1440 * ((t + z) / 1440):=by omega
 rw [e3,Int.mul_tdiv_cancel_left _ (by omega)]
 omega
theorem aS6 (z:Int) (w:List Bool) (h:List Int) (d m:Int):aC Tryz.prog G0 42 [cal z w h,.dat I d,.dat I m] [] ⟨aBm z w h d m,.dat I (wE z d m),[]⟩:=by
 refine aA (c:=mkc KT1) aVE cO hm (aPz z w h d m ⟨rfl,fun ⟨hv,hd,h1,h2⟩=>?_⟩)
 obtain ⟨⟨v1,v2,v3,v4⟩,_⟩:=fJ.1 hv
 have a1:¬ m < 0:=by omega
 have a2:¬ m ≥ 1440:=by omega
 simp only [hv,hd,a1,a2,fA,D.and,D.not,eq_self,true_and,and_true,imp_self,Bool.not_true,Bool.not_false,D.lt,D.ge,decide_false,Bool.false_eq_true,Bool.and_true,Bool.and_self,false_implies,forall_const,D.sub,D.add,D.mul,inR,wE]
 unfold kN at hd
 have:=of_decide_eq_true hd
 omega
theorem aVD:aQ Tryz.prog G0 KT2:=aJ (aG fun ((z,w,h),t,_)=>aQw z w h t) <| aJ (aG fun ((z,w,h),d,m,_)=>aS6 z w h d m) aVE
end Go.Eng.Sv

set_option maxRecDepth 100000
noncomputable section
namespace Go.Eng.Sv
open Go.Proofs
def aFb (h:List Int) (d i:Int):Bool:=decide (h.getD i.toNat 0 ≥ d)
def aLW (h:List Int) (i:Int):Prop:=0≤i∧i < h.length
def mD (g:Int→Bool) (n:Int):Int:=(((List.range n.toNat).filter fun (i:Nat)=>!g (i:Int)).length:Int)
def pJ (g:Int→Bool) (pre:Int→Prop) (n:Int):Prop:=0≤n∧n≤1000000∧(∀ i,0≤i→i < n→pre i)∧∀ i j,0≤i→i≤j→j < n→g i=true→g j=true
def tV (g:Int→Bool) (n i j:Int):Prop:=0≤i∧i≤j∧j≤n∧(0 < i→g (i - 1)=false)∧(j < n→g j=true)
def atS (h:List Int) (d:Int):Int:=mD (aFb h d) h.length
def kD (w:List Bool) (h:List Int) (d:Int):Bool:=w.getD (d % 7).toNat false && !h.contains d
def p1 (x:Int×Int):Int:=x.1
def p2 (x:Int×Int):Int:=x.2
def aDW (w:List Bool) (h:List Int):Prop:=w.length=7∧h.length≤40∧∀ i:Nat,i + 1 < h.length→h.getD i 0 < h.getD (i + 1) 0
theorem aUs (i d z:Int) (w:List Bool) (h:List Int) (hvc :
 true=true∧(aLW h i→D.ile (0:Int) i∧D.ilt i (D.ilen h)∧D.ge (D.get h (D.nat i) (0:Int)) d=aFb h d i∧True)) :
  evF (mkc KT2) bF 130 [.dat I i,.ip C (z,w,h),.ip I d] [] ⟨aLW h i,.dat .bool (aFb h d i),[]⟩:=@of_eq _ _ (by kernel_rfl) hvc
def aQr (g:Int→Bool) (n:Int):Ann:=⟨fun id s=>match id with
 | 2=>some { α:=Int×Int,inv:=fun x=>tV g n (p1 x) (p2 x),st:=fun x=>put s [(5,.dat I (p1 x)),(6,.dat I (p2 x))],μ:=fun x=>D.nat (D.sub (p2 x) (p1 x)) }
 | _=>none,fun _ _=>none,fun _ _=>none⟩
theorem aJq (n:Int) (pre:Int→Prop) (g:Int→Bool) (hvc :
 true=true∧(pJ g pre n→(∃ x,tV g n (p1 x) (p2 x)∧AV.clo1 (Ty.int IntKind.i64) Ty.bool pre g=AV.clo1 (Ty.int IntKind.i64)
 Ty.bool pre g∧(0:Int)=(0:Int)∧(0:Int)=p1 x∧n=p2 x∧True)∧∀ (x:Int×Int),
 let c1:=D.lt (p1 x) (p2 x);
 let c2:=D.add (p1 x) (p2 x);
 let c3:=D.shr c2 (1:Int);
 let c4:=D.not (g c3);
 let c5:=D.add c3 (1:Int);tV g n (p1 x) (p2 x)→(c1=true→inR IntKind.i64 c2∧inR IntKind.u64 c2∧D.ile (0:Int) (1:Int)∧D.nle (D.nat (1 :
 Int)) (64)∧inR IntKind.i64 c3∧pre c3∧(c4=true→inR IntKind.i64 c5∧∃ y,tV g n (p1 y) (p2 y)∧(AV.clo1 (Ty.int IntKind.i64) Ty.bool pre g =
 AV.clo1 (Ty.int IntKind.i64) Ty.bool pre g∧(0:Int)=(0:Int)∧c5=p1 y∧p2 x=p2 y∧True)∧D.nlt (D.nat (D.sub (p2 y) (p1 y))) (D.nat (D.sub (p2 x)
 (p1 x))))∧(c4=false→∃ y,tV g n (p1 y) (p2 y)∧(AV.clo1 (Ty.int IntKind.i64) Ty.bool pre g=AV.clo1 (Ty.int IntKind.i64) Ty.bool pre g∧(0 :
 Int)=(0:Int)∧p1 x=p1 y∧c3=p2 y∧True)∧D.nlt (D.nat (D.sub (p2 y) (p1 y))) (D.nat (D.sub (p2 x) (p1 x)))))∧(c1=false→p1 x=mD g n ∧
 True))) :
  evF (mkc KT2) (lvA [(2,[1,4,5,6,7])] (aQr g n)) 129 [.dat I n,.clo1 I .bool pre g] [] ⟨pJ g pre n,.dat I (mD g n),[]⟩:=@of_eq _ _ (by kernel_rfl) hvc
def KT3:Kt:=fun f args m=>match f,args,m with
 | 130,[.dat (.int .i64) i,.ip (.pair (.int .i64) (.pair (.sl .bool) (.sl (.int .i64)))) c,.ip (.int .i64) d],[]=>some ⟨aLW c.2.2 i,.dat .bool (aFb c.2.2 d i),[]⟩
 | 129,[.dat (.int .i64) n,.fn 130 [.ip (.pair (.int .i64) (.pair (.sl .bool) (.sl (.int .i64)))) c,.ip (.int .i64) d]],[]=>some ⟨pJ (aFb c.2.2 d) (aLW c.2.2) n,.dat I (mD (aFb c.2.2 d) n),[]⟩
 | _,_,_=>KT2 f args m
def aUo:Ann:=⟨fun _ _=>none,fun id s=>match id with
 | 3=>some (frz (allNames s) s)
 | _=>none,fun _ _=>none⟩
theorem aL9 (d z:Int) (w wk:List Bool) (h:List Int) (hvc :
 let c1:=aLT d (7:Int);
 let c2:=D.get wk (D.nat c1) false;
 let c3:=D.not c2;
 let c4:=(z,w,h);
 let c5:=mD (aFb h d) (D.ilen h);
 let c6:=D.eq c5 (D.ilen h);
 let c7:=D.not c6;true=true∧(aDW wk h∧aAx d→(aAx d∧aF9 (7:Int))∧D.len wk=7∧D.ile (0:Int) c1∧D.ilt c1 (D.ofN (7))∧(c3=true →
 false=kD wk h d∧True)∧(c3=false→d=d∧wk=wk∧c4=c4∧d=d∧false=false∧d=d∧c1=c1∧c2=c2∧c2=c2∧c3=c3∧pJ (aFb
 h d) (aLW h) (D.ilen h)∧(c7=true→c7=true→c7=true)∧(c7=true→c7=true→c7=true)∧(c7=true→c7=true→c7=true)∧(c7=true→D.ile
 (0:Int) c5)∧(c7=true→D.ilt c5 (D.ilen h))∧(c7=true→c7=true→c7=true)∧(c7=true→c7=true→c7=true)∧(c7=true→c7=true→c7 =
 true)∧(D.and true c7=true→c7=true)∧D.cnd c6 true (D.ne (D.get h (D.nat c5) (0:Int)) d)=kD wk h d∧True))) :
  evF (mkc KT3) aUo 128 [.dat I d,.ia .bool wk,.ip C (z,w,h)] [] ⟨aDW wk h∧aAx d,.dat .bool (kD wk h d),[]⟩:=@of_eq _ _ (by kernel_rfl) hvc
theorem aJn (z:Int) (w:List Bool) (h:List Int) (hvc :
 let c1:=D.copy (D.aIj (7) false) w;
 let c2:=(z,w,h);true=true∧(D.len w=7→0=0∧7=7∧D.len (D.aIj (7) false)=7∧D.len (D.aIj (7) false)=7∧D.len c1=7∧0=0∧c1=w ∧
 c2=c2∧True)) :
  evF (mkc KT3) bF 102 [cal z w h] [] ⟨D.len w=7,.fn 128 [.ia .bool w,.ip C (z,w,h)],[]⟩:=@of_eq _ _ (by kernel_rfl) hvc
def KT4:Kt:=fun f args m=>match f,args,m with
 | 128,[.dat (.int .i64) d,.ia .bool w,.ip (.pair (.int .i64) (.pair (.sl .bool) (.sl (.int .i64)))) c],[]=>some ⟨aDW w c.2.2∧aAx d,.dat .bool (kD w c.2.2 d),[]⟩
 | 102,[.agg [.dat (.int .i64) z,.dat (.sl .bool) w,.dat (.sl (.int .i64)) h]],[]=>some ⟨D.len w=7,.fn 128 [.ia .bool w,.ip C (z,w,h)],[]⟩
 | _,_,_=>KT3 f args m
theorem aO6 {h:List Int} (hi:∀ i:Nat,i + 1 < h.length→h.getD i 0 < h.getD (i + 1) 0):∀ (k i:Nat),i + k + 1 < h.length→h.getD i 0 < h.getD (i + k + 1) 0
 | 0,i,hl=>hi i hl
 | k + 1,i,hl=>by
  have h1:=aO6 hi k i (by omega)
  have h2:=hi (i + k + 1) (by omega)
  have e:i + (k + 1) + 1=i + k + 1 + 1:=by omega
  rw [e];omega
theorem aGw {h:List Int} (hi:∀ i:Nat,i + 1 < h.length→h.getD i 0 < h.getD (i + 1) 0) {i j:Nat} (hij:i < j) (hj:j < h.length):h.getD i 0 < h.getD j 0:=by
 have:=aO6 hi (j - i - 1) i (by omega)
 rwa [show i + (j - i - 1) + 1=j by omega] at this
theorem vV {g:Int→Bool} {i:Nat}:∀ N:Nat,(∀ x:Nat,x < N→g (x:Int)=decide (i≤x))→((List.range N).filter fun (x:Nat)=>!g (x:Int)).length=min i N
 | 0,_=>by simp
 | N + 1,h=>by
  rw [List.range_succ,List.filter_append,List.length_append,vV N fun x hx=>h x (by omega)]
  by_cases hN:i≤N
  ·have e:g (N:Int)=true:=by rw [h N (by omega)];simpa using hN
   simp only [List.filter_cons,e,Bool.not_true,List.filter_nil,Bool.false_eq_true,if_false,List.length_nil]
   omega
  ·have e:g (N:Int)=false:=by rw [h N (by omega)];simpa using hN
   simp only [List.filter_cons,e,Bool.not_false,List.filter_nil,if_true,List.length_cons,List.length_nil]
   omega
theorem search_end {g:Int→Bool} {pre:Int→Prop} {n i j:Int} (hp:pJ g pre n) (ht:tV g n i j) (he:¬ i < j):i=mD g n:=by
 obtain ⟨p0,_,_,p3⟩:=hp
 obtain ⟨t0,t1,t2,t3,t4⟩:=ht
 have hij:i=j:=by omega
 subst hij
 have key:∀ x:Nat,x < n.toNat→g (x:Int)=decide (i.toNat≤x):=fun x hx=>by
  by_cases hxi:i.toNat≤x
  ·rw [decide_eq_true hxi]
   exact p3 i x t0 (by omega) (by omega) (t4 (by omega))
  ·rw [decide_eq_false hxi]
   cases hg:g (x:Int) with
   | false=>rfl
   | true =>
    have:=p3 x (i - 1) (by omega) (by omega) (by omega) hg
    rw [t3 (by omega)] at this
    cases this
 unfold mD
 rw [vV _ key]
 omega
theorem aNb (n:Int) (pre:Int→Prop) (g:Int→Bool):aC Tryz.prog G0 129 [.dat I n,.clo1 I .bool pre g] [] ⟨pJ g pre n,.dat I (mD g n),[]⟩:=by
 refine aA (c:=mkc KT2) aVD cO hm (aJq n pre g ⟨rfl,fun hp=>?_⟩)
 have hp0:=hp.1
 have hp1:=hp.2.1
 have hsh:∀ x:Int,0≤x→D.shr x 1=x / 2:=fun x hx=>by
  simp only [D.shr]
  rw [show (2:Int) ^ (1:Int).toNat=2 by decide,Int.fdiv_eq_ediv_of_nonneg _ (by omega)]
 simp only [D.not,eq_self,true_and,and_true,Bool.not_eq_true',Bool.not_eq_false',D.lt,D.ile,D.nle,D.sub,D.add,D.nlt,D.nat,decide_eq_true_eq,decide_eq_false_iff_not]
 refine ⟨⟨(0,n),⟨Int.le_refl _,hp0,Int.le_refl _,fun h=>absurd h (by simp only [p1];omega),fun h=>absurd h (by simp only [p2];omega)⟩,rfl,rfl⟩,fun x hx=>⟨fun hlt=>?_,fun hge=>search_end hp hx hge⟩⟩
 obtain ⟨i,j⟩:=x
 obtain ⟨t0,t1,t2,t3,t4⟩:=hx
 simp only [p1,p2] at t0 t1 t2 t3 t4 hlt ⊢
 rw [hsh (i + j) (by omega)]
 simp only [inR]
 refine ⟨by omega,by omega,by omega,by decide,by omega,hp.2.2.1 _ (by omega) (by omega),fun hg=>⟨by omega,((i + j) / 2 + 1,j),⟨by simp only;omega,by simp only;omega,t2,fun _=>?_,t4⟩,⟨rfl,rfl⟩,by simp only;omega⟩,
  fun hg=>⟨(i,(i + j) / 2),⟨t0,by simp only;omega,by simp only;omega,t3,fun _=>hg⟩,⟨rfl,rfl⟩,by simp only;omega⟩⟩
 simp only [Int.add_sub_cancel]
 exact hg
theorem aVR (i d:Int) (c:C.den):aC Tryz.prog G0 130 [.dat I i,.ip C c,.ip I d] [] ⟨aLW c.2.2 i,.dat .bool (aFb c.2.2 d i),[]⟩ :=
 aA (c:=mkc KT2) aVD cO hm (aUs i d c.1 c.2.1 c.2.2 ⟨rfl,fun h=>⟨h.1,h.2,rfl,trivial⟩⟩)
theorem aJ3 (n d:Int) (c:C.den):aC Tryz.prog G0 129 [.dat I n,.fn 130 [.ip C c,.ip I d]] [] ⟨pJ (aFb c.2.2 d) (aLW c.2.2) n,.dat I (mD (aFb c.2.2 d) n),[]⟩ :=
 (aNb n (aLW c.2.2) (aFb c.2.2 d)).args fun C us hG hr=>by
  obtain ⟨u,us',e,g1,u2,us2,e2,g3,g4⟩:=hr
  exact ⟨u,us',e,g1,u2,us2,e2,aIT (by kernel_rfl) rfl (fun x=>aVR x d c) hG g3,g4⟩
theorem aVC:aQ Tryz.prog G0 KT3:=by
 intro f args m c h
 unfold KT3 at h
 split at h
 ·cases h;exact aVR _ _ _
 ·cases h;exact aJ3 _ _ _
 ·exact aVD _ _ _ _ h
theorem aHP {h:List Int} (hi:∀ i:Nat,i + 1 < h.length→h.getD i 0 < h.getD (i + 1) 0) (d:Int) :
  0≤atS h d∧atS h d≤h.length∧(∀ i:Nat,(i:Int) < atS h d→h.getD i 0 < d)∧∀ i:Nat,atS h d≤i→i < h.length→d≤h.getD i 0:=by
 -- the place of the first element that is not less
 have hex:∃ k:Nat,k≤h.length∧(∀ i:Nat,i < k→h.getD i 0 < d)∧∀ i:Nat,k≤i→i < h.length→d≤h.getD i 0:=by
  have:∀ N:Nat,N≤h.length→∃ k:Nat,k≤N∧(∀ i:Nat,i < k→h.getD i 0 < d)∧∀ i:Nat,k≤i→i < N→d≤h.getD i 0:=by
   intro N
   induction N with
   | zero=>intro _;exact ⟨0,Nat.le_refl _,fun i hi=>by omega,fun i _ hi=>by omega⟩
   | succ N ih =>
    intro hN
    obtain ⟨k,k1,k2,k3⟩:=ih (by omega)
    by_cases hk:k < N
    ·refine ⟨k,by omega,k2,fun i h1 h2=>?_⟩
     rcases Nat.lt_or_ge i N with h3 | h3
     ·exact k3 i h1 h3
     ·have hin:i=N:=by omega
      have:=k3 k (Nat.le_refl _) hk
      have:=aGw hi hk (show N < h.length by omega)
      rw [hin];omega
    ·have ek:k=N:=by omega
     subst ek
     by_cases hd:h.getD k 0 < d
     ·refine ⟨k + 1,Nat.le_refl _,fun i hi2=>?_,fun i h1 h2=>by omega⟩
      rcases Nat.lt_or_ge i k with h3 | h3
      ·exact k2 i h3
      ·rw [show i=k by omega];exact hd
     ·exact ⟨k,by omega,k2,fun i h1 h2=>by rw [show i=k by omega];omega⟩
  exact this h.length (Nat.le_refl _)
 obtain ⟨k,k1,k2,k3⟩:=hex
 have e:atS h d=k:=by
  unfold atS mD
  rw [vV (i:=k) _ (fun x hx=>?_)]
  ·omega
  ·unfold aFb
   simp only [Int.toNat_natCast]
   by_cases hx2:k≤x
   ·rw [decide_eq_true hx2];exact decide_eq_true (k3 x hx2 (by omega))
   ·have:=k2 x (by omega)
    rw [decide_eq_false hx2];exact decide_eq_false (by omega)
 rw [e]
 exact ⟨by omega,by omega,fun i hi=>k2 i (by omega),fun i h1 h2=>k3 i (by omega) h2⟩
theorem aKW {w:List Bool} {h:List Int} (hc:aDW w h) (d:Int):pJ (aFb h d) (aLW h) h.length:=by
 refine ⟨by omega,by have:=hc.2.1;omega,fun i h0 h1=>⟨h0,h1⟩,fun i j h0 hij hj hg=>?_⟩
 unfold aFb at hg ⊢
 simp only [decide_eq_true_eq] at hg ⊢
 rcases Int.lt_or_le i j with hlt | hge
 ·have:=aGw hc.2.2 (show i.toNat < j.toNat by omega) (by omega)
  omega
 ·rw [show j=i by omega];exact hg
theorem aPr {w:List Bool} {h:List Int} (hc:aDW w h) (d:Int):(decide (atS h d=h.length) || (h.getD (atS h d).toNat 0 != d))=!h.contains d:=by
 obtain ⟨g0,g1,g2,g3⟩:=aHP hc.2.2 d
 obtain ⟨k,hk⟩:∃ k,k=atS h d:=⟨_,rfl⟩
 rw [← hk] at g0 g1 g2 g3 ⊢
 have hmem:d ∈ h↔k < h.length∧h.getD k.toNat 0=d:=by
  constructor
  ·intro hm
   obtain ⟨i,hi⟩:=List.mem_iff_getElem?.1 hm
   have hil:=(List.getElem?_eq_some_iff.1 hi).1
   have e:h.getD i 0=d:=by rw [List.getD_eq_getElem?_getD,hi];rfl
   have h1:k≤i:=by
    rcases Int.lt_or_le (i:Int) k with hlt | hge
    ·have:=g2 i hlt;omega
    ·exact hge
   have h2:k.toNat=i:=by
    rcases Nat.lt_or_ge k.toNat i with hlt | hge
    ·have:=aGw hc.2.2 hlt hil
     have:=g3 k.toNat (by omega) (by omega)
     omega
    ·omega
   exact ⟨by omega,by rw [h2];exact e⟩
  ·rintro ⟨h1,h2⟩
   have hlt:k.toNat < h.length:=by omega
   rw [List.getD_eq_getElem?_getD,List.getElem?_eq_getElem hlt] at h2
   simp only [Option.getD_some] at h2
   rw [← h2];exact List.getElem_mem _
 by_cases hd:d ∈ h
 ·obtain ⟨h1,h2⟩:=hmem.1 hd
  have:h.contains d=true:=by simpa using hd
  rw [this,h2]
  have:¬ k=h.length:=by omega
  simp [this]
 ·have:h.contains d=false:=by simpa using hd
  rw [this]
  by_cases hk2:k=h.length
  ·simp [hk2]
  ·have:h.getD k.toNat 0≠d:=fun e=>hd (hmem.2 ⟨by omega,e⟩)
   simp only [hk2,decide_false,Bool.false_or,Bool.not_false,bne_iff_ne,ne_eq]
   exact this
theorem aQt (d:Int) (wk:List Bool) (c:C.den):aC Tryz.prog G0 128 [.dat I d,.ia .bool wk,.ip C c] [] ⟨aDW wk c.2.2∧aAx d,.dat .bool (kD wk c.2.2 d),[]⟩:=by
 obtain ⟨z,w,h⟩:=c
 refine aA (c:=mkc KT3) aVC cO hm (aL9 d z w wk h ⟨rfl,fun ⟨hc,hd⟩=>?_⟩)
 have hs:=aKW hc d
 obtain ⟨g0,g1,g2,g3⟩:=aHP hc.2.2 d
 have e0:=Int.emod_nonneg d (show (7:Int)≠0 by omega)
 have e1:=Int.emod_lt_of_pos d (show (0:Int) < 7 by omega)
 have ea:mD (aFb h d) (D.ilen h)=atS h d:=rfl
 have hs':pJ (aFb h d) (aLW h) (D.ilen h):=hs
 simp only [ea,hs',oN,D.and,D.not,Bool.true_and,eq_self,true_and,and_true,imp_self,implies_true,Bool.not_eq_true',Bool.not_eq_false',aLT,D.get,D.nat,D.eq,D.ne,D.ile,D.ilt,D.ilen,D.ofN,D.len,beq_eq_false_iff_ne]
 refine ⟨⟨hd,by omega,by omega⟩,hc.1,e0,by exact_mod_cast e1,fun hw=>?_,fun hw=>⟨fun _=>g0,fun hne=>by omega,?_⟩⟩
 ·unfold kD
  rw [hw];rfl
 ·unfold kD
  rw [hw,Bool.true_and,← aPr hc d]
  congr 1
theorem aNa (z:Int) (w:List Bool) (h:List Int):aC Tryz.prog G0 102 [cal z w h] [] ⟨D.len w=7,.fn 128 [.ia .bool w,.ip C (z,w,h)],[]⟩:=by
 refine aA (c:=mkc KT3) aVC cO hm (aJn z w h ⟨rfl,fun hw=>?_⟩)
 have hw:w.length=7:=hw
 have e:D.copy (D.aIj 7 false) w=w:=by
  simp only [D.copy,D.aIj,List.length_replicate,← hw,List.take_length]
  rw [List.drop_of_length_le (by simp),List.append_nil]
 refine ⟨rfl,rfl,by simp [D.len,D.aIj],by simp [D.len,D.aIj],by rw [e];exact hw,rfl,e,rfl,trivial⟩
theorem aVB:aQ Tryz.prog G0 KT4:=by
 intro f args m c h
 unfold KT4 at h
 split at h
 ·cases h;exact aQt _ _ _
 ·cases h;exact aNa _ _ _
 ·exact aVC _ _ _ _ h
theorem aHM {z:Int} {w:List Bool} {h:List Int} (hv:bM z w h=true):aDW w h:=by
 obtain ⟨⟨_,_,v3,v4⟩,v5⟩:=fJ.1 hv
 exact ⟨v3,v4,v5⟩
end Go.Eng.Sv
