/- PeTr1k, PeTr2k -/
import Derived.Test.YtlobbofhlcjlmaaGreatDoorH22
import Derived.Test.YtlobbofhlcjlmaaGreatDoorTt2k
set_option linter.unusedSimpArgs false
set_option linter.unusedVariables false
set_option maxRecDepth 100000
noncomputable section
namespace Go.Eng.Sv
open Go.Proofs
def jF (w:List Bool) (h:List Int) (a n:Int):List Int:=((List.range n.toNat).map fun (i:Nat)=>a + (i:Int)).filter fun d=>kD w h d
def zJ (w:List Bool) (h:List Int) (a d:Int):Nat:=(((List.range (d - a).toNat).map fun (i:Nat)=>a + (i:Int)).filter fun d=>kD w h d).length
def aIM (w:List Bool) (h:List Int) (a n:Int):Prop:=aDW w h∧-1000000000≤a∧a≤1000000000∧-100000000≤n∧n≤100000000
def aCT (a n d:Int):Prop:=a≤d∧(d≤a + n∨d=a)
def rY (w:List Bool) (h:List Int) (d:Int):Option Int:=(jF w h d 60).head?
def mM (w:List Bool) (h:List Int) (d:Int):Int:=(rY w h d).getD 0
def mX (w:List Bool) (h:List Int) (d:Int):Int:=if (rY w h d).isSome then 0 else 20
def aRr (z:Int) (w:List Bool) (h:List Int) (d:Int):Prop:=bM z w h=true∧kN d=true
def isZ (k:Nat):Prop:=k=0
theorem aPP (z:Int) (w:List Bool) (h:List Int) (a n:Int) (hvc :
 true=true∧(D.len w=7→D.len w=7∧1=1∧0=0∧a=a∧n=n∧1=1∧0=0∧AV.fn (128) [AV.ia Ty.bool w,AV.ip ((Ty.int
 IntKind.i64).pair (Ty.bool.sl.pair (Ty.int IntKind.i64).sl)) (z,w,h)]=AV.fn (128) [AV.ia Ty.bool w,AV.ip ((Ty.int IntKind.i64).pair (Ty.bool.sl.pair
 (Ty.int IntKind.i64).sl)) (z,w,h)]∧True)) :
  evF (mkc KT4) bF 78 [cal z w h,.dat I a,.dat I n] [] ⟨D.len w=7,.fn 103 [.ip I a,.ip I n,.ipv (.fn 128 [.ia .bool w,.ip C (z,w,h)])],[]⟩:=@of_eq _ _ (by kernel_rfl) hvc
def aTz (w:List Bool) (h:List Int) (a n:Int):aJm:=⟨fun id y=>match id with
 | 1=>some { α:=Int,inv:=fun d=>aCT a n d,st:=fun d=>⟨put y.s [(5,.dat I d)],zJ w h a d,true⟩,μ:=fun d=>D.nat (D.sub (D.add a n) d) }
 | _=>none,fun _ _=>none,fun id=>id == 3⟩
theorem aMy (z a n:Int) (w w':List Bool) (h:List Int) (hvc :
 let c1:=(z,w',h);
 let c2:=jF w h a n;
 let c3:=D.len c2;true=true∧true=true∧true=true∧false=false∧∀ (l:Nat),aIM w h a n→(∃ x,aCT a n x∧(l=l∧a=a∧n=n∧w=w ∧
 c1=c1∧a=x∧a=a∧True)∧0=zJ w h a x∧true=true)∧∀ (x:Int),
 let c4:=D.lt x (D.add a n);
 let c5:=zJ w h a x;
 let c6:=D.fE c5 (1);
 let c7:=D.add x (1:Int);
 let c8:=D.cnd (kD w h x) (D.not false) false;aCT a n x→inR IntKind.i64 (D.add a n)∧(c4=true→(aDW w h∧aAx x)∧(kD w h x=true →
 (kD w h x=true→kD w h x=true)∧(kD w h x=true→kD w h x=true)∧l=l∧true=true∧yY c2 c5 x∧∀ (b:Bool),
 let c9:=D.cnd (kD w h x) (D.not b) false;(D.and true (kD w h x)=true→kD w h x=true)∧(c9=true→b=true→c6=c3)∧(c9=false→inR
 IntKind.i64 c7∧∃ y,aCT a n y∧((l=l∧a=a∧n=n∧w=w∧c1=c1∧c7=y∧a=a∧True)∧c6=zJ w h a y∧b=true)∧D.nlt (D.nat (D.sub
 (D.add a n) y)) (D.nat (D.sub (D.add a n) x))))∧(kD w h x=false→(kD w h x=true→kD w h x=true→kD w h x=true)∧(D.and true (kD w
 h x)=true→kD w h x=true)∧(c8=true→true=true→c5=c3)∧(c8=false→inR IntKind.i64 c7∧∃ y,aCT a n y∧((l=l∧a=a∧n=n∧w =
 w∧c1=c1∧c7=y∧a=a∧True)∧c5=zJ w h a y∧true=true)∧D.nlt (D.nat (D.sub (D.add a n) y)) (D.nat (D.sub (D.add a n) x)))))∧(c4=false →
 true=true→c5=c3)) :
  evI (mkc KT4) (aTz w h a n) 103 [.ip I a,.ip I n,.ipv (.fn 128 [.ia .bool w,.ip C (z,w',h)])] ⟨aIM w h a n,I,jF w h a n⟩:=@of_eq _ _ (by kernel_rfl) hvc
def KR1:Kt:=kOr 78 (bD [.row C,.val I,.val I] (fun (c,_,_,_)=>D.len c.2.1=7) fun (c,a,n,_)=>.fn 103 [.ip I a,.ip I n,.ipv (.fn 128 [.ia .bool c.2.1,.ip C c])]) KT4
def aVO:FuncId→List AV→Option oW:=fun f caps=>match f,caps with
 | 103,[.ip (.int .i64) a,.ip (.int .i64) n,.ipv (.fn 128 [.ia .bool w,.ip (.pair (.int .i64) (.pair (.sl .bool) (.sl (.int .i64)))) c])]=>some ⟨aIM w c.2.2 a n,I,jF w c.2.2 a n⟩
 | _,_=>none
def flat (s:St):St:={ s with tm:=s.tm.map aSF }
def aVj:Ann:=⟨fun id s=>match id with
 | 4=>some { α:=Nat,inv:=fun k=>isZ k,st:=fun _=>flat s,μ:=fun k=>k }
 | _=>none,fun _ _=>none,fun _ _=>none⟩
noncomputable def aT6 (K:Kt):Cfg:=⟨Tryz.prog,G0,K,fun _=>false,aVO,true,fun _ _ _=>none,fun _=>false⟩
theorem aPD (z:Int) (w:List Bool) (h:List Int) (d:Int) (hvc :
 let c1:=D.not (bM z w h);
 let c2:=D.not c1;
 let c3:=D.cnd c1 true (D.not (kN d));
 let c4:=(z,w,h);
 let c5:=jF w h d (60:Int);true=true∧(aRr z w h d→True∧(c2=true→c2=true→c2=true)∧(c2=true→True)∧(c2=true→c2=true→c2 =
 true)∧(D.and true c2=true→c2=true)∧(c3=true→1=1∧0=0∧1=1∧0=0∧1=1∧0=0∧1=1∧0=0∧(0:Int)=mM w h d∧(1:Int) =
 mX w h d∧True)∧(c3=false→D.len w=7∧aIM w h d (60:Int)∧(∃ x,isZ x∧x=0∧z=z∧w=w∧h=h∧d=d∧c4=c4∧1=1∧0=0∧0 =
 0∧1=1∧0=0∧0=0∧z=z∧w=w∧h=h∧bM z w h=bM z w h∧c1=c1∧c1=c1∧c3=c3∧z=z∧w=w∧h=h∧d=d∧d=d∧(60 :
 Int)=(60:Int)∧w=w∧c4=c4∧(0:Int)=(0:Int)∧(0:Int)=(0:Int)∧True)∧(∀ (x:Nat) (y:Int),isZ x→yY c5 x y→1=1∧0=0∧1 =
 1∧0=0∧1=1∧0=0∧1=1∧0=0∧y=mM w h d∧(0:Int)=mX w h d∧True)∧∀ (x:Nat),isZ x→x=D.len c5→1=1∧0=0∧1=1∧0 =
 0∧1=1∧0=0∧1=1∧0=0∧(0:Int)=mM w h d∧(20:Int)=mX w h d∧True))) :
  evF (aT6 KR1) aVj 74 [cal z w h,.dat I d] [] ⟨aRr z w h d,.tup [.dat I (mM w h d),.dat I (mX w h d)],[]⟩:=@of_eq _ _ (by kernel_rfl) hvc
theorem aTb (z:Int) (w:List Bool) (h:List Int) (a n:Int):aC Tryz.prog G0 78 [cal z w h,.dat I a,.dat I n] [] ⟨D.len w=7,.fn 103 [.ip I a,.ip I n,.ipv (.fn 128 [.ia .bool w,.ip C (z,w,h)])],[]⟩:=by
 refine aA (c:=mkc KT4) aVB cO hm (aPP z w h a n ⟨rfl,fun hw=>?_⟩)
 exact ⟨hw,rfl,rfl,rfl,rfl,rfl,rfl,rfl,trivial⟩
theorem aVF:aQ Tryz.prog G0 KR1:=aJ (aG fun ((z,w,h),a,n,_)=>aTb z w h a n) aVB
theorem aK5 {α:Type} {f:Nat→α} {p:α→Bool} {k:Nat} (hp:p (f k)=true):∀ N:Nat,k < N→(((List.range N).map f).filter p)[(((List.range k).map f).filter p).length]?=some (f k)
 | 0,h=>by omega
 | N + 1,h=>by
  rw [List.range_succ,List.map_append,List.filter_append]
  rcases Nat.lt_or_ge k N with hk | hk
  ·have ih:=aK5 hp N hk
   rw [List.getElem?_append_left (List.getElem?_eq_some_iff.1 ih).1]
   exact ih
  ·have e:N=k:=by omega
   subst e
   rw [List.getElem?_append_right (Nat.le_refl _),Nat.sub_self]
   simp [hp]
theorem aRm {w:List Bool} {h:List Int} {a n x:Int} (h1:a≤x) (h2:x < a + n) (hw:kD w h x=true):yY (jF w h a n) (zJ w h a x) x:=by
 have e:a + ((x - a).toNat:Int)=x:=by omega
 have:=aK5 (f:=fun (i:Nat)=>a + (i:Int)) (p:=fun d=>kD w h d) (k:=(x - a).toNat) (by simp only [e];exact hw) n.toNat (by omega)
 simp only [e] at this
 exact this
theorem aHK {w:List Bool} {h:List Int} {a x:Int} (h1:a≤x):zJ w h a (x + 1)=zJ w h a x + (if kD w h x then 1 else 0):=by
 unfold zJ
 rw [show (x + 1 - a).toNat=(x - a).toNat + 1 by omega,List.range_succ,List.map_append,List.filter_append,List.length_append]
 have e:a + ((x - a).toNat:Int)=x:=by omega
 congr 1
 simp only [List.map_cons,List.map_nil,e,List.filter_cons,List.filter_nil]
 split <;> simp_all
theorem aOg (w:List Bool) (h:List Int) (a:Int):zJ w h a a=0:=by
 unfold zJ
 rw [show (a - a).toNat=0 by omega];rfl
theorem cnt_end {w:List Bool} {h:List Int} {a n x:Int} (hx:aCT a n x) (hge:¬ x < a + n):zJ w h a x=(jF w h a n).length:=by
 unfold zJ jF
 obtain ⟨g1,g2⟩:=hx
 rw [show (x - a).toNat=n.toNat by omega]
theorem aS9 (a n:Int) (w:List Bool) (c:C.den):zQ Tryz.prog G0 103 [.ip I a,.ip I n,.ipv (.fn 128 [.ia .bool w,.ip C c])] ⟨aIM w c.2.2 a n,I,jF w c.2.2 a n⟩:=by
 obtain ⟨z,w',h⟩:=c
 refine aCP (c:=mkc KT4) (A:=aTz w h a n) aVB cO hm ?_
 refine aMy z a n w w' h ⟨rfl,rfl,rfl,rfl,fun l ⟨hc,b1,b2,b3,b4⟩=>?_⟩
 simp only [fA,D.and,D.not,Bool.true_and,eq_self,true_and,and_true,imp_self,implies_true,Bool.not_false,Bool.and_true,forall_const,D.lt,D.sub,D.add,D.nlt,D.nat,D.len,D.fE,decide_eq_true_eq,decide_eq_false_iff_not]
 refine ⟨⟨a,⟨Int.le_refl _,.inr rfl⟩,rfl,(aOg w h a).symm⟩,fun x hx=>?_⟩
 have hx1:=hx.1
 have hx2:=hx.2
 refine ⟨⟨by omega,by omega⟩,fun hlt=>⟨⟨hc,by omega,by omega⟩,fun hw=>?_,fun hw=>?_⟩,fun hge=>cnt_end hx hge⟩
 ·simp only [hw,Bool.true_and,Bool.not_eq_true',Bool.not_eq_false']
  refine ⟨aRm hx1 hlt hw,fun b=>⟨fun e1 e2=>(by rw [e1] at e2;cases e2),fun hb=>⟨⟨by omega,by omega⟩,x + 1,⟨by omega,.inl (by omega)⟩,⟨rfl,?_,hb⟩,by omega⟩⟩⟩
  rw [aHK hx1,hw];rfl
 ·simp only [hw,eq_self,true_and,Bool.false_eq_true,false_implies,forall_const]
  refine ⟨⟨by omega,by omega⟩,x + 1,⟨by omega,.inl (by omega)⟩,⟨rfl,?_⟩,by omega⟩
  rw [aHK hx1,hw];rfl
theorem aTS:dF Tryz.prog G0 aVO:=by
 intro f caps c h
 unfold aVO at h
 split at h
 ·cases h;exact aS9 _ _ _ _
 ·cases h
theorem okd {d:Int} (hd:kN d=true):-1000000≤d∧d≤1000000:=by
 unfold kN at hd
 exact of_decide_eq_true hd
theorem aS7 (z:Int) (w:List Bool) (h:List Int) (d:Int):aC Tryz.prog G0 74 [cal z w h,.dat I d] [] ⟨aRr z w h d,.tup [.dat I (mM w h d),.dat I (mX w h d)],[]⟩:=by
 refine aA (c:=aT6 KR1) aVF aTS hm (aPD z w h d ⟨rfl,fun ⟨hv,hd⟩=>?_⟩)
 have hc:=aHM hv
 have hd':=okd hd
 simp only [hv,hd,fA,D.and,D.not,eq_self,true_and,and_true,imp_self,Bool.not_true,Bool.not_false,Bool.and_self,Bool.and_true,Bool.false_eq_true,false_implies,forall_const,D.len]
 refine ⟨hc.1,⟨hc,by omega,by omega,by omega,by omega⟩,⟨0,rfl,rfl⟩,fun x y hx hy=>?_,fun x hx hl=>?_⟩
 ·have hx:x=0:=hx
  subst hx
  have:rY w h d=some y:=by
   have hy:(jF w h d 60)[0]?=some y:=hy
   unfold rY
   rw [List.head?_eq_getElem?];exact hy
  simp [mM,mX,this]
 ·have hx:x=0:=hx
  subst hx
  have:rY w h d=none:=by
   unfold rY
   rw [List.eq_nil_of_length_eq_zero hl.symm];rfl
  simp [mM,mX,this]
theorem aBz {w:List Bool} {h:List Int} {a n y:Int} (hy:y ∈ jF w h a n):a≤y∧y < a + n∧kD w h y=true:=by
 unfold jF at hy
 obtain ⟨h1,h2⟩:=List.mem_filter.1 hy
 obtain ⟨i,hi,rfl⟩:=List.mem_map.1 h1
 have:=List.mem_range.1 hi
 exact ⟨by omega,by omega,h2⟩
end Go.Eng.Sv

set_option maxRecDepth 100000
noncomputable section
namespace Go.Eng.Sv
open Go.Proofs
abbrev aN4 (t:TypeId) (e:Int):Value:=.iface t (.int .i64 e)
abbrev Stop:=Int×Int×Int×Int
abbrev Pl:Ty:=.pair I (.pair I (.pair M (.sl M)))
abbrev Plan:=Int×Int×List (List Int)×List (List (List Int))
def rG (t:Int):Bool:=decide (0≤t∧t≤2000000)
def kX (n:Net) (o:Int):Off:=n.2.2.2.1.getD o.toNat (⟨#[]⟩,0,0,0,0,0,[])
def yU (n:Net) (l:Int):Line:=n.2.2.2.2.1.getD l.toNat (⟨#[]⟩,0,0,0,0,0)
def bK (n:Net) (o:Int):Int×List Bool×List Int:=n.1.getD (kX n o).2.2.1.toNat (0,[],[])
def jE (n:Net) (l:Int):Int:=(yU n l).2.1
def aAy (n:Net) (l:Int):Int:=(yU n l).2.2.1
def aHr (n:Net) (l:Int):Int:=(yU n l).2.2.2.1
def iC (n:Net) (l:Int):Int:=(yU n l).2.2.2.2.1
def aCe (n:Net) (o:Int):Prop:=noF n=true∧0≤o∧o < n.2.2.2.1.length
def aRL (n:Net) (l:Int):Prop:=noF n=true∧0≤l∧l < n.2.2.2.2.1.length
def gX (n:Net) (o l:Int):Bool:=decide (l=-1) || (mW l n.2.2.2.2.1.length && decide (jE n l=o))
def rowOk (n:Net) (o:Int) (row:List Int):Bool:=decide ((row.length:Int)=n.2.2.2.1.length) && row.all (gX n o)
def aLQ (n:Net) (nx:List (List Int)):Bool:=decide ((nx.length:Int)=n.2.2.2.1.length) && (List.range nx.length).all fun i=>rowOk n i (nx.getD i [])
def zC (nx:List (List Int)):Prop:=nx.length≤1000000∧∀ r ∈ nx,r.length≤1000000
def d0F (c:Int×List Bool×List Int) (m t:Int):Int:=if m < aLU c.1 t then nT c.1 t + 1 else nT c.1 t
def nS (c:Int×List Bool×List Int) (m t:Int):Int:=if mX c.2.1 c.2.2 (d0F c m t)=0 then wE c.1 (mM c.2.1 c.2.2 (d0F c m t)) m else 0
def zB (c:Int×List Bool×List Int) (m t:Int):Int:=mX c.2.1 c.2.2 (d0F c m t)
def aLX (c:Int×List Bool×List Int) (m t:Int):Prop:=bM c.1 c.2.1 c.2.2=true∧0≤m∧m < 1440∧-1000000≤t∧t≤100000000
def aK (n:Net) (o t:Int):Int:=t + (kX n o).2.2.2.2.1 * (kX n o).2.2.2.2.2.1
def vF (n:Net) (o t:Int):Prop:=aCe n o∧-1000000000≤t∧t≤1000000000
def rC (n:Net) (l t:Int):Int:=if rG t=true then nS (bK n (jE n l)) (aHr n l) t else 0
def aAM (n:Net) (l t:Int):Int:=if rG t=true then zB (bK n (jE n l)) (aHr n l) t else 1
def isZero (e:Int):Bool:=decide (e=0)
def KR2:Kt:=kOr 74 (bD [.row C,.val I] (fun (c,d,_)=>aRr c.1 c.2.1 c.2.2 d) fun (c,d,_)=>.tup [.dat I (mM c.2.1 c.2.2 d),.dat I (mX c.2.1 c.2.2 d)]) KR1
theorem aL0:aQ Tryz.prog G0 KR2:=aJ (aG fun ((z,w,h),d,_)=>aS7 z w h d) aVF
theorem oG (cs:LC) (ns os:LB) (fs:List Off) (ls:List Line) (ks:List Cla) {o:Int} (h:aCe (cs,ns,os,fs,ls,ks) o):0≤(kX (cs,ns,os,fs,ls,ks) o).2.2.1∧(kX (cs,ns,os,fs,ls,ks) o).2.2.1 < cs.length∧bM (bK (cs,ns,os,fs,ls,ks) o).1 (bK (cs,ns,os,fs,ls,ks) o).2.1 (bK (cs,ns,os,fs,ls,ks) o).2.2=true∧1≤(kX (cs,ns,os,fs,ls,ks) o).2.2.2.2.1∧(kX (cs,ns,os,fs,ls,ks) o).2.2.2.2.1≤4∧1≤(kX (cs,ns,os,fs,ls,ks) o).2.2.2.2.2.1∧(kX (cs,ns,os,fs,ls,ks) o).2.2.2.2.2.1≤240:=by
 obtain ⟨hno,l0,l1⟩:=h
 have l1:o < fs.length:=l1
 have ho:kX (cs,ns,os,fs,ls,ks) o ∈ fs:=by
  show fs.getD o.toNat _ ∈ fs
  rw [List.getD_eq_getElem?_getD,List.getElem?_eq_getElem (by omega),Option.getD_some]
  exact List.getElem_mem _
 have gc:=(aDn cs ns os fs ls ks hno).2.2.2 _ ho
 unfold iV mW iW at gc
 simp only [Bool.and_eq_true,decide_eq_true_eq] at gc
 obtain ⟨⟨⟨⟨⟨⟨_,g1⟩,_⟩,_⟩,_⟩,g2⟩,g3⟩:=gc
 have g1:0≤(kX (cs,ns,os,fs,ls,ks) o).2.2.1∧(kX (cs,ns,os,fs,ls,ks) o).2.2.1 < (cs.length:Int):=g1
 have hc:=((aDy (by decide)).1 (pX cs ns os fs ls ks hno).2.1).2.2.2
 have hcl:(aP cs ns).length=cs.length:=by unfold aP;simp
 have:=hc (kX (cs,ns,os,fs,ls,ks) o).2.2.1.toNat (by omega)
 unfold bY at this
 rw [uI (fun c:Int×List Bool×List Int=>bM c.1 c.2.1 c.2.2) cs _ (0,[],[]) false (by omega)] at this
 exact ⟨g1.1,g1.2,this,g2.1,g2.2,g3.1,g3.2⟩
theorem aEX (cs:LC) (ns os:LB) (fs:List Off) (ls:List Line) (ks:List Cla) {l:Int} (h:aRL (cs,ns,os,fs,ls,ks) l):0≤jE (cs,ns,os,fs,ls,ks) l∧jE (cs,ns,os,fs,ls,ks) l < fs.length∧0≤aAy (cs,ns,os,fs,ls,ks) l∧aAy (cs,ns,os,fs,ls,ks) l < fs.length∧0≤aHr (cs,ns,os,fs,ls,ks) l∧aHr (cs,ns,os,fs,ls,ks) l≤1439∧1≤iC (cs,ns,os,fs,ls,ks) l∧iC (cs,ns,os,fs,ls,ks) l≤5000:=by
 obtain ⟨hno,l0,l1⟩:=h
 have l1:l < ls.length:=l1
 have hl:yU (cs,ns,os,fs,ls,ks) l ∈ ls:=by
  show ls.getD l.toNat _ ∈ ls
  rw [List.getD_eq_getElem?_getD,List.getElem?_eq_getElem (by omega),Option.getD_some]
  exact List.getElem_mem _
 obtain ⟨g1,g2,g3,g4,g5,g6,g7,g8⟩:=sF ((aBq cs ns os fs ls ks hno).2.2.2 _ hl)
 exact ⟨g1,g2,g3,g4,g6.1,g6.2,g7,g8⟩
theorem wY {w:List Bool} {h:List Int} {d:Int} (he:mX w h d=0):d≤mM w h d∧mM w h d < d + 60∧kD w h (mM w h d)=true:=by
 unfold mX at he
 unfold mM
 cases hn:rY w h d with
 | none=>rw [hn] at he;simp at he
 | some y =>
  have:y ∈ jF w h d 60:=List.mem_of_mem_head? (by unfold rY at hn;rw [hn];rfl)
  exact aBz this
theorem aTA {c:Int×List Bool×List Int} {m t:Int} (hp:aLX c m t):-1000≤d0F c m t∧d0F c m t≤100000:=by
 obtain ⟨hv,h1,h2,h3,h4⟩:=hp
 obtain ⟨⟨v1,v2,_,_⟩,_⟩:=fJ.1 hv
 unfold d0F nT
 split <;> omega
theorem aBL {d:Int} (h1:-1000000≤d) (h2:d≤1000000):kN d=true:=by
 unfold kN;exact decide_eq_true ⟨h1,h2⟩
theorem aH8 {n:Net}:zW n=decide (((oO n).length:Int)=0):=by
 unfold zW
 cases oO n with
 | nil=>rfl
 | cons a l=>simp;omega
end Go.Eng.Sv
