/- PeTr1j -/
import Derived.Test.YtlobbofhlcjlmaaGreatDoorZ22
import Derived.Test.YtlobbofhlcjlmaaGreatDoorTt2j
set_option linter.unusedSimpArgs false
set_option linter.unusedVariables false
set_option maxRecDepth 100000
noncomputable section
namespace Go.Eng.Sv
open Go.Proofs
def listF (w:List Bool) (h:List Int) (a n:Int):List Int:=((List.range n.toNat).map fun (i:Nat)=>a + (i:Int)).filter fun d=>workF w h d
def cntTo (w:List Bool) (h:List Int) (a d:Int):Nat:=(((List.range (d - a).toNat).map fun (i:Nat)=>a + (i:Int)).filter fun d=>workF w h d).length
def daysP (w:List Bool) (h:List Int) (a n:Int):Prop:=calOk w h∧-1000000000≤a∧a≤1000000000∧-100000000≤n∧n≤100000000
def daysTo (a n d:Int):Prop:=a≤d∧(d≤a + n∨d=a)
def nextO (w:List Bool) (h:List Int) (d:Int):Option Int:=(listF w h d 60).head?
def nextD (w:List Bool) (h:List Int) (d:Int):Int:=(nextO w h d).getD 0
def nextE (w:List Bool) (h:List Int) (d:Int):Int:=if (nextO w h d).isSome then 0 else 20
def argP (z:Int) (w:List Bool) (h:List Int) (d:Int):Prop:=validF z w h=true∧inDays d=true
def isZ (k:Nat):Prop:=k=0
theorem vc_days (z:Int) (w:List Bool) (h:List Int) (a n:Int) (hvc :
 true=true∧(D.len w=7→D.len w=7∧1=1∧0=0∧a=a∧n=n∧1=1∧0=0∧AV.fn (128) [AV.ia Ty.bool w,AV.ip ((Ty.int
 IntKind.i64).pair (Ty.bool.sl.pair (Ty.int IntKind.i64).sl)) (z,w,h)]=AV.fn (128) [AV.ia Ty.bool w,AV.ip ((Ty.int IntKind.i64).pair (Ty.bool.sl.pair
 (Ty.int IntKind.i64).sl)) (z,w,h)]∧True)) :
  evF (mkc KT4) noAnn 78 [cal z w h,.dat I a,.dat I n] [] ⟨D.len w=7,.fn 103 [.ip I a,.ip I n,.ipv (.fn 128 [.ia .bool w,.ip C (z,w,h)])],[]⟩:=@of_eq _ _ (by kernel_rfl) hvc
def daysA (w:List Bool) (h:List Int) (a n:Int):AnnY:=⟨fun id y=>match id with
 | 1=>some { α:=Int,inv:=fun d=>daysTo a n d,st:=fun d=>⟨put y.s [(5,.dat I d)],cntTo w h a d,true⟩,μ:=fun d=>D.nat (D.sub (D.add a n) d) }
 | _=>none,fun _ _=>none,fun id=>id == 3⟩
theorem vc_iter2 (z a n:Int) (w w':List Bool) (h:List Int) (hvc :
 let c1:=(z,w',h);
 let c2:=listF w h a n;
 let c3:=D.len c2;true=true∧true=true∧true=true∧false=false∧∀ (l:Nat),daysP w h a n→(∃ x,daysTo a n x∧(l=l∧a=a∧n=n∧w=w ∧
 c1=c1∧a=x∧a=a∧True)∧0=cntTo w h a x∧true=true)∧∀ (x:Int),
 let c4:=D.lt x (D.add a n);
 let c5:=cntTo w h a x;
 let c6:=D.nadd c5 (1);
 let c7:=D.add x (1:Int);
 let c8:=D.cnd (workF w h x) (D.not false) false;daysTo a n x→inR IntKind.i64 (D.add a n)∧(c4=true→(calOk w h∧okDay x)∧(workF w h x=true →
 (workF w h x=true→workF w h x=true)∧(workF w h x=true→workF w h x=true)∧l=l∧true=true∧isAt c2 c5 x∧∀ (b:Bool),
 let c9:=D.cnd (workF w h x) (D.not b) false;(D.and true (workF w h x)=true→workF w h x=true)∧(c9=true→b=true→c6=c3)∧(c9=false→inR
 IntKind.i64 c7∧∃ y,daysTo a n y∧((l=l∧a=a∧n=n∧w=w∧c1=c1∧c7=y∧a=a∧True)∧c6=cntTo w h a y∧b=true)∧D.nlt (D.nat (D.sub
 (D.add a n) y)) (D.nat (D.sub (D.add a n) x))))∧(workF w h x=false→(workF w h x=true→workF w h x=true→workF w h x=true)∧(D.and true (workF w
 h x)=true→workF w h x=true)∧(c8=true→true=true→c5=c3)∧(c8=false→inR IntKind.i64 c7∧∃ y,daysTo a n y∧((l=l∧a=a∧n=n∧w =
 w∧c1=c1∧c7=y∧a=a∧True)∧c5=cntTo w h a y∧true=true)∧D.nlt (D.nat (D.sub (D.add a n) y)) (D.nat (D.sub (D.add a n) x)))))∧(c4=false →
 true=true→c5=c3)) :
  evI (mkc KT4) (daysA w h a n) 103 [.ip I a,.ip I n,.ipv (.fn 128 [.ia .bool w,.ip C (z,w',h)])] ⟨daysP w h a n,I,listF w h a n⟩:=@of_eq _ _ (by kernel_rfl) hvc
def KR1:Kt:=kOr 78 (dataK [.row C,.val I,.val I] (fun (c,_,_,_)=>D.len c.2.1=7) fun (c,a,n,_)=>.fn 103 [.ip I a,.ip I n,.ipv (.fn 128 [.ia .bool c.2.1,.ip C c])]) KT4
def KIR1:FuncId→List AV→Option IRes:=fun f caps=>match f,caps with
 | 103,[.ip (.int .i64) a,.ip (.int .i64) n,.ipv (.fn 128 [.ia .bool w,.ip (.pair (.int .i64) (.pair (.sl .bool) (.sl (.int .i64)))) c])]=>some ⟨daysP w c.2.2 a n,I,listF w c.2.2 a n⟩
 | _,_=>none
def flat (s:St):St:={ s with tm:=s.tm.map topU }
def nextA:Ann:=⟨fun id s=>match id with
 | 4=>some { α:=Nat,inv:=fun k=>isZ k,st:=fun _=>flat s,μ:=fun k=>k }
 | _=>none,fun _ _=>none,fun _ _=>none⟩
noncomputable def mkr1 (K:Kt):Cfg:=⟨Tryz.prog,G0,K,fun _=>false,KIR1,true,fun _ _ _=>none,fun _=>false⟩
theorem vc_next (z:Int) (w:List Bool) (h:List Int) (d:Int) (hvc :
 let c1:=D.not (validF z w h);
 let c2:=D.not c1;
 let c3:=D.cnd c1 true (D.not (inDays d));
 let c4:=(z,w,h);
 let c5:=listF w h d (60:Int);true=true∧(argP z w h d→True∧(c2=true→c2=true→c2=true)∧(c2=true→True)∧(c2=true→c2=true→c2 =
 true)∧(D.and true c2=true→c2=true)∧(c3=true→1=1∧0=0∧1=1∧0=0∧1=1∧0=0∧1=1∧0=0∧(0:Int)=nextD w h d∧(1:Int) =
 nextE w h d∧True)∧(c3=false→D.len w=7∧daysP w h d (60:Int)∧(∃ x,isZ x∧x=0∧z=z∧w=w∧h=h∧d=d∧c4=c4∧1=1∧0=0∧0 =
 0∧1=1∧0=0∧0=0∧z=z∧w=w∧h=h∧validF z w h=validF z w h∧c1=c1∧c1=c1∧c3=c3∧z=z∧w=w∧h=h∧d=d∧d=d∧(60 :
 Int)=(60:Int)∧w=w∧c4=c4∧(0:Int)=(0:Int)∧(0:Int)=(0:Int)∧True)∧(∀ (x:Nat) (y:Int),isZ x→isAt c5 x y→1=1∧0=0∧1 =
 1∧0=0∧1=1∧0=0∧1=1∧0=0∧y=nextD w h d∧(0:Int)=nextE w h d∧True)∧∀ (x:Nat),isZ x→x=D.len c5→1=1∧0=0∧1=1∧0 =
 0∧1=1∧0=0∧1=1∧0=0∧(0:Int)=nextD w h d∧(20:Int)=nextE w h d∧True))) :
  evF (mkr1 KR1) nextA 74 [cal z w h,.dat I d] [] ⟨argP z w h d,.tup [.dat I (nextD w h d),.dat I (nextE w h d)],[]⟩:=@of_eq _ _ (by kernel_rfl) hvc
theorem s_days (z:Int) (w:List Bool) (h:List Int) (a n:Int):SoundC Tryz.prog G0 78 [cal z w h,.dat I a,.dat I n] [] ⟨D.len w=7,.fn 103 [.ip I a,.ip I n,.ipv (.fn 128 [.ia .bool w,.ip C (z,w,h)])],[]⟩:=by
 refine sound_of_ev (c:=mkc KT4) KST4 KI0s hm (vc_days z w h a n ⟨rfl,fun hw=>?_⟩)
 exact ⟨hw,rfl,rfl,rfl,rfl,rfl,rfl,rfl,trivial⟩
theorem KSR1:KSound Tryz.prog G0 KR1:=kOr_ok (dataK_ok fun ((z,w,h),a,n,_)=>s_days z w h a n) KST4
theorem filt_at {α:Type} {f:Nat→α} {p:α→Bool} {k:Nat} (hp:p (f k)=true):∀ N:Nat,k < N→(((List.range N).map f).filter p)[(((List.range k).map f).filter p).length]?=some (f k)
 | 0,h=>by omega
 | N + 1,h=>by
  rw [List.range_succ,List.map_append,List.filter_append]
  rcases Nat.lt_or_ge k N with hk | hk
  ·have ih:=filt_at hp N hk
   rw [List.getElem?_append_left (List.getElem?_eq_some_iff.1 ih).1]
   exact ih
  ·have e:N=k:=by omega
   subst e
   rw [List.getElem?_append_right (Nat.le_refl _),Nat.sub_self]
   simp [hp]
theorem at_list {w:List Bool} {h:List Int} {a n x:Int} (h1:a≤x) (h2:x < a + n) (hw:workF w h x=true):isAt (listF w h a n) (cntTo w h a x) x:=by
 have e:a + ((x - a).toNat:Int)=x:=by omega
 have:=filt_at (f:=fun (i:Nat)=>a + (i:Int)) (p:=fun d=>workF w h d) (k:=(x - a).toNat) (by simp only [e];exact hw) n.toNat (by omega)
 simp only [e] at this
 exact this
theorem cnt_succ {w:List Bool} {h:List Int} {a x:Int} (h1:a≤x):cntTo w h a (x + 1)=cntTo w h a x + (if workF w h x then 1 else 0):=by
 unfold cntTo
 rw [show (x + 1 - a).toNat=(x - a).toNat + 1 by omega,List.range_succ,List.map_append,List.filter_append,List.length_append]
 have e:a + ((x - a).toNat:Int)=x:=by omega
 congr 1
 simp only [List.map_cons,List.map_nil,e,List.filter_cons,List.filter_nil]
 split <;> simp_all
theorem cnt_zero (w:List Bool) (h:List Int) (a:Int):cntTo w h a a=0:=by
 unfold cntTo
 rw [show (a - a).toNat=0 by omega];rfl
theorem cnt_end {w:List Bool} {h:List Int} {a n x:Int} (hx:daysTo a n x) (hge:¬ x < a + n):cntTo w h a x=(listF w h a n).length:=by
 unfold cntTo listF
 obtain ⟨g1,g2⟩:=hx
 rw [show (x - a).toNat=n.toNat by omega]
theorem s_iter (a n:Int) (w:List Bool) (c:C.den):IterC Tryz.prog G0 103 [.ip I a,.ip I n,.ipv (.fn 128 [.ia .bool w,.ip C c])] ⟨daysP w c.2.2 a n,I,listF w c.2.2 a n⟩:=by
 obtain ⟨z,w',h⟩:=c
 refine iter_of_ev (c:=mkc KT4) (A:=daysA w h a n) KST4 KI0s hm ?_
 refine vc_iter2 z a n w w' h ⟨rfl,rfl,rfl,rfl,fun l ⟨hc,b1,b2,b3,b4⟩=>?_⟩
 simp only [cnd_and,D.and,D.not,Bool.true_and,eq_self,true_and,and_true,imp_self,implies_true,Bool.not_false,Bool.and_true,forall_const,D.lt,D.sub,D.add,D.nlt,D.nat,D.len,D.nadd,decide_eq_true_eq,decide_eq_false_iff_not]
 refine ⟨⟨a,⟨Int.le_refl _,.inr rfl⟩,rfl,(cnt_zero w h a).symm⟩,fun x hx=>?_⟩
 have hx1:=hx.1
 have hx2:=hx.2
 refine ⟨⟨by omega,by omega⟩,fun hlt=>⟨⟨hc,by omega,by omega⟩,fun hw=>?_,fun hw=>?_⟩,fun hge=>cnt_end hx hge⟩
 ·simp only [hw,Bool.true_and,Bool.not_eq_true',Bool.not_eq_false']
  refine ⟨at_list hx1 hlt hw,fun b=>⟨fun e1 e2=>(by rw [e1] at e2;cases e2),fun hb=>⟨⟨by omega,by omega⟩,x + 1,⟨by omega,.inl (by omega)⟩,⟨rfl,?_,hb⟩,by omega⟩⟩⟩
  rw [cnt_succ hx1,hw];rfl
 ·simp only [hw,eq_self,true_and,Bool.false_eq_true,false_implies,forall_const]
  refine ⟨⟨by omega,by omega⟩,x + 1,⟨by omega,.inl (by omega)⟩,⟨rfl,?_⟩,by omega⟩
  rw [cnt_succ hx1,hw];rfl
theorem KIR1s:KISound Tryz.prog G0 KIR1:=by
 intro f caps c h
 unfold KIR1 at h
 split at h
 ·cases h;exact s_iter _ _ _ _
 ·cases h
theorem okd {d:Int} (hd:inDays d=true):-1000000≤d∧d≤1000000:=by
 unfold inDays at hd
 exact of_decide_eq_true hd
theorem s_next (z:Int) (w:List Bool) (h:List Int) (d:Int):SoundC Tryz.prog G0 74 [cal z w h,.dat I d] [] ⟨argP z w h d,.tup [.dat I (nextD w h d),.dat I (nextE w h d)],[]⟩:=by
 refine sound_of_ev (c:=mkr1 KR1) KSR1 KIR1s hm (vc_next z w h d ⟨rfl,fun ⟨hv,hd⟩=>?_⟩)
 have hc:=calOk_of hv
 have hd':=okd hd
 simp only [hv,hd,cnd_and,D.and,D.not,eq_self,true_and,and_true,imp_self,Bool.not_true,Bool.not_false,Bool.and_self,Bool.and_true,Bool.false_eq_true,false_implies,forall_const,D.len]
 refine ⟨hc.1,⟨hc,by omega,by omega,by omega,by omega⟩,⟨0,rfl,rfl⟩,fun x y hx hy=>?_,fun x hx hl=>?_⟩
 ·have hx:x=0:=hx
  subst hx
  have:nextO w h d=some y:=by
   have hy:(listF w h d 60)[0]?=some y:=hy
   unfold nextO
   rw [List.head?_eq_getElem?];exact hy
  simp [nextD,nextE,this]
 ·have hx:x=0:=hx
  subst hx
  have:nextO w h d=none:=by
   unfold nextO
   rw [List.eq_nil_of_length_eq_zero hl.symm];rfl
  simp [nextD,nextE,this]
theorem listF_mem {w:List Bool} {h:List Int} {a n y:Int} (hy:y ∈ listF w h a n):a≤y∧y < a + n∧workF w h y=true:=by
 unfold listF at hy
 obtain ⟨h1,h2⟩:=List.mem_filter.1 hy
 obtain ⟨i,hi,rfl⟩:=List.mem_map.1 h1
 have:=List.mem_range.1 hi
 exact ⟨by omega,by omega,h2⟩
end Go.Eng.Sv
