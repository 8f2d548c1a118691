/- PeTr5j, PeTrDj -/
import Derived.Test.YtlobbofhlcjlmaaGreatDoorZ22
import Derived.Test.YtlobbofhlcjlmaaGreatDoorTr4j
set_option linter.unusedSimpArgs false
set_option linter.unusedVariables false
set_option maxRecDepth 100000
noncomputable section
namespace Go.Eng.Sv
open Go.Proofs
def wayOk (n:Net) (nx:List (List Int)) (o to t:Int):Bool:=(idxF o n.2.2.2.1.length && idxF to n.2.2.2.1.length && timeOk t) && (soundF n && tabF n nx)
def WayL (n:Net) (nx:List (List Int)) (o to t:Int):List Stop:=if wayOk n nx o to t=true then wayL n nx o to t else []
def WayE (n:Net) (nx:List (List Int)) (o to t:Int):Int:=if wayOk n nx o to t=true then wayE n nx o to t else 1
def codeK (args:List AV) (m:Mem):Option CRes:=match args,m with
 | [.ifc t (.dat (.int .i64) e)],[]=>if t=39 then some ⟨True,.dat I e,[]⟩ else none
 | _,_=>none
def KR5:Kt:=kOr 37 codeK <|
 kOr 46 (dataK [.ptr N,.val M,.val I,.val I,.val I] (fun (n,nx,o,to,t,_)=>wayP n nx o to t∧isZero (wayE n nx o to t)=true) fun (n,nx,o,to,t,_)=>.dat (.sl Stp) (wayL n nx o to t)) KR4
def KPw:KPt:=pOr 46 (dataP [.ptr N,.val M,.val I,.val I,.val I] fun (n,nx,o,to,t,_)=>⟨wayP n nx o to t,isZero (wayE n nx o to t),errV 39 (wayE n nx o to t)⟩) <|
 pOr 38 (dataP [.val .bool] fun (b,_)=>⟨True,b,errV 39 1⟩) KPm
def cY:Cfg:=mkp KR5 (fun _=>false) KPw (fun f=>f == 46 || f == 38)
theorem vc_pway (nx:List (List Int)) (o to t:Int) (cs:LC) (ns os:LB) (fs:List Off) (ls:List Line) (ks:List Cla) (hvc :
 let c1:=D.ilen fs;
 let c2:=idxF o c1;
 let c3:=D.cnd c2 (idxF to c1) false;
 let c4:=D.cnd c3 (timeOk t) false;
 let c5:=(cs,ns,os,fs,ls,ks);
 let c6:=WayL c5 nx o to t;
 let c7:=WayE c5 nx o to t;
 let c8:=soundF c5;
 let c9:=D.cnd c8 (tabF c5 nx) false;
 let c10:=wayE c5 nx o to t;
 let c11:=isZero c10;(false=false∧true=true)∧(fitsM nx→true=true∧True∧(c2=true→c2=true→c2=true)∧(c2=true→c2=true→c2 =
 true)∧(c2=true→c2=true→c2=true)∧(c2=true→c2=true→c2=true)∧(c2=true→True)∧(D.and true c2=true→c2=true)∧(c3=true→c3 =
 true→c3=true)∧(c3=true→True)∧(D.and true c3=true→c3=true)∧(true=true→True∧(c4=false→true=true∧true=true∧(D.not false =
 true→True∧1=1∧0=0∧1=1∧0=0∧1=1∧0=0∧1=1∧0=0∧c6=D.nil (Int×Int×Int×Int)∧(1:Int)=c7∧True)∧(D.not false =
 false→1=1∧0=0∧1=1∧0=0∧c6=D.nil (Int×Int×Int×Int)∧(0:Int)=c7∧True)))∧((true=true→c4=true)→(True∧c4=true)∧True
 ∧ (c8=true→c8=true→c8=true)∧(c8=true→fitsM nx)∧(D.and true c8=true→c8=true)∧(true=true→True∧(c9=false→true=true∧true =
 true∧(D.not false=true→True∧1=1∧0=0∧1=1∧0=0∧1=1∧0=0∧1=1∧0=0∧c6=D.nil (Int×Int×Int×Int)∧(1:Int)=c7∧True)
 ∧ (D.not false=false→1=1∧0=0∧1=1∧0=0∧c6=D.nil (Int×Int×Int×Int)∧(0:Int)=c7∧True)))∧((true=true→c9=true)→(True ∧
 c9=true)∧(true=true→wayP c5 nx o to t∧(c11=false→true=true∧true=true∧(D.not false=true→True∧1=1∧0=0∧1=1∧0=0∧1=1 ∧
 0=0∧1=1∧0=0∧c6=D.nil (Int×Int×Int×Int)∧c10=c7∧True)∧(D.not false=false→1=1∧0=0∧1=1∧0=0∧c6=D.nil (Int×Int ×
 Int×Int)∧(0:Int)=c7∧True)))∧((true=true→c11=true)→(wayP c5 nx o to t∧c11=true)∧1=1∧0=0∧1=1∧0=0∧true=true∧true =
 true∧(D.not true=true→False)∧(D.not true=false→1=1∧0=0∧1=1∧0=0∧wayL c5 nx o to t=c6∧(0:Int)=c7∧True)))))) :
  evG cY noAnn noAnn 13 [net cs ns os fs ls ks,.dat M nx,.dat I o,.dat I to,.dat I t] ⟨fitsM nx,.tup [.dat (.sl Stp) (WayL (cs,ns,os,fs,ls,ks) nx o to t),.dat I (WayE (cs,ns,os,fs,ls,ks) nx o to t)],[]⟩:=@of_eq _ _ (by kernel_rfl) hvc
theorem codeK_ok:∀ args m c,codeK args m=some c→SoundC Tryz.prog G0 37 args m c:=by
 intro args m c h
 unfold codeK at h
 split at h
 ·split at h
  ·rename_i e
   subst e
   cases h
   exact t_pcode _
  ·cases h
 ·cases h
theorem KSR5:KSound Tryz.prog G0 KR5:=kOr_ok codeK_ok <| kOr_ok (dataK_ok fun ((cs,ns,os,fs,ls,ks),nx,o,to,t,_)=>(t_pwalk nx o to t cs ns os fs ls ks).1) KSR4
theorem KPw_ok:KPSound Tryz.prog G0 KPw:=pOr_ok (dataP_ok fun ((cs,ns,os,fs,ls,ks),nx,o,to,t,_)=>(t_pwalk nx o to t cs ns os fs ls ks).2) <| pOr_ok (dataP_ok fun (b,_)=>(t_pdemand b).2) KPm_ok
theorem way_nil {n:Net} {nx:List (List Int)} {to:Int} (k:Nat) (o t:Int) (h:(wayN n nx to k o t).2≠0):(wayN n nx to k o t).1=[]:=by
 by_cases h0:o=to
 ·rw [way_to k h0] at h;exact absurd rfl h
 ·by_cases h1:nxt nx o to=-1
  ·rw [way_route k h0 h1]
  ·by_cases h2:depE n (nxt nx o to) (readyF n o t)=0
   ·cases k with
    | zero=>rw [way_full h0 h1 h2]
    | succ k =>
     rw [way_next k h0 h1 h2] at h ⊢
     unfold preW at h ⊢
     split
     ·rename_i h3;rw [if_pos h3] at h;exact absurd rfl h
     ·rfl
   ·rw [way_err k h0 h1 h2]
theorem idxF_iff {i l:Int}:idxF i l=true↔0≤i∧i < l:=by unfold idxF;simp
theorem wayOk_iff {n:Net} {nx:List (List Int)} {o to t:Int}:wayOk n nx o to t=true↔(((0≤o∧o < n.2.2.2.1.length)∧(0≤to∧to < n.2.2.2.1.length))∧(0≤t∧t≤2000000))∧soundF n=true∧tabF n nx=true:=by
 unfold wayOk timeOk
 simp only [Bool.and_eq_true,idxF_iff,decide_eq_true_eq]
theorem t_pway (nx:List (List Int)) (o to t:Int) (cs:LC) (ns os:LB) (fs:List Off) (ls:List Line) (ks:List Cla):SoundC Tryz.prog G0 13 [net cs ns os fs ls ks,.dat M nx,.dat I o,.dat I to,.dat I t] [] ⟨fitsM nx,.tup [.dat (.sl Stp) (WayL (cs,ns,os,fs,ls,ks) nx o to t),.dat I (WayE (cs,ns,os,fs,ls,ks) nx o to t)],[]⟩:=by
 refine sound_of_evG (c:=cY) KSR5 KI0s hm KPw_ok (vc_pway nx o to t cs ns os fs ls ks ⟨⟨rfl,rfl⟩,fun hp=>?_⟩)
 have hW1:wayOk (cs,ns,os,fs,ls,ks) nx o to t=true→WayL (cs,ns,os,fs,ls,ks) nx o to t=wayL (cs,ns,os,fs,ls,ks) nx o to t∧WayE (cs,ns,os,fs,ls,ks) nx o to t=wayE (cs,ns,os,fs,ls,ks) nx o to t:=fun h=>⟨if_pos h,if_pos h⟩
 have hW0:wayOk (cs,ns,os,fs,ls,ks) nx o to t=false→WayL (cs,ns,os,fs,ls,ks) nx o to t=[]∧WayE (cs,ns,os,fs,ls,ks) nx o to t=1:=fun h=>⟨if_neg (by simp [h]),if_neg (by simp [h])⟩
 simp only [cnd_and,D.and,D.not,Bool.true_and,eq_self,true_and,and_true,imp_self,implies_true,Bool.not_eq_true',Bool.not_eq_false',Bool.and_eq_true,Bool.and_eq_false_imp,forall_const,D.nil,D.ilen]
 have no:wayOk (cs,ns,os,fs,ls,ks) nx o to t=false→(WayL (cs,ns,os,fs,ls,ks) nx o to t=[]∧1=WayE (cs,ns,os,fs,ls,ks) nx o to t)∧(false=true→WayL (cs,ns,os,fs,ls,ks) nx o to t=[]∧0=WayE (cs,ns,os,fs,ls,ks) nx o to t):=fun h=>by
  obtain ⟨h1,h2⟩:=hW0 h
  exact ⟨⟨h1,h2.symm⟩,fun h=>by cases h⟩
 refine ⟨fun h=>no ?_,fun hi=>⟨hi,fun _=>hp,fun h=>no ?_,fun hs=>?_⟩⟩
 ·unfold wayOk
  show (idxF o fs.length && idxF to fs.length && timeOk t && _)=false
  cases h1:idxF o fs.length <;> cases h2:idxF to fs.length <;> simp
  rw [h ⟨h1,h2⟩];simp
 ·unfold wayOk
  cases h1:soundF (cs,ns,os,fs,ls,ks)
  ·simp
  ·rw [h h1];simp
 ·have hok:wayOk (cs,ns,os,fs,ls,ks) nx o to t=true:=by
   unfold wayOk
   show (idxF o fs.length && idxF to fs.length && timeOk t && _)=true
   rw [hi.1.1,hi.1.2,hi.2,hs.1,hs.2];rfl
  obtain ⟨e1,e2⟩:=hW1 hok
  obtain ⟨⟨⟨⟨o0,o1⟩,⟨d0,d1⟩⟩,⟨t0,t1⟩⟩,q1,q2⟩:=wayOk_iff.1 hok
  have hw:wayP (cs,ns,os,fs,ls,ks) nx o to t:=⟨q1,q2,o0,o1,d0,d1,t0,by omega⟩
  rw [e1,e2]
  refine ⟨hs,⟨hw,fun hz=>⟨⟨way_nil 19 o t (isZero_not.1 hz),rfl⟩,fun h=>by cases h⟩⟩,fun hz=>⟨⟨hw,hz⟩,⟨(fun h=>by cases h),rfl,(isZero_iff.1 hz).symm⟩⟩⟩
end Go.Eng.Sv

set_option maxRecDepth 100000
noncomputable section
namespace Go.Eng.Sv
open Go.Proofs
def addO (w:List Bool) (h:List Int):Nat→Int→Option Int
 | 0,d=>some d
 | n + 1,d=>(nextO w h (d + 1)).bind (addO w h n)
def addD (w:List Bool) (h:List Int) (d n:Int):Int:=if n≤200 then (addO w h n.toNat d).getD 0 else 0
def addE (w:List Bool) (h:List Int) (d n:Int):Int:=if n≤200 then (if (addO w h n.toNat d).isSome then 0 else 20) else 1
def addP (z:Int) (w:List Bool) (h:List Int) (d n:Int):Prop:=validF z w h=true∧inDays d=true∧0≤n
def addTo (w:List Bool) (h:List Int) (d n i e:Int):Prop:=0≤i∧i≤n∧-1000000≤e∧e≤1000000 + 100 * i∧addO w h (n - i).toNat e=addO w h n.toNat d
def claAt (n:Net) (k:Int):Cla:=n.2.2.2.2.2.getD k.toNat (⟨#[]⟩,0,0)
def claP (n:Net) (k:Int):Prop:=0≤k∧k < n.2.2.2.2.2.length
def dlvP (n:Net) (k o t:Int):Prop:=(offP n o∧claP n k)∧timeOk t=true
def dlvD (n:Net) (k o t:Int):Int:=fstD (calAt n o) (claAt n k).2.2 (readyF n o t)
def dlvE (n:Net) (k o t:Int):Int:=fstE (calAt n o) (claAt n k).2.2 (readyF n o t)
def argOk (n:Net) (k o t:Int):Bool:=((idxF k n.2.2.2.2.2.length && idxF o n.2.2.2.1.length) && timeOk t) && soundF n
def DlvD (n:Net) (k o t:Int):Int:=if argOk n k o t=true then dlvD n k o t else 0
def DlvE (n:Net) (k o t:Int):Int:=if argOk n k o t=true then dlvE n k o t else 1
def CutD (n:Net) (k o t:Int):Int:=if argOk n k o t=true then fstD (calAt n o) (claAt n k).2.1 t else 0
def CutE (n:Net) (k o t:Int):Int:=if argOk n k o t=true then fstE (calAt n o) (claAt n k).2.1 t else 1
def rowsOk (m:Int) (t:List (List Int)):Bool:=decide ((t.length:Int)=m) && t.all fun r=>decide ((r.length:Int)=m)
def compF (n:Net) (dy:List (List (List Int))):Bool:=decide ((dy.length:Int)=n.2.2.2.2.2.length) && dy.all (rowsOk n.2.2.2.1.length)
def fitsT (dy:List (List (List Int))):Prop:=dy.length≤1000000∧∀ t ∈ dy,fitsM t
def compTo (n:Net) (dy:List (List (List Int))) (k:Int):Prop:=0≤k∧k≤dy.length∧(dy.length:Int)=n.2.2.2.2.2.length∧(dy.take k.toNat).all (rowsOk n.2.2.2.1.length)=true
def compTo2 (n:Net) (t:List (List Int)) (k:Int):Prop:=0≤k∧k≤t.length∧(t.length:Int)=n.2.2.2.1.length∧(t.take k.toNat).all (fun r=>decide ((r.length:Int)=n.2.2.2.1.length))=true
def dueOk (n:Net) (dy:List (List (List Int))) (x:ByteArray×Int×Int×Int×Int):Bool:=((compF n dy && idxF x.2.2.2.1 n.2.2.2.2.2.length) && (idxF x.2.1 n.2.2.2.1.length && idxF x.2.2.1 n.2.2.2.1.length)) && ((decide (0≤x.2.2.2.2) && decide (x.2.2.2.2≤1000000)) && soundF n)
def dueN (dy:List (List (List Int))) (x:ByteArray×Int×Int×Int×Int):Int:=((dy.getD x.2.2.2.1.toNat []).getD x.2.1.toNat []).getD x.2.2.1.toNat 0
def dueC (n:Net) (x:ByteArray×Int×Int×Int×Int):Int:=fstD (calAt n x.2.1) (claAt n x.2.2.2.1).2.1 x.2.2.2.2
def dueCE (n:Net) (x:ByteArray×Int×Int×Int×Int):Int:=fstE (calAt n x.2.1) (claAt n x.2.2.2.1).2.1 x.2.2.2.2
def dueA (n:Net) (x:ByteArray×Int×Int×Int×Int):Int:=dayF (calAt n x.2.2.1).1 (dueC n x)
def dueAE (n:Net) (dy:List (List (List Int))) (x:ByteArray×Int×Int×Int×Int):Int:=addE (calAt n x.2.2.1).2.1 (calAt n x.2.2.1).2.2 (dueA n x) (dueN dy x)
def dueAD (n:Net) (dy:List (List (List Int))) (x:ByteArray×Int×Int×Int×Int):Int:=addD (calAt n x.2.2.1).2.1 (calAt n x.2.2.1).2.2 (dueA n x) (dueN dy x)
def DueE (n:Net) (dy:List (List (List Int))) (x:ByteArray×Int×Int×Int×Int):Int:=if dueOk n dy x=true then if dueCE n x=0 then if dueN dy x < 0 then 170 else dueAE n dy x else dueCE n x else 1
def DueD (n:Net) (dy:List (List (List Int))) (x:ByteArray×Int×Int×Int×Int):Int:=if DueE n dy x=0 then timeF (calAt n x.2.2.1).1 (dueAD n dy x) (claAt n x.2.2.2.1).2.2 else 0
def addA (w:List Bool) (h:List Int) (d n:Int):Ann:=⟨fun id s=>match id with
 | 4=>some { α:=Int×Int,inv:=fun x=>addTo w h d n (p1 x) (p2 x),st:=fun x=>putM (put s [(27,.dat I (p1 x))]) 0 (.var [.dat I (p2 x)]),μ:=fun x=>D.nat (D.sub n (p1 x)) }
 | 7=>some { α:=Nat,inv:=fun k=>isZ k,st:=fun _=>flat s,μ:=fun k=>k }
 | _=>none,fun _ _=>none,fun _ _=>none⟩
def cAdd:Cfg:={ mkr1 KR1 with mb:=fun t=>t == 4 }
theorem vc_cadd (z:Int) (w:List Bool) (h:List Int) (d n:Int) (hvc :
 let c1:=D.not (validF z w h);
 let c2:=D.not c1;
 let c3:=D.cnd c1 true (D.not (inDays d));
 let c4:=D.not c3;
 let c5:=D.cnd c3 true (D.lt n (0:Int));
 let c6:=D.not c5;
 let c7:=D.cnd c5 true (D.gt n (200:Int));
 let c8:=addD w h d n;
 let c9:=addE w h d n;
 let c10:=(z,w,h);true=true∧(addP z w h d n→True∧(c2=true→1=1)∧(c2=true→0=0)∧(c2=true→c2=true→c2=true)∧(c2=true →
 True)∧(c2=true→c2=true→c2=true)∧(D.and true c2=true→c2=true)∧(c4=true→c4=true→c4=true)∧(D.and true c4=true→c4=true) ∧
 (c6=true→c6=true→c6=true)∧(D.and true c6=true→c6=true)∧(c7=true→(0:Int)=c8∧(1:Int)=c9∧True)∧(c7=false→(∃ x,addTo w h
 d n (p1 x) (p2 x)∧z=z∧w=w∧h=h∧d=d∧n=n∧c10=c10∧1=1∧0=0∧0=0∧z=z∧w=w∧h=h∧validF z w h=validF z w h∧c1=c1 ∧
 c1=c1∧c3=c3∧c3=c3∧c5=c5∧c5=c5∧c7=c7∧n=n∧(0:Int)=p1 x∧d=p2 x∧True)∧∀ (x:Int×Int),
 let c11:=D.add (p2 x) (1:Int);
 let c12:=listF w h c11 (60:Int);
 let c13:=D.add (p1 x) (1:Int);addTo w h d n (p1 x) (p2 x)→(D.lt (p1 x) n=true→1=1∧0=0∧1=1∧0=0∧inR IntKind.i64 c11∧D.len w=7 ∧
 daysP w h c11 (60:Int)∧(∃ x_3,isZ x_3∧x_3=0∧z=z∧w=w∧h=h∧d=d∧n=n∧c10=c10∧1=1∧0=0∧0=0∧1=1∧0=0∧0=0∧z =
 z∧w=w∧h=h∧validF z w h=validF z w h∧c1=c1∧c1=c1∧c3=c3∧c3=c3∧c5=c5∧c5=c5∧c7=c7∧n=n∧p1 x=p1 x∧D.lt (p1 x) n =
 D.lt (p1 x) n∧z=z∧w=w∧h=h∧p2 x=p2 x∧c11=c11∧c11=c11∧(60:Int)=(60:Int)∧w=w∧c10=c10∧p2 x=p2 x∧false=false∧True)
 ∧ (∀ (x_3:Nat) (y:Int),isZ x_3→isAt c12 x_3 y→1=1∧0=0∧1=1∧0=0∧1=1∧0=0∧(D.not true=true→(0:Int)=c8∧(20:Int)=c9 ∧
 True)∧(D.not true=false→inR IntKind.i64 c13∧∃ y_1,addTo w h d n (p1 y_1) (p2 y_1)∧(z=z∧w=w∧h=h∧d=d∧n=n∧c10=c10∧1=1∧0=0
 ∧ 0=0∧z=z∧w=w∧h=h∧validF z w h=validF z w h∧c1=c1∧c1=c1∧c3=c3∧c3=c3∧c5=c5∧c5=c5∧c7=c7∧n=n∧c13=p1 y_1∧y
 = p2 y_1∧True)∧D.nlt (D.nat (D.sub n (p1 y_1))) (D.nat (D.sub n (p1 x)))))∧∀ (x_3:Nat),isZ x_3→x_3=D.len c12→1=1∧0=0∧(D.not false=true
 → (0:Int)=c8∧(20:Int)=c9∧True)∧(D.not false=false→inR IntKind.i64 c13∧∃ y,addTo w h d n (p1 y) (p2 y)∧(z=z∧w=w∧h=h∧d=d∧n
 = n∧c10=c10∧1=1∧0=0∧0=0∧z=z∧w=w∧h=h∧validF z w h=validF z w h∧c1=c1∧c1=c1∧c3=c3∧c3=c3∧c5=c5∧c5=c5∧c7
 = c7∧n=n∧c13=p1 y∧p2 x=p2 y∧True)∧D.nlt (D.nat (D.sub n (p1 y))) (D.nat (D.sub n (p1 x)))))∧(D.lt (p1 x) n=false→1=1∧0=0∧p2 x =
 c8∧(0:Int)=c9∧True)))) :
  evF cAdd (addA w h d n) 43 [cal z w h,.dat I d,.dat I n] [] ⟨addP z w h d n,.tup [.dat I (addD w h d n),.dat I (addE w h d n)],[]⟩:=@of_eq _ _ (by kernel_rfl) hvc
def compA (n:Net) (dy:List (List (List Int))):Ann:=⟨fun id s=>match id with
 | 4=>some { α:=Int,inv:=fun k=>compTo n dy k,st:=fun k=>put s [(19,.dat I k)],μ:=fun k=>D.nat (D.sub (D.ilen dy) k) }
 | 9=>match s.sig.T 31 with
  | .dat (.sl (.sl (.int .i64))) t=>some { α:=Int,inv:=fun k=>compTo2 n t k,st:=fun k=>put s [(33,.dat I k)],μ:=fun k=>D.nat (D.sub (D.ilen t) k) }
  | _=>none
 | _=>none,fun _ _=>none,fun _ _=>none⟩
theorem vc_comp (dy:List (List (List Int))) (cs:LC) (ns os:LB) (fs:List Off) (ls:List Line) (ks:List Cla) (hvc :
 let c1:=D.ilen dy;
 let c2:=D.ilen ks;
 let c3:=D.ne c1 c2;
 let c4:=(fs,ls,ks);
 let c5:=(cs,ns,os,c4);
 let c6:=compF c5 dy;
 let c7:=D.ilen fs;true=true∧(fitsT dy→(c3=true→false=c6∧True)∧(c3=false→(∃ x,compTo c5 dy x∧c5=c5∧dy=dy∧dy=dy∧c1=c1∧c5
 = c5∧c5=c5∧ks=ks∧ks=ks∧c2=c2∧c3=c3∧dy=dy∧c1=c1∧(0:Int)=x∧True)∧∀ (x:Int),
 let c8:=D.get dy (D.nat x) (D.nil (List Int));
 let c9:=D.ilen c8;
 let c10:=D.ne c9 c7;
 let c11:=D.add x (1:Int);compTo c5 dy x→(D.lt x c1=true→D.ile (0:Int) x∧D.ilt x c1∧(c10=true→false=c6∧True)∧(c10=false→(∃ x_4,
 compTo2 c5 c8 x_4∧c5=c5∧dy=dy∧c8=c8∧dy=dy∧c1=c1∧c5=c5∧c5=c5∧ks=ks∧ks=ks∧c2=c2∧c3=c3∧dy=dy∧c1=c1∧x=x ∧
 D.lt x c1=D.lt x c1∧c8=c8∧c8=c8∧c8=c8∧c9=c9∧c5=c5∧c5=c5∧c4=c4∧fs=fs∧c7=c7∧c10=c10∧c8=c8∧c9=c9∧(0:Int) =
 x_4∧True)∧∀ (x_4:Int),
 let c12:=D.ne (D.ilen (D.get c8 (D.nat x_4) (D.nil Int))) c7;
 let c13:=D.add x_4 (1:Int);compTo2 c5 c8 x_4→(D.lt x_4 c9=true→D.ile (0:Int) x_4∧D.ilt x_4 c9∧(c12=true→false=c6∧True)∧(c12=false →
 inR IntKind.i64 c13∧∃ y,compTo2 c5 c8 y∧(c5=c5∧dy=dy∧c8=c8∧dy=dy∧c1=c1∧c5=c5∧c5=c5∧ks=ks∧ks=ks∧c2=c2∧c3=c3∧dy
 = dy∧c1=c1∧x=x∧D.lt x c1=D.lt x c1∧c8=c8∧c8=c8∧c8=c8∧c9=c9∧c5=c5∧c5=c5∧c4=c4∧fs=fs∧c7=c7∧c10=c10∧c8=c8
 ∧ c9=c9∧c13=y∧True)∧D.nlt (D.nat (D.sub c9 y)) (D.nat (D.sub c9 x_4))))∧(D.lt x_4 c9=false→inR IntKind.i64 c11∧∃ y,compTo c5 dy y∧(c5=c5
 ∧ dy=dy∧dy=dy∧c1=c1∧c5=c5∧c5=c5∧ks=ks∧ks=ks∧c2=c2∧c3=c3∧dy=dy∧c1=c1∧c11=y∧True)∧D.nlt (D.nat (D.sub c1 y))
 (D.nat (D.sub c1 x)))))∧(D.lt x c1=false→true=c6∧True)))) :
  evF (mkc KR5) (compA (cs,ns,os,fs,ls,ks) dy) 39 [.ip N (cs,ns,os,fs,ls,ks),.dat (.sl M) dy] [] ⟨fitsT dy,.dat .bool (compF (cs,ns,os,fs,ls,ks) dy),[]⟩:=@of_eq _ _ (by kernel_rfl) hvc
theorem vc_dlv (k o t:Int) (cs:LC) (ns os:LB) (fs:List Off) (ls:List Line) (ks:List Cla) (hvc :
 let c1:=(cs,ns,os,fs,ls,ks);
 let c2:=calAt c1 o;
 let c3:=c2.snd;
 let c4:=(c2.fst,c3.fst,c3.snd);
 let c5:=(D.get ks (D.nat k) (ByteArray.mk (D.nil UInt8).toArray,(0:Int),(0:Int))).snd.snd;
 let c6:=readyF c1 o t;true=true∧(dlvP c1 k o t→offP c1 o∧D.ile (0:Int) k∧D.ilt k (D.ilen ks)∧readyP c1 o t∧fstP c4 c5 c6∧fstD c4 c5 c6 =
 dlvD c1 k o t∧fstE c4 c5 c6=dlvE c1 k o t∧True)) :
  evF (mkc KR5) noAnn 47 [.ip N (cs,ns,os,fs,ls,ks),.dat I k,.dat I o,.dat I t] [] ⟨dlvP (cs,ns,os,fs,ls,ks) k o t,.tup [.dat I (dlvD (cs,ns,os,fs,ls,ks) k o t),.dat I (dlvE (cs,ns,os,fs,ls,ks) k o t)],[]⟩:=@of_eq _ _ (by kernel_rfl) hvc
def KRD:Kt:=kOr 43 (dataK [.row C,.val I,.val I] (fun (c,d,n,_)=>addP c.1 c.2.1 c.2.2 d n) fun (c,d,n,_)=>.tup [.dat I (addD c.2.1 c.2.2 d n),.dat I (addE c.2.1 c.2.2 d n)]) <|
 kOr 39 (dataK [.ptr N,.val (.sl M)] (fun (_,dy,_)=>fitsT dy) fun (n,dy,_)=>.dat .bool (compF n dy)) <|
 kOr 47 (dataK [.ptr N,.val I,.val I,.val I] (fun (n,k,o,t,_)=>dlvP n k o t) fun (n,k,o,t,_)=>.tup [.dat I (dlvD n k o t),.dat I (dlvE n k o t)]) KR5
theorem vc_Dlv (k o t:Int) (cs:LC) (ns os:LB) (fs:List Off) (ls:List Line) (ks:List Cla) (hvc :
 let c1:=D.not (idxF k (D.ilen ks));
 let c2:=D.not c1;
 let c3:=D.cnd c1 true (D.not (idxF o (D.ilen fs)));
 let c4:=D.not c3;
 let c5:=D.cnd c3 true (D.not (timeOk t));
 let c6:=D.not c5;
 let c7:=(cs,ns,os,fs,ls,ks);
 let c8:=D.cnd c5 true (D.not (soundF c7));
 let c9:=DlvD c7 k o t;
 let c10:=DlvE c7 k o t;true=true∧(True→True∧(c2=true→c2=true→c2=true)∧(c2=true→c2=true→c2=true)∧(c2=true→c2=true→c2 =
 true)∧(c2=true→c2=true→c2=true)∧(c2=true→True)∧(c2=true→c2=true→c2=true)∧(D.and true c2=true→c2=true)∧(c4=true→c4 =
 true→c4=true)∧(c4=true→True)∧(c4=true→c4=true→c4=true)∧(D.and true c4=true→c4=true)∧(c6=true→True)∧(c6=true→c6=true
 → c6=true)∧(D.and true c6=true→c6=true)∧(c8=true→(0:Int)=c9∧(1:Int)=c10∧True)∧(c8=false→dlvP c7 k o t∧dlvD c7 k o t=c9 ∧
 dlvE c7 k o t=c10∧True))) :
  evF (mkc KRD) noAnn 14 [net cs ns os fs ls ks,.dat I k,.dat I o,.dat I t] [] ⟨True,.tup [.dat I (DlvD (cs,ns,os,fs,ls,ks) k o t),.dat I (DlvE (cs,ns,os,fs,ls,ks) k o t)],[]⟩:=@of_eq _ _ (by kernel_rfl) hvc
theorem vc_Cut (k o t:Int) (cs:LC) (ns os:LB) (fs:List Off) (ls:List Line) (ks:List Cla) (hvc :
 let c1:=D.ilen ks;
 let c2:=D.not (idxF k c1);
 let c3:=D.not c2;
 let c4:=D.cnd c2 true (D.not (idxF o (D.ilen fs)));
 let c5:=D.not c4;
 let c6:=D.cnd c4 true (D.not (timeOk t));
 let c7:=D.not c6;
 let c8:=(cs,ns,os,fs,ls,ks);
 let c9:=D.cnd c6 true (D.not (soundF c8));
 let c10:=CutD c8 k o t;
 let c11:=CutE c8 k o t;
 let c12:=calAt c8 o;
 let c13:=c12.snd;
 let c14:=(c12.fst,c13.fst,c13.snd);
 let c15:=(D.get ks (D.nat k) (ByteArray.mk (D.nil UInt8).toArray,(0:Int),(0:Int))).snd.fst;true=true∧(True→True∧(c3=true→c3=true→c3 =
 true)∧(c3=true→c3=true→c3=true)∧(c3=true→c3=true→c3=true)∧(c3=true→c3=true→c3=true)∧(c3=true→True)∧(c3=true→c3
 = true→c3=true)∧(D.and true c3=true→c3=true)∧(c5=true→c5=true→c5=true)∧(c5=true→True)∧(c5=true→c5=true→c5=true) ∧
 (D.and true c5=true→c5=true)∧(c7=true→True)∧(c7=true→c7=true→c7=true)∧(D.and true c7=true→c7=true)∧(c9=true→(0:Int) =
 c10∧(1:Int)=c11∧True)∧(c9=false→offP c8 o∧D.ile (0:Int) k∧D.ilt k c1∧fstP c14 c15 t∧fstD c14 c15 t=c10∧fstE c14 c15 t=c11 ∧
 True))) :
  evF (mkc KRD) noAnn 11 [net cs ns os fs ls ks,.dat I k,.dat I o,.dat I t] [] ⟨True,.tup [.dat I (CutD (cs,ns,os,fs,ls,ks) k o t),.dat I (CutE (cs,ns,os,fs,ls,ks) k o t)],[]⟩:=@of_eq _ _ (by kernel_rfl) hvc
def cDue:Cfg:=mkp KRD (fun _=>false) KPw (fun f=>f == 40 || f == 38)
theorem vc_Due (dy:List (List (List Int))) (x1:ByteArray) (x2 x3 x4 x5:Int) (cs:LC) (ns os:LB) (fs:List Off) (ls:List Line) (ks:List Cla) (hvc :
 let c1:=(cs,ns,os,fs,ls,ks);
 let c2:=compF c1 dy;
 let c3:=D.ilen ks;
 let c4:=D.cnd c2 (idxF x4 c3) false;
 let c5:=(x1,x2,x3,x4,x5);
 let c6:=DueD c1 dy c5;
 let c7:=DueE c1 dy c5;
 let c8:=D.ilen fs;
 let c9:=idxF x2 c8;
 let c10:=D.cnd c9 (idxF x3 c8) false;
 let c11:=D.ge x5 (0:Int);
 let c12:=D.cnd c11 (D.le x5 (1000000:Int)) false;
 let c13:=D.cnd c12 (soundF c1) false;
 let c14:=calAt c1 x2;
 let c15:=c14.snd;
 let c16:=(c14.fst,c15.fst,c15.snd);
 let c17:=(D.get ks (D.nat x4) (ByteArray.mk (D.nil UInt8).toArray,(0:Int),(0:Int))).snd;
 let c18:=c17.fst;
 let c19:=fstE c16 c18 x5;
 let c20:=isZero c19;
 let c21:=D.get dy (D.nat x4) (D.nil (List Int));
 let c22:=D.get c21 (D.nat x2) (D.nil Int);
 let c23:=D.get c22 (D.nat x3) (0:Int);
 let c24:=D.lt c23 (0:Int);
 let c25:=calAt c1 x3;
 let c26:=c25.fst;
 let c27:=c25.snd;
 let c28:=c27.fst;
 let c29:=c27.snd;
 let c30:=fstD c16 c18 x5;
 let c31:=dayF c26 c30;
 let c32:=addE c28 c29 c31 c23;
 let c33:=isZero c32;
 let c34:=addD c28 c29 c31 c23;
 let c35:=c17.snd;(false=false∧true=true)∧(fitsT dy→true=true∧fitsT dy∧(c2=true→c2=true→c2=true)∧(c2=true→c2=true→c2 =
 true)∧(c2=true→c2=true→c2=true)∧(c2=true→c2=true→c2=true)∧(c2=true→c2=true→c2=true)∧(c2=true→True)∧(D.and true c2 =
 true→c2=true)∧(true=true→True∧(c4=false→true=true∧true=true∧(D.not false=true→True∧1=1∧0=0∧1=1∧0=0∧1=1∧0=0
 ∧ 1=1∧0=0∧(0:Int)=c6∧(1:Int)=c7∧True)∧(D.not false=false→1=1∧0=0∧1=1∧0=0∧(0:Int)=c6∧(0:Int)=c7∧True))) ∧
 ((true=true→c4=true)→(True∧c4=true)∧True∧(c9=true→c9=true→c9=true)∧(c9=true→c9=true→c9=true)∧(c9=true→c9=true →
 c9=true)∧(c9=true→c9=true→c9=true)∧(c9=true→c9=true→c9=true)∧(c9=true→True)∧(D.and true c9=true→c9=true)∧(true=true
 → True∧(c10=false→true=true∧true=true∧(D.not false=true→True∧1=1∧0=0∧1=1∧0=0∧1=1∧0=0∧1=1∧0=0∧(0:Int)=c6
 ∧ (1:Int)=c7∧True)∧(D.not false=false→1=1∧0=0∧1=1∧0=0∧(0:Int)=c6∧(0:Int)=c7∧True)))∧((true=true→c10=true) →
 (True∧c10=true)∧(c11=true→c11=true→c11=true)∧(c11=true→c11=true→c11=true)∧(D.and true c11=true→c11=true)∧(c12=true →
 True)∧(D.and true c12=true→c12=true)∧(true=true→True∧(c13=false→true=true∧true=true∧(D.not false=true→True∧1=1∧0=0∧1
 = 1∧0=0∧1=1∧0=0∧1=1∧0=0∧(0:Int)=c6∧(1:Int)=c7∧True)∧(D.not false=false→1=1∧0=0∧1=1∧0=0∧(0:Int)=c6 ∧
 (0:Int)=c7∧True)))∧((true=true→c13=true)→(True∧c13=true)∧D.ile (0:Int) x4∧D.ilt x4 c3∧1=1∧0=0∧offP c1 x2∧1=1∧1=1 ∧
 0=0∧fstP c16 c18 x5∧True∧(c20=true→offP c1 x2∧1=1∧1=1∧0=0∧fstP c16 c18 x5∧(True∧c20=true)∧D.ile (0:Int) x4∧D.ilt x4
 (D.ilen dy)∧D.ile (0:Int) x2∧D.ilt x2 (D.ilen c21)∧D.ile (0:Int) x3∧D.ilt x3 (D.ilen c22)∧(c24=true→(true=true→True∧(false=false →
 true=true∧true=true∧(D.not false=true→True∧1=1∧0=0∧1=1∧0=0∧1=1∧0=0∧1=1∧0=0∧(0:Int)=c6∧(170:Int)=c7 ∧
 True)∧(D.not false=false→1=1∧0=0∧1=1∧0=0∧(0:Int)=c6∧(0:Int)=c7∧True)))∧True)∧(c24=false→offP c1 x3∧1=1∧0=0 ∧
 1=1∧0=0∧okLocal c26 c28 c29 c30∧1=1∧0=0∧1=1∧0=0∧addP c26 c28 c29 c31 c23∧1=1∧1=1∧0=0∧True∧(c33=true→1=1∧0=0
 ∧ 1=1∧0=0∧addP c26 c28 c29 c31 c23∧(True∧c33=true)∧1=1∧1=1∧0=0∧okTime c26 c28 c29 c34 c35∧1=1∧0=0∧1=1∧0=0∧true =
 true∧true=true∧(D.not true=true→False)∧(D.not true=false→1=1∧0=0∧1=1∧0=0∧timeF c26 c34 c35=c6∧(0:Int)=c7∧True)) ∧
 (c33=false→true=true∧true=true∧(D.not false=true→True∧1=1∧0=0∧1=1∧0=0∧1=1∧0=0∧1=1∧0=0∧(0:Int)=c6∧c32 =
 c7∧True)∧(D.not false=false→1=1∧0=0∧1=1∧0=0∧(0:Int)=c6∧(0:Int)=c7∧True))))∧(c20=false→true=true∧true=true ∧
 (D.not false=true→True∧1=1∧0=0∧1=1∧0=0∧1=1∧0=0∧1=1∧0=0∧(0:Int)=c6∧c19=c7∧True)∧(D.not false=false→1=1 ∧
 0=0∧1=1∧0=0∧(0:Int)=c6∧(0:Int)=c7∧True))))))) :
  evG cDue noAnn noAnn 12 [net cs ns os fs ls ks,.dat (.sl M) dy,.agg [.dat S x1,.dat I x2,.dat I x3,.dat I x4,.dat I x5]] ⟨fitsT dy,.tup [.dat I (DueD (cs,ns,os,fs,ls,ks) dy (x1,x2,x3,x4,x5)),.dat I (DueE (cs,ns,os,fs,ls,ks) dy (x1,x2,x3,x4,x5))],[]⟩:=@of_eq _ _ (by kernel_rfl) hvc
theorem noF_clas (cs:LC) (ns os:LB) (fs:List Off) (ls:List Line) (ks:List Cla) (h:noF (cs,ns,os,fs,ls,ks)=true):∀ x ∈ ks,goodCla x=true :=
 ((kindMap_iff (by decide) (fun l:Cla=>l.1) goodCla ks).1 (no_parts cs ns os fs ls ks h).2.2.2.2.2).2.2.2
theorem cla_ok (cs:LC) (ns os:LB) (fs:List Off) (ls:List Line) (ks:List Cla) {k:Int} (h:noF (cs,ns,os,fs,ls,ks)=true) (hk:claP (cs,ns,os,fs,ls,ks) k):(0≤(claAt (cs,ns,os,fs,ls,ks) k).2.1∧(claAt (cs,ns,os,fs,ls,ks) k).2.1≤1439)∧0≤(claAt (cs,ns,os,fs,ls,ks) k).2.2∧(claAt (cs,ns,os,fs,ls,ks) k).2.2≤1439:=by
 obtain ⟨k0,k1⟩:=hk
 have k1:k < (ks.length:Int):=k1
 have hm:claAt (cs,ns,os,fs,ls,ks) k ∈ ks:=by
  show ks.getD k.toNat _ ∈ ks
  rw [List.getD_eq_getElem?_getD,List.getElem?_eq_getElem (by omega),Option.getD_some]
  exact List.getElem_mem _
 have:=noF_clas cs ns os fs ls ks h _ hm
 unfold goodCla fromF at this
 simp only [Bool.and_eq_true,decide_eq_true_eq] at this
 omega
theorem time_iff {t:Int}:timeOk t=true↔0≤t∧t≤2000000:=by unfold timeOk;rw [decide_eq_true_eq]
theorem ready_bnd (cs:LC) (ns os:LB) (fs:List Off) (ls:List Line) (ks:List Cla) {o t:Int} (h:offP (cs,ns,os,fs,ls,ks) o):t + 1≤readyF (cs,ns,os,fs,ls,ks) o t∧readyF (cs,ns,os,fs,ls,ks) o t≤t + 960:=by
 obtain ⟨_,_,_,g1,g2,g3,g4⟩:=off_ok cs ns os fs ls ks h
 unfold readyF
 have h1:1 * 1≤(offAt (cs,ns,os,fs,ls,ks) o).2.2.2.2.1 * (offAt (cs,ns,os,fs,ls,ks) o).2.2.2.2.2.1:=Int.mul_le_mul g1 g3 (by decide) (by omega)
 have h2:(offAt (cs,ns,os,fs,ls,ks) o).2.2.2.2.1 * (offAt (cs,ns,os,fs,ls,ks) o).2.2.2.2.2.1≤4 * 240:=Int.mul_le_mul g2 g4 (by omega) (by decide)
 omega
theorem add_bnd {w:List Bool} {h:List Int}:∀ (k:Nat) {d e:Int},addO w h k d=some e→d≤e∧e≤d + 61 * k
 | 0,d,e,g=>by cases g;omega
 | k + 1,d,e,g=>by
  unfold addO at g
  obtain ⟨y,h1,h2⟩:=Option.bind_eq_some_iff.1 g
  have hm:y ∈ listF w h (d + 1) 60:=List.mem_of_mem_head? (by unfold nextO at h1;rw [h1];rfl)
  have:=listF_mem hm
  have:=add_bnd k h2
  omega
theorem s_cadd (z:Int) (w:List Bool) (h:List Int) (d n:Int):SoundC Tryz.prog G0 43 [cal z w h,.dat I d,.dat I n] [] ⟨addP z w h d n,.tup [.dat I (addD w h d n),.dat I (addE w h d n)],[]⟩:=by
 refine sound_of_ev (c:=cAdd) KSR1 KIR1s hm (vc_cadd z w h d n ⟨rfl,fun ⟨hv,hd,n1⟩=>?_⟩)
 have hc:=calOk_of hv
 have hd':=okd hd
 simp only [hv,hd]
 simp only [cnd_or,D.and,D.not,Bool.true_and,Bool.and_true,eq_self,true_and,and_true,imp_self,implies_true,Bool.not_eq_true',Bool.or_eq_true,Bool.or_eq_false_iff,Bool.not_eq_false',Bool.not_not,forall_const,exists_eq_right,D.lt,D.gt,D.nlt,D.sub,D.add,D.nat,D.len,decide_eq_true_eq,decide_eq_false_iff_not]
 refine ⟨fun h=>?_,fun ⟨_,h200⟩=>?_⟩
 ·have:¬ n≤200:=by
   rcases h with (h | h) | h
   ·simp at h
   ·omega
   ·omega
  unfold addD addE
  rw [if_neg this,if_neg this];exact ⟨rfl,rfl⟩
 have hle:n≤200:=by omega
 have eD:addD w h d n=(addO w h n.toNat d).getD 0:=if_pos hle
 have eE:addE w h d n=if (addO w h n.toNat d).isSome then 0 else 20:=if_pos hle
 refine ⟨⟨(0,d),⟨Int.le_refl _,n1,by simp only [p2];omega,by simp only [p1,p2];omega,by simp only [p1,p2,Int.sub_zero]⟩,rfl,rfl⟩,fun x hx=>⟨fun hlt=>?_,fun hge=>?_⟩⟩
 ·obtain ⟨i,e⟩:=x
  obtain ⟨i0,i1,i2,i3,i4⟩:=hx
  simp only [p1,p2] at i0 i1 i2 i3 i4 hlt ⊢
  have hsub:(n - i).toNat=(n - (i + 1)).toNat + 1:=by omega
  rw [hsub] at i4
  refine ⟨⟨by omega,by omega⟩,hc.1,⟨hc,by omega,by omega,by omega,by omega⟩,rfl,fun k y hk hy=>⟨fun h=>by simp at h,?_⟩,fun k hk hl=>⟨?_,fun h=>by simp at h⟩⟩
  ·have hk:k=0:=hk
   subst hk
   have hy:(listF w h (e + 1) 60)[0]?=some y:=hy
   obtain ⟨m1,m2,m3⟩:=listF_mem (List.mem_of_getElem? hy)
   have hno:nextO w h (e + 1)=some y:=by
    unfold nextO
    rw [List.head?_eq_getElem?];exact hy
   refine ⟨⟨by omega,by omega⟩,(i + 1,y),⟨by simp only [];omega,by simp only [];omega,by simp only [];omega,by simp only [];omega,?_⟩,⟨rfl,rfl⟩,by simp only;omega⟩
   simp only []
   rw [← i4]
   simp only [addO,hno,Option.bind_some]
  ·have hk:k=0:=hk
   subst hk
   have hno:nextO w h (e + 1)=none:=by
    unfold nextO
    rw [List.eq_nil_of_length_eq_zero hl.symm];rfl
   have:addO w h n.toNat d=none:=by
    rw [← i4]
    simp only [addO,hno,Option.bind_none]
   simp [eD,eE,this]
 ·obtain ⟨i,e⟩:=x
  obtain ⟨i0,i1,i2,i3,i4⟩:=hx
  simp only [p1,p2] at i0 i1 i2 i3 i4 hge ⊢
  rw [show (n - i).toNat=0 by omega] at i4
  have:addO w h n.toNat d=some e:=by rw [← i4];rfl
  simp [eD,eE,this]
theorem t_comp (dy:List (List (List Int))) (cs:LC) (ns os:LB) (fs:List Off) (ls:List Line) (ks:List Cla):SoundC Tryz.prog G0 39 [.ip N (cs,ns,os,fs,ls,ks),.dat (.sl M) dy] [] ⟨fitsT dy,.dat .bool (compF (cs,ns,os,fs,ls,ks) dy),[]⟩:=by
 refine sound_of_ev (c:=mkc KR5) KSR5 KI0s hm (vc_comp dy cs ns os fs ls ks ⟨rfl,fun hp=>?_⟩)
 simp only [eq_self,true_and,and_true,exists_eq_right',D.nil,D.ne,D.lt,D.ilen,D.ile,D.ilt,D.nlt,D.sub,D.add,D.nat,D.get,decide_eq_true_eq,decide_eq_false_iff_not,bne_iff_ne,bne_eq_false_iff_eq]
 obtain ⟨f1,f2⟩:=hp
 have ec:compF (cs,ns,os,fs,ls,ks) dy=(decide ((dy.length:Int)=ks.length) && dy.all (rowsOk fs.length)):=rfl
 have two:∀ {x:Int},0≤x→x < dy.length→rowsOk fs.length (dy.getD x.toNat [])=false→false=compF (cs,ns,os,fs,ls,ks) dy:=fun {x} h0 h1 hb=>by
  rw [ec,all_not (l:=dy) (d:=[]) (k:=x.toNat) (by omega) hb,Bool.and_false]
 refine ⟨fun h=>by rw [ec,decide_eq_false h];rfl,fun h=>⟨⟨Int.le_refl _,Int.natCast_nonneg _,h,rfl⟩,fun x ⟨x0,x1,x2,x3⟩=>⟨fun hlt=>⟨x0,hlt,fun hb=>two x0 hlt (by unfold rowsOk;rw [decide_eq_false hb];rfl),fun hr=>⟨⟨Int.le_refl _,Int.natCast_nonneg _,hr,rfl⟩,fun y ⟨y0,y1,y2,y3⟩=>⟨fun hly=>⟨y0,hly,fun hb=>two x0 hlt ?_,fun hb=>⟨?_,y + 1,⟨by omega,by omega,y2,?_⟩,rfl,by omega⟩⟩,fun hgy=>⟨?_,x + 1,⟨by omega,by omega,x2,?_⟩,rfl,by omega⟩⟩⟩⟩,fun hge=>?_⟩⟩⟩
 ·unfold rowsOk
  rw [all_not (l:=dy.getD x.toNat []) (d:=[]) (k:=y.toNat) (by omega) (decide_eq_false hb),Bool.and_false]
 ·have:=(f2 _ (getD_mem (l:=dy) (i:=x.toNat) (d:=[]) (by omega))).1
  exact in_big (by omega)
 ·rw [show (y + 1).toNat=y.toNat + 1 by omega]
  exact allTo_next (d:=[]) y3 (by omega) (decide_eq_true hb)
 ·exact in_big (by omega)
 ·rw [show (x + 1).toNat=x.toNat + 1 by omega]
  refine allTo_next (d:=[]) x3 (by omega) ?_
  rw [List.take_of_length_le (by omega)] at y3
  unfold rowsOk
  rw [decide_eq_true hr,y3];rfl
 ·rw [List.take_of_length_le (by omega)] at x3
  rw [ec,decide_eq_true h,x3];rfl
theorem t_dlv (k o t:Int) (cs:LC) (ns os:LB) (fs:List Off) (ls:List Line) (ks:List Cla):SoundC Tryz.prog G0 47 [.ip N (cs,ns,os,fs,ls,ks),.dat I k,.dat I o,.dat I t] [] ⟨dlvP (cs,ns,os,fs,ls,ks) k o t,.tup [.dat I (dlvD (cs,ns,os,fs,ls,ks) k o t),.dat I (dlvE (cs,ns,os,fs,ls,ks) k o t)],[]⟩:=by
 refine sound_of_ev (c:=mkc KR5) KSR5 KI0s hm (vc_dlv k o t cs ns os fs ls ks ⟨rfl,fun hp=>?_⟩)
 simp only [and_true,D.nil,D.ilen,D.ile,D.ilt,D.nat,D.get]
 obtain ⟨⟨ho,hk⟩,ht⟩:=hp
 have ht:=time_iff.1 ht
 have hr:=ready_bnd (t:=t) cs ns os fs ls ks ho
 have hv:=(off_ok cs ns os fs ls ks ho).2.2.1
 have hc:=(cla_ok cs ns os fs ls ks ho.1 hk).2
 exact ⟨ho,hk.1,hk.2,⟨ho,by omega,by omega⟩,⟨hv,hc.1,by show (claAt (cs,ns,os,fs,ls,ks) k).2.2 < 1440;omega,by omega,by omega⟩,rfl,rfl⟩
theorem KSRD:KSound Tryz.prog G0 KRD:=kOr_ok (dataK_ok fun ((z,w,h),d,n,_)=>s_cadd z w h d n) <| kOr_ok (dataK_ok fun ((cs,ns,os,fs,ls,ks),dy,_)=>t_comp dy cs ns os fs ls ks) <| kOr_ok (dataK_ok fun ((cs,ns,os,fs,ls,ks),k,o,t,_)=>t_dlv k o t cs ns os fs ls ks) KSR5
theorem t_Dlv (k o t:Int) (cs:LC) (ns os:LB) (fs:List Off) (ls:List Line) (ks:List Cla):SoundC Tryz.prog G0 14 [net cs ns os fs ls ks,.dat I k,.dat I o,.dat I t] [] ⟨True,.tup [.dat I (DlvD (cs,ns,os,fs,ls,ks) k o t),.dat I (DlvE (cs,ns,os,fs,ls,ks) k o t)],[]⟩:=by
 refine sound_of_ev (c:=mkc KRD) KSRD KI0s hm (vc_Dlv k o t cs ns os fs ls ks ⟨rfl,fun hp=>?_⟩)
 simp only [cnd_or,D.and,D.not,Bool.true_and,true_and,and_true,imp_self,implies_true,Bool.not_eq_true',Bool.or_eq_true,Bool.or_eq_false_iff,Bool.not_eq_false',Bool.not_not,D.ilen]
 have ea:argOk (cs,ns,os,fs,ls,ks) k o t=(((idxF k ks.length && idxF o fs.length) && timeOk t) && soundF (cs,ns,os,fs,ls,ks)):=rfl
 refine ⟨fun h=>?_,fun ⟨⟨⟨h1,h2⟩,h3⟩,h4⟩=>?_⟩
 ·have:argOk (cs,ns,os,fs,ls,ks) k o t=false:=by
   rw [ea]
   rcases h with ((h | h) | h) | h <;> rw [h] <;> simp
  unfold DlvD DlvE
  rw [this];exact ⟨rfl,rfl⟩
 ·have:argOk (cs,ns,os,fs,ls,ks) k o t=true:=by rw [ea,h1,h2,h3,h4];rfl
  have e1:=idxF_iff.1 h1
  have e2:=idxF_iff.1 h2
  unfold DlvD DlvE
  rw [this]
  exact ⟨⟨⟨⟨sound_noF cs ns os fs ls ks h4,e2.1,e2.2⟩,e1⟩,h3⟩,rfl,rfl⟩
theorem t_Cut (k o t:Int) (cs:LC) (ns os:LB) (fs:List Off) (ls:List Line) (ks:List Cla):SoundC Tryz.prog G0 11 [net cs ns os fs ls ks,.dat I k,.dat I o,.dat I t] [] ⟨True,.tup [.dat I (CutD (cs,ns,os,fs,ls,ks) k o t),.dat I (CutE (cs,ns,os,fs,ls,ks) k o t)],[]⟩:=by
 refine sound_of_ev (c:=mkc KRD) KSRD KI0s hm (vc_Cut k o t cs ns os fs ls ks ⟨rfl,fun hp=>?_⟩)
 simp only [cnd_or,D.and,D.not,Bool.true_and,true_and,and_true,imp_self,implies_true,Bool.not_eq_true',Bool.or_eq_true,Bool.or_eq_false_iff,Bool.not_eq_false',Bool.not_not,D.nil,D.ilen,D.ile,D.ilt,D.nat,D.get]
 have ea:argOk (cs,ns,os,fs,ls,ks) k o t=(((idxF k ks.length && idxF o fs.length) && timeOk t) && soundF (cs,ns,os,fs,ls,ks)):=rfl
 refine ⟨fun h=>?_,fun ⟨⟨⟨h1,h2⟩,h3⟩,h4⟩=>?_⟩
 ·have:argOk (cs,ns,os,fs,ls,ks) k o t=false:=by
   rw [ea]
   rcases h with ((h | h) | h) | h <;> rw [h] <;> simp
  unfold CutD CutE
  rw [this];exact ⟨rfl,rfl⟩
 ·have:argOk (cs,ns,os,fs,ls,ks) k o t=true:=by rw [ea,h1,h2,h3,h4];rfl
  have e1:=idxF_iff.1 h1
  have e2:=idxF_iff.1 h2
  have ho:offP (cs,ns,os,fs,ls,ks) o:=⟨sound_noF cs ns os fs ls ks h4,e2.1,e2.2⟩
  have ht:=time_iff.1 h3
  have hv:=(off_ok cs ns os fs ls ks ho).2.2.1
  have hc:=(cla_ok cs ns os fs ls ks ho.1 e1).1
  unfold CutD CutE
  rw [this]
  exact ⟨ho,e1.1,e1.2,⟨hv,hc.1,by show (claAt (cs,ns,os,fs,ls,ks) k).2.1 < 1440;omega,by omega,by omega⟩,rfl,rfl⟩
theorem t_Due (dy:List (List (List Int))) (x1:ByteArray) (x2 x3 x4 x5:Int) (cs:LC) (ns os:LB) (fs:List Off) (ls:List Line) (ks:List Cla):SoundC Tryz.prog G0 12 [net cs ns os fs ls ks,.dat (.sl M) dy,.agg [.dat S x1,.dat I x2,.dat I x3,.dat I x4,.dat I x5]] [] ⟨fitsT dy,.tup [.dat I (DueD (cs,ns,os,fs,ls,ks) dy (x1,x2,x3,x4,x5)),.dat I (DueE (cs,ns,os,fs,ls,ks) dy (x1,x2,x3,x4,x5))],[]⟩:=by
 refine sound_of_evG (c:=cDue) KSRD KI0s hm KPw_ok (vc_Due dy x1 x2 x3 x4 x5 cs ns os fs ls ks ⟨⟨rfl,rfl⟩,fun hp=>?_⟩)
 simp only [cnd_and,D.and,D.not,Bool.true_and,eq_self,true_and,and_true,imp_self,implies_true,Bool.not_eq_true',Bool.not_eq_false',Bool.and_eq_true,Bool.and_eq_false_imp,forall_const,D.nil,D.lt,D.le,D.ge,D.ilen,D.ile,D.ilt,D.nat,D.get,decide_eq_true_eq,decide_eq_false_iff_not]
 have two:∀ {p q:Prop},p→(p∧(false=true→q)):=fun h=>⟨h,fun h=>by cases h⟩
 obtain ⟨x,hx⟩:∃ x:ByteArray×Int×Int×Int×Int,x=(x1,x2,x3,x4,x5):=⟨_,rfl⟩
 have eo:dueOk (cs,ns,os,fs,ls,ks) dy x=((compF (cs,ns,os,fs,ls,ks) dy && idxF x4 ks.length) && (idxF x2 fs.length && idxF x3 fs.length) && ((decide (0≤x5) && decide (x5≤1000000)) && soundF (cs,ns,os,fs,ls,ks))):=by rw [hx];rfl
 have eC:fstD ((calAt (cs,ns,os,fs,ls,ks) x2).1,(calAt (cs,ns,os,fs,ls,ks) x2).2.1,(calAt (cs,ns,os,fs,ls,ks) x2).2.2) (ks.getD x4.toNat (⟨#[]⟩,0,0)).2.1 x5=dueC (cs,ns,os,fs,ls,ks) x:=by rw [hx];rfl
 have eE:fstE ((calAt (cs,ns,os,fs,ls,ks) x2).1,(calAt (cs,ns,os,fs,ls,ks) x2).2.1,(calAt (cs,ns,os,fs,ls,ks) x2).2.2) (ks.getD x4.toNat (⟨#[]⟩,0,0)).2.1 x5=dueCE (cs,ns,os,fs,ls,ks) x:=by rw [hx];rfl
 have eN:((dy.getD x4.toNat []).getD x2.toNat []).getD x3.toNat 0=dueN dy x:=by rw [hx];rfl
 have eA:dayF (calAt (cs,ns,os,fs,ls,ks) x3).1 (dueC (cs,ns,os,fs,ls,ks) x)=dueA (cs,ns,os,fs,ls,ks) x:=by rw [hx];rfl
 have eAE:addE (calAt (cs,ns,os,fs,ls,ks) x3).2.1 (calAt (cs,ns,os,fs,ls,ks) x3).2.2 (dueA (cs,ns,os,fs,ls,ks) x) (dueN dy x)=dueAE (cs,ns,os,fs,ls,ks) dy x:=by rw [hx];rfl
 have eAD:addD (calAt (cs,ns,os,fs,ls,ks) x3).2.1 (calAt (cs,ns,os,fs,ls,ks) x3).2.2 (dueA (cs,ns,os,fs,ls,ks) x) (dueN dy x)=dueAD (cs,ns,os,fs,ls,ks) dy x:=by rw [hx];rfl
 have eK:(ks.getD x4.toNat (⟨#[]⟩,0,0)).2.2=(claAt (cs,ns,os,fs,ls,ks) x4).2.2:=rfl
 have eDE:DueE (cs,ns,os,fs,ls,ks) dy x=if dueOk (cs,ns,os,fs,ls,ks) dy x=true then if dueCE (cs,ns,os,fs,ls,ks) x=0 then if dueN dy x < 0 then 170 else dueAE (cs,ns,os,fs,ls,ks) dy x else dueCE (cs,ns,os,fs,ls,ks) x else 1:=rfl
 have eDD:DueD (cs,ns,os,fs,ls,ks) dy x=if DueE (cs,ns,os,fs,ls,ks) dy x=0 then timeF (calAt (cs,ns,os,fs,ls,ks) x3).1 (dueAD (cs,ns,os,fs,ls,ks) dy x) (claAt (cs,ns,os,fs,ls,ks) x4).2.2 else 0:=by rw [hx];rfl
 rw [← hx]
 simp only [eC,eE,eN,eA,eAE,eAD,eK]
 have bad:∀ e,DueE (cs,ns,os,fs,ls,ks) dy x=e→e≠0→0=DueD (cs,ns,os,fs,ls,ks) dy x∧e=DueE (cs,ns,os,fs,ls,ks) dy x:=fun e he h0=>⟨by rw [eDD,if_neg (by rw [he];exact h0)],he.symm⟩
 have arg:dueOk (cs,ns,os,fs,ls,ks) dy x=false→0=DueD (cs,ns,os,fs,ls,ks) dy x∧1=DueE (cs,ns,os,fs,ls,ks) dy x:=fun h=>bad 1 (by rw [eDE,h];rfl) (by decide)
 refine ⟨hp,fun h=>two (arg ?_),fun h1=>⟨h1,fun h=>two (arg ?_),fun h2=>⟨h2,fun h=>two (arg ?_),fun h3=>⟨h3,?_⟩⟩⟩⟩
 ·rw [eo]
  cases e1:compF (cs,ns,os,fs,ls,ks) dy <;> cases e2:idxF x4 ks.length <;> simp
  simp [h e1] at e2
 ·rw [eo]
  cases e1:idxF x2 fs.length <;> cases e2:idxF x3 fs.length <;> simp
  simp [h e1] at e2
 ·rw [eo]
  by_cases e1:0≤x5 <;> by_cases e2:x5≤1000000 <;> simp [e1,e2]
  intros
  exact h ⟨e1,e2⟩
 ·obtain ⟨a1,a2⟩:=h1
  obtain ⟨b1,b2⟩:=h2
  obtain ⟨⟨c1,c2⟩,c3⟩:=h3
  have hok:dueOk (cs,ns,os,fs,ls,ks) dy x=true:=by rw [eo,a1,a2,b1,b2,c3,decide_eq_true (by omega:0≤x5),decide_eq_true c2];rfl
  have hno:=sound_noF cs ns os fs ls ks c3
  have i4:=idxF_iff.1 a2
  have i2:=idxF_iff.1 b1
  have i3:=idxF_iff.1 b2
  have o2:offP (cs,ns,os,fs,ls,ks) x2:=⟨hno,i2.1,i2.2⟩
  have o3:offP (cs,ns,os,fs,ls,ks) x3:=⟨hno,i3.1,i3.2⟩
  have v2:=(off_ok cs ns os fs ls ks o2).2.2.1
  have v3:=(off_ok cs ns os fs ls ks o3).2.2.1
  have hc:=cla_ok cs ns os fs ls ks hno (k:=x4) i4
  have f2:fstP ((calAt (cs,ns,os,fs,ls,ks) x2).1,(calAt (cs,ns,os,fs,ls,ks) x2).2.1,(calAt (cs,ns,os,fs,ls,ks) x2).2.2) (ks.getD x4.toNat (⟨#[]⟩,0,0)).2.1 x5:=⟨v2,hc.1.1,by show (claAt (cs,ns,os,fs,ls,ks) x4).2.1 < 1440;omega,by omega,by omega⟩
  unfold compF rowsOk at a1
  simp only [Bool.and_eq_true,decide_eq_true_eq,List.all_eq_true] at a1
  obtain ⟨q1,q2⟩:=a1
  have q1:(dy.length:Int)=ks.length:=q1
  have r1:=q2 _ (getD_mem (l:=dy) (i:=x4.toNat) (d:=[]) (by omega))
  have r1a:((dy.getD x4.toNat []).length:Int)=fs.length:=r1.1
  have r2:(((dy.getD x4.toNat []).getD x2.toNat []).length:Int)=fs.length:=r1.2 _ (getD_mem (by omega))
  have hE:DueE (cs,ns,os,fs,ls,ks) dy x=if dueCE (cs,ns,os,fs,ls,ks) x=0 then if dueN dy x < 0 then 170 else dueAE (cs,ns,os,fs,ls,ks) dy x else dueCE (cs,ns,os,fs,ls,ks) x:=by rw [eDE,if_pos hok]
  refine ⟨i4.1,i4.2,o2,f2,fun hz=>?_,?_⟩
  ·have hz0:=isZero_iff.1 hz
   have hb:dueCE (cs,ns,os,fs,ls,ks) x=0→x5≤dueC (cs,ns,os,fs,ls,ks) x∧dueC (cs,ns,os,fs,ls,ks) x≤x5 + 90000:=fun hz0=>by
    have:=fst_bnd (c:=calAt (cs,ns,os,fs,ls,ks) x2) (m:=(claAt (cs,ns,os,fs,ls,ks) x4).2.1) (t:=x5) v2 (by rw [hx] at hz0;exact hz0) hc.1.1 hc.1.2
    rw [hx];exact this
   have hcb:=hb hz0
   obtain ⟨⟨z1,z2,_,_⟩,_⟩:=validF_iff.1 v3
   have hday:-1000≤dueA (cs,ns,os,fs,ls,ks) x∧dueA (cs,ns,os,fs,ls,ks) x≤10000:=by
    rw [← eA];unfold dayF;omega
   have hE2:DueE (cs,ns,os,fs,ls,ks) dy x=if dueN dy x < 0 then 170 else dueAE (cs,ns,os,fs,ls,ks) dy x:=by rw [hE,if_pos hz0]
   refine ⟨o2,f2,hz,i4.1,by omega,i2.1,by omega,i3.1,by omega,fun hneg=>two (bad 170 (by rw [hE2,if_pos hneg]) (by decide)),fun hpos=>?_⟩
   have hadd:addP (calAt (cs,ns,os,fs,ls,ks) x3).1 (calAt (cs,ns,os,fs,ls,ks) x3).2.1 (calAt (cs,ns,os,fs,ls,ks) x3).2.2 (dueA (cs,ns,os,fs,ls,ks) x) (dueN dy x):=⟨v3,inDays_of (by omega) (by omega),by omega⟩
   have hE3:DueE (cs,ns,os,fs,ls,ks) dy x=dueAE (cs,ns,os,fs,ls,ks) dy x:=by rw [hE2,if_neg hpos]
   refine ⟨o3,⟨v3,by omega,by omega⟩,hadd,fun hz2=>?_,?_⟩
   ·have hz3:=isZero_iff.1 hz2
    have hb2:inDays (dueAD (cs,ns,os,fs,ls,ks) dy x)=true:=by
     rw [← eAE] at hz3
     rw [← eAD]
     unfold addE at hz3
     unfold addD
     split at hz3
     ·rename_i h200
      rw [if_pos h200]
      cases ha:addO (calAt (cs,ns,os,fs,ls,ks) x3).2.1 (calAt (cs,ns,os,fs,ls,ks) x3).2.2 (dueN dy x).toNat (dueA (cs,ns,os,fs,ls,ks) x) with
      | none=>rw [ha] at hz3;simp at hz3
      | some e =>
       have:=add_bnd _ ha
       exact inDays_of (by show _≤e;omega) (by show e≤_;omega)
     ·omega
    exact ⟨hadd,hz2,⟨v3,hb2,hc.2.1,by omega⟩,(fun h=>by simp at h),by rw [eDD,if_pos (by rw [hE3];exact hz3)],by rw [hE3];exact hz3.symm⟩
   ·intro hz2
    exact two (bad _ hE3 (isZero_not.1 hz2))
  ·intro hz
   exact two (bad _ (by rw [hE,if_neg (isZero_not.1 hz)]) (isZero_not.1 hz))
end Go.Eng.Sv
