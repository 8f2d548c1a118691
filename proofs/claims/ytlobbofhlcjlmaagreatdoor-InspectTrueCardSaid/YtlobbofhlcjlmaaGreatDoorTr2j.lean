/- PeTr2j -/
import Derived.Test.YtlobbofhlcjlmaaGreatDoorZ22
import Derived.Test.YtlobbofhlcjlmaaGreatDoorTr1j
set_option linter.unusedSimpArgs false
set_option linter.unusedVariables false
set_option maxRecDepth 100000
noncomputable section
namespace Go.Eng.Sv
open Go.Proofs
abbrev errV (t:TypeId) (e:Int):Value:=.iface t (.int .i64 e)
abbrev Stp:Ty:=.pair I (.pair I (.pair I I))
abbrev Stop:=Int×Int×Int×Int
abbrev Pl:Ty:=.pair I (.pair I (.pair M (.sl M)))
abbrev Plan:=Int×Int×List (List Int)×List (List (List Int))
abbrev Po:Ty:=.pair S (.pair I (.pair I (.pair I I)))
def timeOk (t:Int):Bool:=decide (0≤t∧t≤2000000)
def offAt (n:Net) (o:Int):Off:=n.2.2.2.1.getD o.toNat (⟨#[]⟩,0,0,0,0,0,[])
def linAt (n:Net) (l:Int):Line:=n.2.2.2.2.1.getD l.toNat (⟨#[]⟩,0,0,0,0,0)
def calAt (n:Net) (o:Int):Int×List Bool×List Int:=n.1.getD (offAt n o).2.2.1.toNat (0,[],[])
def lnFrom (n:Net) (l:Int):Int:=(linAt n l).2.1
def lnTo (n:Net) (l:Int):Int:=(linAt n l).2.2.1
def lnAt (n:Net) (l:Int):Int:=(linAt n l).2.2.2.1
def lnTrav (n:Net) (l:Int):Int:=(linAt n l).2.2.2.2.1
def offP (n:Net) (o:Int):Prop:=noF n=true∧0≤o∧o < n.2.2.2.1.length
def linP (n:Net) (l:Int):Prop:=noF n=true∧0≤l∧l < n.2.2.2.2.1.length
def cellOk (n:Net) (o l:Int):Bool:=decide (l=-1) || (idxF l n.2.2.2.2.1.length && decide (lnFrom n l=o))
def rowOk (n:Net) (o:Int) (row:List Int):Bool:=decide ((row.length:Int)=n.2.2.2.1.length) && row.all (cellOk n o)
def tabF (n:Net) (nx:List (List Int)):Bool:=decide ((nx.length:Int)=n.2.2.2.1.length) && (List.range nx.length).all fun i=>rowOk n i (nx.getD i [])
def fitsM (nx:List (List Int)):Prop:=nx.length≤1000000∧∀ r ∈ nx,r.length≤1000000
def rowsTo (n:Net) (nx:List (List Int)) (k:Int):Prop:=0≤k∧k≤nx.length∧(nx.length:Int)=n.2.2.2.1.length∧∀ i:Nat,(i:Int) < k→rowOk n i (nx.getD i [])=true
def rowTo (n:Net) (o:Int) (row:List Int) (k:Int):Prop:=0≤k∧k≤row.length∧(row.length:Int)=n.2.2.2.1.length∧∀ i:Nat,(i:Int) < k→cellOk n o (row.getD i 0)=true
def d0F (c:Int×List Bool×List Int) (m t:Int):Int:=if m < minF c.1 t then dayF c.1 t + 1 else dayF c.1 t
def fstD (c:Int×List Bool×List Int) (m t:Int):Int:=if nextE c.2.1 c.2.2 (d0F c m t)=0 then timeF c.1 (nextD c.2.1 c.2.2 (d0F c m t)) m else 0
def fstE (c:Int×List Bool×List Int) (m t:Int):Int:=nextE c.2.1 c.2.2 (d0F c m t)
def fstP (c:Int×List Bool×List Int) (m t:Int):Prop:=validF c.1 c.2.1 c.2.2=true∧0≤m∧m < 1440∧-1000000≤t∧t≤100000000
def readyF (n:Net) (o t:Int):Int:=t + (offAt n o).2.2.2.2.1 * (offAt n o).2.2.2.2.2.1
def readyP (n:Net) (o t:Int):Prop:=offP n o∧-1000000000≤t∧t≤1000000000
def depD (n:Net) (l t:Int):Int:=if timeOk t=true then fstD (calAt n (lnFrom n l)) (lnAt n l) t else 0
def depE (n:Net) (l t:Int):Int:=if timeOk t=true then fstE (calAt n (lnFrom n l)) (lnAt n l) t else 1
def isZero (e:Int):Bool:=decide (e=0)
def KR2:Kt:=kOr 74 (dataK [.row C,.val I] (fun (c,d,_)=>argP c.1 c.2.1 c.2.2 d) fun (c,d,_)=>.tup [.dat I (nextD c.2.1 c.2.2 d),.dat I (nextE c.2.1 c.2.2 d)]) KR1
theorem vc_pinside (i l:Int) (hvc :
 let c1:=D.ge i (0:Int);true=true∧(True→(c1=true→c1=true→c1=true)∧(c1=true→c1=true→c1=true)∧(D.and true c1=true→c1=true)
 ∧ D.cnd c1 (D.lt i l) false=idxF i l∧True)) :
  evF (mkc KR2) noAnn 31 [.dat I i,.dat I l] [] ⟨True,.dat .bool (idxF i l),[]⟩:=@of_eq _ _ (by kernel_rfl) hvc
theorem vc_pinRange (t:Int) (hvc :
 let c1:=D.ge t (0:Int);true=true∧(True→(c1=true→c1=true→c1=true)∧(D.and true c1=true→c1=true)∧D.cnd c1 (D.le t (2000000:Int))
 false=timeOk t∧True)) :
  evF (mkc KR2) noAnn 32 [.dat I t] [] ⟨True,.dat .bool (timeOk t),[]⟩:=@of_eq _ _ (by kernel_rfl) hvc
theorem vc_pmust (v e:Int) (hvc :
 let c1:=D.ne e (0:Int);
 let c2:=chainOf (Value.iface (39) (Value.int IntKind.i64 e));true=true∧(True→(c1=true→(true=true→True∧(false=false→isZero e=false ∧
 true=true∧c2=c2))∧True)∧(c1=false→isZero e=true∧v=v∧True))) :
  evC (mkc KR2) noAnn 40 [.dat I v,.dat I e] (.dat I v) ⟨True,isZero e,errV 39 e⟩:=@of_eq _ _ (by kernel_rfl) hvc
theorem vc_pdemand (b:Bool) (hvc :
 let c1:=chainOf (Value.iface (39) (Value.int IntKind.i64 (1:Int)));true=true∧(True→(D.not b=true→(true=true→True∧(false=false→b=false
 ∧ true=true∧c1=c1))∧True)∧(D.not b=false→b=true∧True))) :
  evC (mkc KR2) noAnn 38 [.dat .bool b] (.tup []) ⟨True,b,errV 39 1⟩:=@of_eq _ _ (by kernel_rfl) hvc
theorem vc_pcode (e:Int) (hvc :
 true=true∧(True→(true=true→e=e∧True)∧(true=false→(1:Int)=e∧True))) :
  evF (mkc KR2) noAnn 37 [.ifc 39 (.dat I e)] [] ⟨True,.dat I e,[]⟩:=@of_eq _ _ (by kernel_rfl) hvc
theorem vc_psound (cs:LC) (ns os:LB) (fs:List Off) (ls:List Line) (ks:List Cla) (hvc :
 let c1:=(cs,ns,os,fs,ls,ks);true=true∧(True→True∧D.eq (D.ilen (checkF c1)) (0:Int)=soundF c1∧True)) :
  evF (mkc KR2) noAnn 33 [.ip N (cs,ns,os,fs,ls,ks)] [] ⟨True,.dat .bool (soundF (cs,ns,os,fs,ls,ks)),[]⟩:=@of_eq _ _ (by kernel_rfl) hvc
theorem vc_pcalOf (o:Int) (cs:LC) (ns os:LB) (fs:List Off) (ls:List Line) (ks:List Cla) (hvc :
 let c1:=(cs,ns,os,fs,ls,ks);
 let c2:=(D.get fs (D.nat o) (ByteArray.mk (D.nil UInt8).toArray,(0:Int),(0:Int),(0:Int),(0:Int),(0:Int),D.nil ByteArray)).snd.snd.fst;
 let c3:=D.get cs (D.nat c2) ((0:Int),D.nil Bool,D.nil Int);
 let c4:=calAt c1 o;
 let c5:=c3.snd;
 let c6:=c4.snd;true=true∧(offP c1 o→D.ile (0:Int) o∧D.ilt o (D.ilen fs)∧D.ile (0:Int) c2∧D.ilt c2 (D.ilen cs)∧1=1∧0=0∧1=1∧0=0
 ∧ c3.fst=c4.fst∧c5.fst=c6.fst∧c5.snd=c6.snd∧True)) :
  evF (mkc KR2) noAnn 35 [.ip N (cs,ns,os,fs,ls,ks),.dat I o] [] ⟨offP (cs,ns,os,fs,ls,ks) o,cal (calAt (cs,ns,os,fs,ls,ks) o).1 (calAt (cs,ns,os,fs,ls,ks) o).2.1 (calAt (cs,ns,os,fs,ls,ks) o).2.2,[]⟩:=@of_eq _ _ (by kernel_rfl) hvc
theorem vc_pfirst (z m t:Int) (w:List Bool) (h:List Int) (hvc :
 let c1:=(z,w,h);
 let c2:=D.lt m (minF z t);
 let c3:=D.add (dayF z t) (1:Int);
 let c4:=nextE w h c3;
 let c5:=D.ne c4 (0:Int);
 let c6:=fstD c1 m t;
 let c7:=fstE c1 m t;
 let c8:=nextD w h c3;
 let c9:=nextE w h (dayF z t);
 let c10:=D.ne c9 (0:Int);
 let c11:=nextD w h (dayF z t);true=true∧(fstP c1 m t→okLocal z w h t∧(c2=true→inR IntKind.i64 c3∧argP z w h c3∧(c5=true→(0:Int)=c6 ∧
 c4=c7∧True)∧(c5=false→okTime z w h c8 m∧timeF z c8 m=c6∧(0:Int)=c7∧True))∧(c2=false→argP z w h (dayF z t)∧(c10=true→(0:Int)
 = c6∧c9=c7∧True)∧(c10=false→okTime z w h c11 m∧timeF z c11 m=c6∧(0:Int)=c7∧True)))) :
  evF (mkc KR2) noAnn 34 [cal z w h,.dat I m,.dat I t] [] ⟨fstP (z,w,h) m t,.tup [.dat I (fstD (z,w,h) m t),.dat I (fstE (z,w,h) m t)],[]⟩:=@of_eq _ _ (by kernel_rfl) hvc
theorem vc_pready (o t:Int) (cs:LC) (ns os:LB) (fs:List Off) (ls:List Line) (ks:List Cla) (hvc :
 let c1:=(cs,ns,os,fs,ls,ks);
 let c2:=(D.get fs (D.nat o) (ByteArray.mk (D.nil UInt8).toArray,(0:Int),(0:Int),(0:Int),(0:Int),(0:Int),D.nil ByteArray)).snd.snd.snd.snd;
 let c3:=D.mul c2.fst c2.snd.fst;
 let c4:=D.add t c3;true=true∧(readyP c1 o t→D.ile (0:Int) o∧D.ilt o (D.ilen fs)∧D.ile (0:Int) o∧D.ilt o (D.ilen fs)∧inR IntKind.i64 c3 ∧
 inR IntKind.i64 c4∧c4=readyF c1 o t∧True)) :
  evF (mkc KR2) noAnn 80 [.ip N (cs,ns,os,fs,ls,ks),.dat I o,.dat I t] [] ⟨readyP (cs,ns,os,fs,ls,ks) o t,.dat I (readyF (cs,ns,os,fs,ls,ks) o t),[]⟩:=@of_eq _ _ (by kernel_rfl) hvc
def formedA (n:Net) (nx:List (List Int)):Ann:=⟨fun id s=>match id with
 | 4=>some { α:=Int,inv:=fun k=>rowsTo n nx k,st:=fun k=>put s [(19,.dat I k)],μ:=fun k=>D.nat (D.sub (D.ilen nx) k) }
 | 9=>match s.sig.T 19,s.sig.T 32 with
  | .dat (.int .i64) o,.dat (.sl (.int .i64)) row=>some { α:=Int,inv:=fun k=>rowTo n o row k,st:=fun k=>put s [(34,.dat I k)],μ:=fun k=>D.nat (D.sub (D.ilen row) k) }
  | _,_=>none
 | _=>none,fun _ _=>none,fun _ _=>none⟩
def KR3:Kt:=kOr 31 (dataK [.val I,.val I] (fun _=>True) fun (i,l,_)=>.dat .bool (idxF i l)) <|
 kOr 32 (dataK [.val I] (fun _=>True) fun (t,_)=>.dat .bool (timeOk t)) <|
 kOr 33 (dataK [.ptr N] (fun _=>True) fun (n,_)=>.dat .bool (soundF n)) <|
 kOr 35 (dataK [.ptr N,.val I] (fun (n,o,_)=>offP n o) fun (n,o,_)=>cal (calAt n o).1 (calAt n o).2.1 (calAt n o).2.2) <|
 kOr 34 (dataK [.row C,.val I,.val I] (fun (c,m,t,_)=>fstP c m t) fun (c,m,t,_)=>.tup [.dat I (fstD c m t),.dat I (fstE c m t)]) <|
 kOr 80 (dataK [.ptr N,.val I,.val I] (fun (n,o,t,_)=>readyP n o t) fun (n,o,t,_)=>.dat I (readyF n o t)) <|
 kOr 40 (dataK [.val I,.val I] (fun (_,e,_)=>True∧isZero e=true) fun (v,_,_)=>.dat I v) <|
 kOr 38 (dataK [.val .bool] (fun (b,_)=>True∧b=true) fun _=>.tup []) KR2
theorem vc_pformed (nx:List (List Int)) (cs:LC) (ns os:LB) (fs:List Off) (ls:List Line) (ks:List Cla) (hvc :
 let c1:=D.ilen fs;
 let c2:=D.ne (D.ilen nx) c1;
 let c3:=(fs,ls,ks);
 let c4:=(cs,ns,os,c3);
 let c5:=tabF c4 nx;
 let c6:=D.ilen ls;true=true∧(fitsM nx→(c2=true→false=c5∧True)∧(c2=false→(∃ x,rowsTo c4 nx x∧c4=c4∧nx=nx∧nx=nx∧D.ilen nx =
 D.ilen nx∧c4=c4∧c4=c4∧c3=c3∧fs=fs∧c1=c1∧c2=c2∧nx=nx∧D.ilen nx=D.ilen nx∧(0:Int)=x∧True)∧∀ (x:Int),
 let c7:=D.lt x (D.ilen nx);
 let c8:=D.get nx (D.nat x) (D.nil Int);
 let c9:=D.ilen c8;
 let c10:=D.ne c9 c1;
 let c11:=D.add x (1:Int);rowsTo c4 nx x→(c7=true→D.ile (0:Int) x∧D.ilt x (D.ilen nx)∧(c10=true→false=c5∧True)∧(c10=false→(∃ x_4,
 rowTo c4 x c8 x_4∧c4=c4∧nx=nx∧x=x∧c8=c8∧nx=nx∧D.ilen nx=D.ilen nx∧c4=c4∧c4=c4∧c3=c3∧fs=fs∧c1=c1∧c2=c2∧nx=nx
 ∧ D.ilen nx=D.ilen nx∧x=x∧c7=c7∧x=x∧c8=c8∧c8=c8∧c8=c8∧c9=c9∧c4=c4∧c4=c4∧c3=c3∧fs=fs∧c1=c1∧c10=c10∧c8 =
 c8∧c9=c9∧(0:Int)=x_4∧True)∧∀ (x_4:Int),
 let c12:=D.get c8 (D.nat x_4) (0:Int);
 let c13:=D.ne c12 (-1:Int);
 let c14:=D.not (idxF c12 c6);
 let c15:=D.cnd c13 (D.cnd c14 true (D.ne (D.get ls (D.nat c12) (ByteArray.mk (D.nil UInt8).toArray,(0:Int),(0:Int),(0:Int),(0:Int),(0 :
 Int))).snd.fst x)) false;
 let c16:=D.add x_4 (1:Int);rowTo c4 x c8 x_4→(D.lt x_4 c9=true→D.ile (0:Int) x_4∧D.ilt x_4 c9∧(c13=true→c13=true→c13=true)∧(c13 =
 true→c13=true→c13=true)∧(c13=true→c13=true→c13=true)∧(c13=true→c13=true→c13=true)∧(c13=true→c13=true→c13=true) ∧
 (c13=true→c13=true→c13=true)∧(c13=true→True)∧(c13=true→c13=true→c13=true)∧(c13=true→c13=true→c13=true)∧(D.and c13
 (D.not c14)=true→D.and c13 (D.not c14)=true→D.and c13 (D.not c14)=true)∧(D.and c13 (D.not c14)=true→D.and c13 (D.not c14)=true→D.and c13
 (D.not c14)=true)∧(D.and c13 (D.not c14)=true→D.and c13 (D.not c14)=true→D.and c13 (D.not c14)=true)∧(D.and c13 (D.not c14)=true→D.and c13
 (D.not c14)=true→D.and c13 (D.not c14)=true)∧(D.and c13 (D.not c14)=true→D.and c13 (D.not c14)=true→D.and c13 (D.not c14)=true)∧(D.and c13
 (D.not c14)=true→D.ile (0:Int) c12)∧(D.and c13 (D.not c14)=true→D.ilt c12 c6)∧(D.and c13 (D.not c14)=true→D.and c13 (D.not c14)=true →
 D.and c13 (D.not c14)=true)∧(D.and c13 (D.not c14)=true→D.and c13 (D.not c14)=true→D.and c13 (D.not c14)=true)∧(D.and c13 (D.not c14)=true →
 D.and c13 (D.not c14)=true→D.and c13 (D.not c14)=true)∧(D.and c13 (D.not c14)=true→D.and c13 (D.not c14)=true→D.and c13 (D.not c14)=true) ∧
 (c13=true→c13=true→c13=true)∧(c13=true→D.and c13 (D.not c14)=true→D.and c13 (D.not c14)=true)∧(D.and true c13=true→c13=true) ∧
 (c15=true→false=c5∧True)∧(c15=false→inR IntKind.i64 c16∧∃ y,rowTo c4 x c8 y∧(c4=c4∧nx=nx∧x=x∧c8=c8∧nx=nx∧D.ilen nx =
 D.ilen nx∧c4=c4∧c4=c4∧c3=c3∧fs=fs∧c1=c1∧c2=c2∧nx=nx∧D.ilen nx=D.ilen nx∧x=x∧c7=c7∧x=x∧c8=c8∧c8=c8∧c8=c8
 ∧ c9=c9∧c4=c4∧c4=c4∧c3=c3∧fs=fs∧c1=c1∧c10=c10∧c8=c8∧c9=c9∧c16=y∧True)∧D.nlt (D.nat (D.sub c9 y)) (D.nat (D.sub c9
 x_4))))∧(D.lt x_4 c9=false→inR IntKind.i64 c11∧∃ y,rowsTo c4 nx y∧(c4=c4∧nx=nx∧nx=nx∧D.ilen nx=D.ilen nx∧c4=c4∧c4=c4∧c3=c3
 ∧ fs=fs∧c1=c1∧c2=c2∧nx=nx∧D.ilen nx=D.ilen nx∧c11=y∧True)∧D.nlt (D.nat (D.sub (D.ilen nx) y)) (D.nat (D.sub (D.ilen nx) x)))))∧(c7
 = false→true=c5∧True)))) :
  evF (mkc KR3) (formedA (cs,ns,os,fs,ls,ks) nx) 45 [.ip N (cs,ns,os,fs,ls,ks),.dat M nx] [] ⟨fitsM nx,.dat .bool (tabF (cs,ns,os,fs,ls,ks) nx),[]⟩:=@of_eq _ _ (by kernel_rfl) hvc
theorem vc_pdepart (l t:Int) (cs:LC) (ns os:LB) (fs:List Off) (ls:List Line) (ks:List Cla) (hvc :
 let c1:=(cs,ns,os,fs,ls,ks);
 let c2:=depD c1 l t;
 let c3:=depE c1 l t;
 let c4:=(D.get ls (D.nat l) (ByteArray.mk (D.nil UInt8).toArray,(0:Int),(0:Int),(0:Int),(0:Int),(0:Int))).snd;
 let c5:=c4.fst;
 let c6:=calAt c1 c5;
 let c7:=c6.snd;
 let c8:=(c6.fst,c7.fst,c7.snd);
 let c9:=c4.snd.snd.fst;true=true∧(linP c1 l→True∧(D.not (timeOk t)=true→(0:Int)=c2∧(1:Int)=c3∧True)∧(D.not (timeOk t)=false →
 D.ile (0:Int) l∧D.ilt l (D.ilen ls)∧offP c1 c5∧D.ile (0:Int) l∧D.ilt l (D.ilen ls)∧fstP c8 c9 t∧fstD c8 c9 t=c2∧fstE c8 c9 t=c3∧True))) :
  evF (mkc KR3) noAnn 79 [.ip N (cs,ns,os,fs,ls,ks),.dat I l,.dat I t] [] ⟨linP (cs,ns,os,fs,ls,ks) l,.tup [.dat I (depD (cs,ns,os,fs,ls,ks) l t),.dat I (depE (cs,ns,os,fs,ls,ks) l t)],[]⟩:=@of_eq _ _ (by kernel_rfl) hvc
theorem KSR2:KSound Tryz.prog G0 KR2:=kOr_ok (dataK_ok fun ((z,w,h),d,_)=>s_next z w h d) KSR1
theorem off_ok (cs:LC) (ns os:LB) (fs:List Off) (ls:List Line) (ks:List Cla) {o:Int} (h:offP (cs,ns,os,fs,ls,ks) o):0≤(offAt (cs,ns,os,fs,ls,ks) o).2.2.1∧(offAt (cs,ns,os,fs,ls,ks) o).2.2.1 < cs.length∧validF (calAt (cs,ns,os,fs,ls,ks) o).1 (calAt (cs,ns,os,fs,ls,ks) o).2.1 (calAt (cs,ns,os,fs,ls,ks) o).2.2=true∧1≤(offAt (cs,ns,os,fs,ls,ks) o).2.2.2.2.1∧(offAt (cs,ns,os,fs,ls,ks) o).2.2.2.2.1≤4∧1≤(offAt (cs,ns,os,fs,ls,ks) o).2.2.2.2.2.1∧(offAt (cs,ns,os,fs,ls,ks) o).2.2.2.2.2.1≤240:=by
 obtain ⟨hno,l0,l1⟩:=h
 have l1:o < fs.length:=l1
 have ho:offAt (cs,ns,os,fs,ls,ks) o ∈ fs:=by
  show fs.getD o.toNat _ ∈ fs
  rw [List.getD_eq_getElem?_getD,List.getElem?_eq_getElem (by omega),Option.getD_some]
  exact List.getElem_mem _
 have gc:=(noF_offs cs ns os fs ls ks hno).2.2.2 _ ho
 unfold goodOff idxF fromF at gc
 simp only [Bool.and_eq_true,decide_eq_true_eq] at gc
 obtain ⟨⟨⟨⟨⟨⟨_,g1⟩,_⟩,_⟩,_⟩,g2⟩,g3⟩:=gc
 have g1:0≤(offAt (cs,ns,os,fs,ls,ks) o).2.2.1∧(offAt (cs,ns,os,fs,ls,ks) o).2.2.1 < (cs.length:Int):=g1
 have hc:=((kind_iff (by decide)).1 (no_parts cs ns os fs ls ks hno).2.1).2.2.2
 have hcl:(calNames cs ns).length=cs.length:=by unfold calNames;simp
 have:=hc (offAt (cs,ns,os,fs,ls,ks) o).2.2.1.toNat (by omega)
 unfold calGoods at this
 rw [map_getD (fun c:Int×List Bool×List Int=>validF c.1 c.2.1 c.2.2) cs _ (0,[],[]) false (by omega)] at this
 exact ⟨g1.1,g1.2,this,g2.1,g2.2,g3.1,g3.2⟩
theorem lin_ok (cs:LC) (ns os:LB) (fs:List Off) (ls:List Line) (ks:List Cla) {l:Int} (h:linP (cs,ns,os,fs,ls,ks) l):0≤lnFrom (cs,ns,os,fs,ls,ks) l∧lnFrom (cs,ns,os,fs,ls,ks) l < fs.length∧0≤lnTo (cs,ns,os,fs,ls,ks) l∧lnTo (cs,ns,os,fs,ls,ks) l < fs.length∧0≤lnAt (cs,ns,os,fs,ls,ks) l∧lnAt (cs,ns,os,fs,ls,ks) l≤1439∧1≤lnTrav (cs,ns,os,fs,ls,ks) l∧lnTrav (cs,ns,os,fs,ls,ks) l≤5000:=by
 obtain ⟨hno,l0,l1⟩:=h
 have l1:l < ls.length:=l1
 have hl:linAt (cs,ns,os,fs,ls,ks) l ∈ ls:=by
  show ls.getD l.toNat _ ∈ ls
  rw [List.getD_eq_getElem?_getD,List.getElem?_eq_getElem (by omega),Option.getD_some]
  exact List.getElem_mem _
 obtain ⟨g1,g2,g3,g4,g5,g6,g7,g8⟩:=goodLin_spec ((noF_lines cs ns os fs ls ks hno).2.2.2 _ hl)
 exact ⟨g1,g2,g3,g4,g6.1,g6.2,g7,g8⟩
theorem next_spec {w:List Bool} {h:List Int} {d:Int} (he:nextE w h d=0):d≤nextD w h d∧nextD w h d < d + 60∧workF w h (nextD w h d)=true:=by
 unfold nextE at he
 unfold nextD
 cases hn:nextO w h d with
 | none=>rw [hn] at he;simp at he
 | some y =>
  have:y ∈ listF w h d 60:=List.mem_of_mem_head? (by unfold nextO at hn;rw [hn];rfl)
  exact listF_mem this
theorem d0_bnd {c:Int×List Bool×List Int} {m t:Int} (hp:fstP c m t):-1000≤d0F c m t∧d0F c m t≤100000:=by
 obtain ⟨hv,h1,h2,h3,h4⟩:=hp
 obtain ⟨⟨v1,v2,_,_⟩,_⟩:=validF_iff.1 hv
 unfold d0F dayF
 split <;> omega
theorem inDays_of {d:Int} (h1:-1000000≤d) (h2:d≤1000000):inDays d=true:=by
 unfold inDays;exact decide_eq_true ⟨h1,h2⟩
theorem t_pinside (i l:Int):SoundC Tryz.prog G0 31 [.dat I i,.dat I l] [] ⟨True,.dat .bool (idxF i l),[]⟩:=by
 refine sound_of_ev (c:=mkc KR2) KSR2 KI0s hm (vc_pinside i l ⟨rfl,fun _=>⟨fun h _=>h,fun h _=>h,fun h=>by simpa [D.and] using h,?_,trivial⟩⟩)
 unfold idxF
 simp only [D.cnd,D.ge,D.lt,ge_iff_le]
 by_cases h:0≤i <;> simp [h]
theorem t_pinRange (t:Int):SoundC Tryz.prog G0 32 [.dat I t] [] ⟨True,.dat .bool (timeOk t),[]⟩:=by
 refine sound_of_ev (c:=mkc KR2) KSR2 KI0s hm (vc_pinRange t ⟨rfl,fun _=>⟨fun h _=>h,fun h=>by simpa [D.and] using h,?_,trivial⟩⟩)
 unfold timeOk
 simp only [D.cnd,D.ge,D.le,ge_iff_le]
 by_cases h:0≤t <;> simp [h]
theorem t_pmust (v e:Int):SoundC Tryz.prog G0 40 [.dat I v,.dat I e] [] ⟨True∧isZero e=true,.dat I v,[]⟩∧SoundP Tryz.prog G0 40 [.dat I v,.dat I e] [] ⟨True,isZero e,errV 39 e⟩:=by
 refine sound_of_evC (c:=mkc KR2) KSR2 KI0s hm noP_ok (vc_pmust v e ⟨rfl,fun _=>⟨fun h=>⟨fun _=>⟨trivial,fun _=>⟨?_,rfl,rfl⟩⟩,trivial⟩,fun h=>⟨?_,rfl,trivial⟩⟩⟩)
 ·unfold isZero;simpa [D.ne] using h
 ·unfold isZero;simpa [D.ne] using h
theorem t_pdemand (b:Bool):SoundC Tryz.prog G0 38 [.dat .bool b] [] ⟨True∧b=true,.tup [],[]⟩∧SoundP Tryz.prog G0 38 [.dat .bool b] [] ⟨True,b,errV 39 1⟩:=by
 refine sound_of_evC (c:=mkc KR2) KSR2 KI0s hm noP_ok (vc_pdemand b ⟨rfl,fun _=>⟨fun h=>⟨fun _=>⟨trivial,fun _=>⟨?_,rfl,rfl⟩⟩,trivial⟩,fun h=>⟨?_,trivial⟩⟩⟩)
 ·simpa [D.not] using h
 ·simpa [D.not] using h
theorem t_pcode (e:Int):SoundC Tryz.prog G0 37 [.ifc 39 (.dat I e)] [] ⟨True,.dat I e,[]⟩ :=
 sound_of_ev (c:=mkc KR2) KSR2 KI0s hm (vc_pcode e ⟨rfl,fun _=>⟨fun _=>⟨rfl,trivial⟩,fun h=>by cases h⟩⟩)
theorem soundF_len {n:Net}:soundF n=decide (((checkF n).length:Int)=0):=by
 unfold soundF
 cases checkF n with
 | nil=>rfl
 | cons a l=>simp;omega
theorem t_psound (cs:LC) (ns os:LB) (fs:List Off) (ls:List Line) (ks:List Cla):SoundC Tryz.prog G0 33 [.ip N (cs,ns,os,fs,ls,ks)] [] ⟨True,.dat .bool (soundF (cs,ns,os,fs,ls,ks)),[]⟩ :=
 sound_of_ev (c:=mkc KR2) KSR2 KI0s hm (vc_psound cs ns os fs ls ks ⟨rfl,fun _=>⟨trivial,by rw [soundF_len];rfl,trivial⟩⟩)
theorem t_pcalOf (o:Int) (cs:LC) (ns os:LB) (fs:List Off) (ls:List Line) (ks:List Cla):SoundC Tryz.prog G0 35 [.ip N (cs,ns,os,fs,ls,ks),.dat I o] [] ⟨offP (cs,ns,os,fs,ls,ks) o,cal (calAt (cs,ns,os,fs,ls,ks) o).1 (calAt (cs,ns,os,fs,ls,ks) o).2.1 (calAt (cs,ns,os,fs,ls,ks) o).2.2,[]⟩:=by
 refine sound_of_ev (c:=mkc KR2) KSR2 KI0s hm (vc_pcalOf o cs ns os fs ls ks ⟨rfl,fun hp=>?_⟩)
 obtain ⟨g1,g2,_⟩:=off_ok cs ns os fs ls ks hp
 exact ⟨hp.2.1,hp.2.2,g1,g2,rfl,rfl,rfl,rfl,rfl,rfl,rfl,trivial⟩
theorem t_pfirst (m t:Int) (c:C.den):SoundC Tryz.prog G0 34 [cal c.1 c.2.1 c.2.2,.dat I m,.dat I t] [] ⟨fstP c m t,.tup [.dat I (fstD c m t),.dat I (fstE c m t)],[]⟩:=by
 obtain ⟨z,w,h⟩:=c
 refine sound_of_ev (c:=mkc KR2) KSR2 KI0s hm (vc_pfirst z m t w h ⟨rfl,fun hp=>?_⟩)
 obtain ⟨b1,b2⟩:=d0_bnd hp
 obtain ⟨hv,h1,h2,h3,h4⟩:=id hp
 simp only [and_true,D.ne,D.lt,D.add,decide_eq_true_eq,decide_eq_false_iff_not,bne_iff_ne,bne_eq_false_iff_eq]
 have key:∀ d,d=d0F (z,w,h) m t→argP z w h d∧(¬ nextE w h d=0→(0:Int)=fstD (z,w,h) m t∧nextE w h d=fstE (z,w,h) m t)∧(nextE w h d=0→okTime z w h (nextD w h d) m∧timeF z (nextD w h d) m=fstD (z,w,h) m t∧(0:Int)=fstE (z,w,h) m t):=by
  rintro d rfl
  refine ⟨⟨hv,inDays_of (by omega) (by omega)⟩,fun h0=>⟨(if_neg h0).symm,rfl⟩,fun h0=>?_⟩
  obtain ⟨q1,q2,q3⟩:=next_spec h0
  exact ⟨⟨hv,inDays_of (by omega) (by omega),h1,h2⟩,(if_pos h0).symm,h0.symm⟩
 refine ⟨⟨hv,by omega,by omega⟩,fun hlt=>?_,fun hge=>?_⟩
 ·have e:dayF z t + 1=d0F (z,w,h) m t:=(if_pos hlt).symm
  obtain ⟨q1,q2,q3⟩:=key _ e
  exact ⟨by unfold inR;simp only;omega,q1,q2,q3⟩
 ·have e:dayF z t=d0F (z,w,h) m t:=(if_neg hge).symm
  exact key _ e
theorem t_pready (o t:Int) (cs:LC) (ns os:LB) (fs:List Off) (ls:List Line) (ks:List Cla):SoundC Tryz.prog G0 80 [.ip N (cs,ns,os,fs,ls,ks),.dat I o,.dat I t] [] ⟨readyP (cs,ns,os,fs,ls,ks) o t,.dat I (readyF (cs,ns,os,fs,ls,ks) o t),[]⟩:=by
 refine sound_of_ev (c:=mkc KR2) KSR2 KI0s hm (vc_pready o t cs ns os fs ls ks ⟨rfl,fun hp=>?_⟩)
 obtain ⟨ho,b1,b2⟩:=hp
 obtain ⟨_,_,_,g1,g2,g3,g4⟩:=off_ok cs ns os fs ls ks ho
 obtain ⟨x,hx⟩:∃ x,x=(offAt (cs,ns,os,fs,ls,ks) o).2.2.2.2.1:=⟨_,rfl⟩
 obtain ⟨y,hy⟩:∃ y,y=(offAt (cs,ns,os,fs,ls,ks) o).2.2.2.2.2.1:=⟨_,rfl⟩
 rw [← hx] at g1 g2
 rw [← hy] at g3 g4
 have m1:0≤x * y:=Int.mul_nonneg (by omega) (by omega)
 have m2:x * y≤4 * 240:=Int.mul_le_mul g2 g4 (by omega) (by omega)
 have e:readyF (cs,ns,os,fs,ls,ks) o t=t + x * y:=by rw [hx,hy];rfl
 refine ⟨ho.2.1,ho.2.2,ho.2.1,ho.2.2,?_,?_,rfl,trivial⟩
 ·show inR .i64 ((offAt (cs,ns,os,fs,ls,ks) o).2.2.2.2.1 * (offAt (cs,ns,os,fs,ls,ks) o).2.2.2.2.2.1)
  rw [← hx,← hy];unfold inR;simp only;omega
 ·show inR .i64 (t + (offAt (cs,ns,os,fs,ls,ks) o).2.2.2.2.1 * (offAt (cs,ns,os,fs,ls,ks) o).2.2.2.2.2.1)
  rw [← hx,← hy];unfold inR;simp only;omega
end Go.Eng.Sv
