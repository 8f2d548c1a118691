/- PeInS, PeIn2j -/
import Derived.Test.YtlobbofhlcjlmaaGreatDoorZ22
import Derived.Test.YtlobbofhlcjlmaaGreatDoorIn1j
set_option linter.unusedSimpArgs false
set_option linter.unusedVariables false
/- PeInS: the seal of numbers, plain: one number changed changes it -/
namespace Go.Eng.In
def sStep (st:Int×Int) (x:Int):Int×Int:=(st.1 * 3 % 65521,(st.2 + x * (st.1 * 3 % 65521)) % 65521)
def sRun (st:Int×Int) (l:List Int):Int×Int:=l.foldl sStep st
def sealOf (l:List Int):Int:=(sRun (1,0) l).2
theorem sRun_cons (st:Int×Int) (x:Int) (l:List Int):sRun st (x :: l)=sRun (sStep st x) l:=rfl
theorem sRun_app (st:Int×Int) (a b:List Int):sRun st (a ++ b)=sRun (sRun st a) b:=by
 unfold sRun;exact List.foldl_append
def okSt (st:Int×Int):Prop:=(0≤st.1∧st.1 < 65521)∧(0≤st.2∧st.2 < 65521)
theorem sStep_ok (st:Int×Int) (x:Int):okSt (sStep st x) :=
 ⟨⟨Int.emod_nonneg _ (by decide),Int.emod_lt_of_pos _ (by decide)⟩,⟨Int.emod_nonneg _ (by decide),Int.emod_lt_of_pos _ (by decide)⟩⟩
theorem sRun_ok:∀ (l:List Int) {st:Int×Int},okSt st→okSt (sRun st l)
 | [],_,h=>h
 | x :: l,st,_=>sRun_ok l (sStep_ok st x)
def inv (p:Int):Prop:=∃ q:Int,p * q % 65521=1
theorem inv_step {p:Int} (h:inv p):inv (p * 3 % 65521):=by
 obtain ⟨q,hq⟩:=h
 refine ⟨q * 43681,?_⟩
 rw [Int.mul_emod,Int.emod_emod_of_dvd _ (Int.dvd_refl _),← Int.mul_emod]
 have e:p * 3 * (q * 43681)=p * q * 131043:=by
  rw [Int.mul_assoc,Int.mul_left_comm 3 q 43681,← Int.mul_assoc];rfl
 rw [e,Int.mul_emod,hq];rfl
theorem inv_run:∀ (l:List Int) {st:Int×Int},inv st.1→inv (sRun st l).1
 | [],_,h=>h
 | _ :: l,_,h=>inv_run l (inv_step h)
theorem sRun_ne:∀ (l:List Int) {p s t:Int},0≤s→s < 65521→0≤t→t < 65521→s≠t→(sRun (p,s) l).2≠(sRun (p,t) l).2
 | [],_,_,_,_,_,_,_,h=>h
 | x :: l,p,s,t,s0,s1,t0,t1,h=>by
  rw [sRun_cons,sRun_cons]
  have e:∀ y:Int,sStep (p,y) x=(p * 3 % 65521,(y + x * (p * 3 % 65521)) % 65521):=fun _=>rfl
  rw [e,e]
  generalize x * (p * 3 % 65521)=z
  exact sRun_ne l (Int.emod_nonneg _ (by decide)) (Int.emod_lt_of_pos _ (by decide)) (Int.emod_nonneg _ (by decide)) (Int.emod_lt_of_pos _ (by decide)) (by omega)
theorem seal_range (l:List Int):0≤sealOf l∧sealOf l < 65521:=(sRun_ok l (st:=(1,0)) ⟨⟨by decide,by decide⟩,⟨by decide,by decide⟩⟩).2
end Go.Eng.In

set_option maxRecDepth 100000
noncomputable section
namespace Go.Eng.In
open Go.Proofs
abbrev Ce:Ty:=.pair R I
abbrev Pl:Ty:=.pair I (.pair I (.pair M (.sl M)))
abbrev Plan:=Int×Int×List (List Int)×List (List (List Int))
def limI (l:List Int):Prop:=l.length≤2000000000000000
def limS (l:List Int):Prop:=l.length≤9223372036854775807
def sP (l:List Int) (k:Int):Int:=(sRun (1,0) (l.take k.toNat)).1
def sS (l:List Int) (k:Int):Int:=(sRun (1,0) (l.take k.toNat)).2
def rl (l:List Int):List Int:=l.map fun x=>x % 65521
def sealG (l:List Int):Int:=sealOf (rl l)
def inSeal (l:List Int):Bool:=l.all fun x=>btw x 0 65519
def sealedF (l:List Int) (s:Int):Bool:=inSeal l && decide (s=sealOf l)
def inTo (l:List Int) (k:Int):Prop:=0≤k∧k≤l.length∧inSeal (l.take k.toNat)=true
def idxTo (l:List Int) (k:Int):Prop:=0≤k∧k≤l.length
def buildF (g:Int→Int→Int) (n:Int):List (List Int):=(List.range n.toNat).map fun i:Nat=>(List.range n.toNat).map fun j:Nat=>g i j
def rowsF (g:Int→Int→Int) (n i:Int):List (List Int):=(buildF g n).take i.toNat ++ List.replicate (n.toNat - i.toNat) []
def rowF (g:Int→Int→Int) (n i j:Int):List Int:=((List.range n.toNat).map fun j:Nat=>g i j).take j.toNat ++ List.replicate (n.toNat - j.toNat) 0
def upto (k n:Int):Prop:=0≤k∧(k≤n∨k=0)
def tg (l:List Int) (m i j:Int):Int:=l.getD (i * m + j).toNat 0 - 1
def tabF (m:Int) (l:List Int):List (List Int):=buildF (tg l m) m
def dropI (l:List Int) (k:Int):List Int:=l.drop k.toNat
def tabOk (m:Int) (l:List Int):Bool:=decide (m * m≤l.length)
def numsOk (l:List Int):Prop:=inSeal l=true∧limI l
def tabP (m:Int) (l:List Int):Prop:=0≤m∧m≤12∧numsOk l
def tabTo (m:Int) (l:List Int) (k:Int):Prop:=upto k m∧k * m≤l.length
def tabTo2 (m:Int) (l:List Int) (i k:Int):Prop:=upto k m∧i * m + k≤l.length
def tabsF (q m:Int) (l:List Int):List (List (List Int)):=(List.range q.toNat).map fun k:Nat=>tabF m (dropI l ((k:Int) * (m * m)))
def tabsTo (q m:Int) (l:List Int) (k:Int):List (List (List Int)):=(tabsF q m l).take k.toNat ++ List.replicate (q.toNat - k.toNat) []
def plTo (q m:Int) (l:List Int) (k:Int):Prop:=upto k q∧(k + 1) * (m * m)≤l.length - 4
def plHead (l:List Int):Bool:=decide (l.getD 2 0≤12∧l.getD 3 0≤4∧l.getD 0 0 < l.getD 1 0∧l.getD 1 0≤l.getD 0 0 + 60∧l.getD 1 0≤600)
def plOk (l:List Int):Bool:=decide (4≤l.length) && plHead l && decide (4 + l.getD 2 0 * l.getD 2 0 + l.getD 3 0 * (l.getD 2 0 * l.getD 2 0)≤l.length)
def planF (l:List Int):Plan:=(l.getD 0 0,l.getD 1 0,tabF (l.getD 2 0) (dropI l 4),tabsF (l.getD 3 0) (l.getD 2 0) (dropI l (4 + l.getD 2 0 * l.getD 2 0)))
def plRest (l:List Int):List Int:=dropI l (4 + l.getD 2 0 * l.getD 2 0 + l.getD 3 0 * (l.getD 2 0 * l.getD 2 0))
def at0 (l:List Int) (k:Nat):Int:=l.getD k 0
def restK (q m:Int) (l:List Int) (k:Int):List Int:=dropI l (4 + m * m + k * (m * m))
def insA (l:List Int):Ann:=⟨fun id s=>match id with
 | 3=>some { α:=Int,inv:=fun k=>inTo l k,st:=fun k=>put (flat s) [(10,.dat I k),(3,.dat I (sP l k)),(4,.dat I (sS l k))],μ:=fun k=>D.nat (D.sub (D.ilen l) k) }
 | _=>none,fun _ _=>none,fun _ _=>none⟩
def wSealA (l:List Int):Ann:=⟨fun id s=>match id with
 | 3=>some { α:=Int,inv:=fun k=>idxTo l k,st:=fun k=>put (flat s) [(9,.dat I k),(3,.dat I (sP (rl l) k)),(4,.dat I (sS (rl l) k))],μ:=fun k=>D.nat (D.sub (D.ilen l) k) }
 | _=>none,fun _ _=>none,fun _ _=>none⟩
theorem vc_insealed (s:Int) (l:List Int) (hvc :
 let c1:=(l,s);true=true∧(limI l→(∃ x,inTo l x∧l=l∧s=s∧c1=c1∧(1:Int)=sP l x∧(0:Int)=sS l x∧c1=c1∧l=l∧D.ilen l =
 D.ilen l∧(0:Int)=x∧True)∧∀ (x:Int),
 let c2:=D.lt x (D.ilen l);
 let c3:=D.get l (D.nat x) (0:Int);
 let c4:=D.not (btw c3 (0:Int) (65519:Int));
 let c5:=D.mul (sP l x) (3:Int);
 let c6:=D.rem c5 (65521:Int);
 let c7:=D.mul c3 c6;
 let c8:=D.add (sS l x) c7;
 let c9:=D.add x (1:Int);inTo l x→(c2=true→D.ile (0:Int) x∧D.ilt x (D.ilen l)∧True∧(c4=true→false=sealedF l s∧True)∧(c4=false →
 inR IntKind.i64 c5∧D.ine (65521:Int) (0:Int)∧inR IntKind.i64 c7∧inR IntKind.i64 c8∧D.ine (65521:Int) (0:Int)∧inR IntKind.i64 c9∧∃ y,inTo l
 y∧(l=l∧s=s∧c1=c1∧c6=sP l y∧D.rem c8 (65521:Int)=sS l y∧c1=c1∧l=l∧D.ilen l=D.ilen l∧c9=y∧True)∧D.nlt (D.nat (D.sub
 (D.ilen l) y)) (D.nat (D.sub (D.ilen l) x))))∧(c2=false→D.eq s (sS l x)=sealedF l s∧True))) :
  evF (mkc K4) (insA l) 60 [.agg [.dat R l,.dat I s]] [] ⟨limI l,.dat .bool (sealedF l s),[]⟩:=@of_eq _ _ (by kernel_rfl) hvc
theorem vc_wseal (l:List Int) (hvc :
 true=true∧(limS l→(∃ x,idxTo l x∧l=l∧(0:Int)=(0:Int)∧(1:Int)=sP (rl l) x∧(0:Int)=sS (rl l) x∧l=l∧D.ilen l=D.ilen
 l∧(0:Int)=x∧True)∧∀ (x:Int),
 let c1:=D.lt x (D.ilen l);
 let c2:=D.mul (sP (rl l) x) (3:Int);
 let c3:=D.add (D.rem (D.get l (D.nat x) (0:Int)) (65521:Int)) (65521:Int);
 let c4:=D.rem c2 (65521:Int);
 let c5:=D.mul (D.rem c3 (65521:Int)) c4;
 let c6:=D.add (sS (rl l) x) c5;
 let c7:=D.add x (1:Int);idxTo l x→(c1=true→D.ile (0:Int) x∧D.ilt x (D.ilen l)∧inR IntKind.i64 c2∧D.ine (65521:Int) (0:Int)∧D.ine (65521
 : Int) (0:Int)∧inR IntKind.i64 c3∧D.ine (65521:Int) (0:Int)∧inR IntKind.i64 c5∧inR IntKind.i64 c6∧D.ine (65521:Int) (0:Int)∧inR
 IntKind.i64 c7∧∃ y,idxTo l y∧(l=l∧(0:Int)=(0:Int)∧c4=sP (rl l) y∧D.rem c6 (65521:Int)=sS (rl l) y∧l=l∧D.ilen l=D.ilen l∧c7 =
 y∧True)∧D.nlt (D.nat (D.sub (D.ilen l) y)) (D.nat (D.sub (D.ilen l) x)))∧(c1=false→sS (rl l) x=sealG l∧True))) :
  evF (mkc K4) (wSealA l) 19 [.dat R l] [] ⟨limS l,.dat I (sealG l),[]⟩:=@of_eq _ _ (by kernel_rfl) hvc
def K5:Kt:=kOr 60 (dataK [.row Ce] (fun (c,_)=>limI c.1) fun (c,_)=>.dat .bool (sealedF c.1 c.2)) <|
 kOr 19 (dataK [.val R] (fun (l,_)=>limS l) fun (l,_)=>.dat I (sealG l)) <|
 K4
def K6:Kt :=
 kOr 98 (memK 1 R [.mp 1] (fun _ xs=>True∧hasOne xs=true) (fun _ xs=>.dat I (hd xs)) fun _ xs=>tl xs) K5
def KP6:KPt:=pOr 98 (memP 1 R [.mp 1] fun _ xs=>⟨True,hasOne xs,errV 39 190⟩) KPr
def c6:Cfg:=mkp K6 (fun _=>false) KP6 (fun f=>f == 25 || f == 98)
def tableA (m:Int) (l:List Int):Ann:=⟨fun id s=>match id with
 | 3=>some { α:=Int,inv:=fun k=>tabTo m l k,st:=fun k=>putM (putM (put (flat s) [(12,.dat I k),(5,.buf 2 (D.nat m))]) 2 (.buf 30 R (rowsF (tg l m) m k) [])) 1 (.var [.dat R (dropI l (D.mul k m))]),μ:=fun k=>D.nat (D.sub m k) }
 | 7=>match s.sig.T 6,s.sig.T 23 with
  | .dat (.int .i64) i,.buf nm _=>some { α:=Int,inv:=fun k=>tabTo2 m l i k,st:=fun k=>putM (putM (put (flat s) [(25,.dat I k)]) nm (.buf 3 I (rowF (tg l m) m i k) [])) 1 (.var [.dat R (dropI l (D.add (D.mul i m) k))]),μ:=fun k=>D.nat (D.sub m k) }
  | _,_=>none
 | _=>none,fun _ _=>none,fun _ _=>none⟩
theorem vc_table (m:Int) (l:List Int) (hvc :
 let c1:=D.rep m (D.nil Int);
 let c2:=D.rep m (0:Int);
 let c3:=chainOf (Value.iface (39) (Value.int IntKind.i64 (190:Int)));true=true∧(tabP m l→1=1∧D.ile (0:Int) m∧D.ile (D.mul (D.ofN (24)) m)
 (281474976710656:Int)∧D.ile m (9223372036854775807:Int)∧D.len c1=D.nat m∧(∃ x,tabTo m l x∧1=1∧0=0∧0=0∧m=m∧Value.slice none (0)
 (0)=Value.slice none (0) (0)∧D.nat m=D.nat m∧m=m∧D.nat m=D.nat m∧D.nat m=D.nat m∧Int.ofNat (D.nat m)=Int.ofNat (D.nat m)∧(0:Int)=x
 ∧ l=dropI l (D.mul x m)∧c1=rowsF (tg l m) m x∧1=1∧True)∧∀ (x:Int),
 let c4:=D.lt x (Int.ofNat (D.nat m));
 let c5:=rowsF (tg l m) m x;
 let c6:=D.len c5;
 let c7:=dropI l (D.mul x m);
 let c8:=D.add x (1:Int);tabTo m l x→(c4=true→D.ile (0:Int) m∧D.ile (D.mul (D.ofN (8)) m) (281474976710656:Int)∧D.ile m (9223372036854775807 :
 Int)∧c6=D.nat m∧D.ile (0:Int) x∧D.ilt x (D.ofN c6)∧c6=D.nat m∧D.len c2=D.nat m∧c6=D.nat m∧D.ile (0:Int) x∧D.ilt x (D.ofN c6)∧c6 =
 D.nat m∧D.nat x=D.nat x∧D.len c2=D.nat m∧(∃ x_3,tabTo2 m l x x_3∧1=1∧0=0∧0=0∧m=m∧Value.slice none (0) (0)=Value.slice none (0)
 (0)∧D.nat m=D.nat m∧x=x∧m=m∧D.nat m=D.nat m∧D.nat m=D.nat m∧Int.ofNat (D.nat m)=Int.ofNat (D.nat m)∧x=x∧c4=c4∧x=x∧D.nat m
 = D.nat m∧x=x∧m=m∧D.nat m=D.nat m∧D.nat m=D.nat m∧D.nat x=D.nat x∧0=0∧D.nat m=D.nat m∧x=x∧D.nat m=D.nat m∧D.nat x=D.nat
 x∧0=0∧D.nat m=D.nat m∧Int.ofNat (D.nat m)=Int.ofNat (D.nat m)∧(0:Int)=x_3∧c7=dropI l (D.add (D.mul x m) x_3)∧c5=c5∧D.nat x=D.nat
 x∧D.nat m=D.nat m∧c2=rowF (tg l m) m x x_3∧1=1∧True)∧∀ (x_3:Int),
 let c9:=D.lt x_3 (Int.ofNat (D.nat m));
 let c10:=dropI l (D.add (D.mul x m) x_3);
 let c11:=hasOne c10;
 let c12:=D.sub (hd c10) (1:Int);
 let c13:=rowF (tg l m) m x x_3;
 let c14:=D.len c13;
 let c15:=D.add x_3 (1:Int);tabTo2 m l x x_3→(c9=true→c6=D.nat m∧D.ile (0:Int) x∧D.ilt x (D.ofN c6)∧c6=D.nat m∧D.nat x=D.nat x∧True
 ∧ (c11=true→c6=D.nat m∧D.ile (0:Int) x∧D.ilt x (D.ofN c6)∧c6=D.nat m∧D.nat x=D.nat x∧(True∧c11=true)∧1=1∧inR IntKind.i64 c12 ∧
 c14=D.nat m∧D.ile (0:Int) x_3∧D.ilt x_3 (D.ofN c14)∧c14=D.nat m∧inR IntKind.i64 c15∧∃ y,tabTo2 m l x y∧(1=1∧0=0∧0=0∧m=m ∧
 Value.slice none (0) (0)=Value.slice none (0) (0)∧D.nat m=D.nat m∧x=x∧m=m∧D.nat m=D.nat m∧D.nat m=D.nat m∧Int.ofNat (D.nat m) =
 Int.ofNat (D.nat m)∧x=x∧c4=c4∧x=x∧D.nat m=D.nat m∧x=x∧m=m∧D.nat m=D.nat m∧D.nat m=D.nat m∧D.nat x=D.nat x∧0=0∧D.nat m
 = D.nat m∧x=x∧D.nat m=D.nat m∧D.nat x=D.nat x∧0=0∧D.nat m=D.nat m∧Int.ofNat (D.nat m)=Int.ofNat (D.nat m)∧c15=y∧tl c10=dropI l
 (D.add (D.mul x m) y)∧c5=c5∧D.nat x=D.nat x∧D.nat m=D.nat m∧D.set c13 (D.nat x_3) c12=rowF (tg l m) m x y∧1=1∧True)∧D.nlt (D.nat (D.sub
 m y)) (D.nat (D.sub m x_3)))∧(c11=false→tabOk m l=false∧true=true∧c3=c3))∧(c9=false→inR IntKind.i64 c8∧∃ y,tabTo m l y∧(1=1∧0 =
 0∧0=0∧m=m∧Value.slice none (0) (0)=Value.slice none (0) (0)∧D.nat m=D.nat m∧m=m∧D.nat m=D.nat m∧D.nat m=D.nat m∧Int.ofNat (D.nat
 m)=Int.ofNat (D.nat m)∧c8=y∧c10=dropI l (D.mul y m)∧c14=D.nat m∧D.set c5 (D.nat x) c13=rowsF (tg l m) m y∧1=1∧True)∧D.nlt (D.nat
 (D.sub m y)) (D.nat (D.sub m x))))∧(c4=false→tabOk m l=true∧c6=D.nat m∧c5=tabF m l∧c7=dropI l (D.mul m m)∧1=1∧True))) :
  evM c6 (tableA m l) 99 [.ptr 1 1 0 0,.dat I m] [(1,.var [.dat R l])] (.dat M (tabF m l)) [(1,.var [.dat R (dropI l (D.mul m m))])] ⟨tabP m l,tabOk m l,errV 39 190⟩:=@of_eq _ _ (by kernel_rfl) hvc
def K7:Kt:=kOr 99 (memK 1 R [.mp 1,.val I] (fun (_,m,_) xs=>tabP m xs∧tabOk m xs=true) (fun (_,m,_) xs=>.dat M (tabF m xs)) fun (_,m,_) xs=>dropI xs (D.mul m m)) K6
def KP7:KPt:=pOr 99 (memP 1 R [.mp 1,.val I] fun (_,m,_) xs=>⟨tabP m xs,tabOk m xs,errV 39 190⟩) KP6
def c7:Cfg:=mkp K7 (fun _=>false) KP7 (fun f=>f == 25 || f == 98 || f == 99)
def planA (l:List Int):Ann:=⟨fun id s=>match id with
 | 9=>some { α:=Int,inv:=fun k=>plTo (at0 l 3) (at0 l 2) l k,st:=fun k=>putM (putM (put (flat s) [(53,.dat I k)]) 4 (.buf 41 M (tabsTo (at0 l 3) (at0 l 2) (dropI l (D.add 4 (D.mul (at0 l 2) (at0 l 2)))) k) [])) 1 (.var [.dat R (restK (at0 l 3) (at0 l 2) l k)]),μ:=fun k=>D.nat (D.sub (at0 l 3) k) }
 | _=>none,fun _ _=>none,fun _ _=>none⟩
theorem vc_plan (l:List Int) (hvc :
 let c1:=chainOf (Value.iface (39) (Value.int IntKind.i64 (190:Int)));
 let c2:=hasOne (tl (tl (tl l)));
 let c3:=D.le (hd (tl (tl l))) (12:Int);
 let c4:=hd (tl (tl (tl l)));
 let c5:=D.cnd c3 (D.le c4 (4:Int)) false;
 let c6:=D.lt (hd l) (hd (tl l));
 let c7:=D.add (hd l) (60:Int);
 let c8:=D.cnd c6 (D.le (hd (tl l)) c7) false;
 let c9:=D.cnd c8 (D.le (hd (tl l)) (600:Int)) false;
 let c10:=tl (tl (tl (tl l)));
 let c11:=tabOk (hd (tl (tl l))) c10;
 let c12:=D.rep c4 (D.nil (List Int));
 let c13:=D.nat c4;
 let c14:=tabF (hd (tl (tl l))) c10;
 let c15:=Int.ofNat c13;
 let c16:=D.mul (hd (tl (tl l))) (hd (tl (tl l)));
 let c17:=dropI l (D.add (4:Int) (D.mul (at0 l (2)) (at0 l (2))));
 let c18:=(planF l).snd;
 let c19:=c18.snd;true=true∧(numsOk l→1=1∧(true=true→True∧(hasOne l=false→plOk l=false∧true=true∧c1=c1))∧((true=true →
 hasOne l=true)→(True∧hasOne l=true)∧1=1∧(true=true→True∧(hasOne (tl l)=false→plOk l=false∧true=true∧c1=c1))∧((true=true →
 hasOne (tl l)=true)→(True∧hasOne (tl l)=true)∧1=1∧1=1∧1=1∧0=0∧1=1∧1=1∧0=0∧(true=true→True∧(hasOne (tl (tl l)) =
 false→plOk l=false∧true=true∧c1=c1))∧((true=true→hasOne (tl (tl l))=true)→(True∧hasOne (tl (tl l))=true)∧1=1∧(true=true →
 True∧(c2=false→plOk l=false∧true=true∧c1=c1))∧((true=true→c2=true)→(True∧c2=true)∧1=1∧(c3=true→c3=true→c3=true) ∧
 (D.and true c3=true→c3=true)∧(true=true→True∧(c5=false→plOk l=false∧true=true∧c1=c1))∧((true=true→c5=true)→(True∧c5 =
 true)∧1=1∧1=1∧0=0∧1=1∧1=1∧0=0∧(c6=true→1=1)∧(c6=true→c6=true→c6=true)∧(c6=true→1=1)∧(c6=true→0=0) ∧
 (c6=true→1=1)∧(c6=true→c6=true→c6=true)∧(c6=true→1=1)∧(c6=true→0=0)∧(c6=true→c6=true→c6=true)∧(c6=true→inR
 IntKind.i64 c7)∧(c6=true→c6=true→c6=true)∧(c6=true→c6=true→c6=true)∧(D.and true c6=true→c6=true)∧(c8=true→1=1)∧(c8 =
 true→c8=true→c8=true)∧(c8=true→1=1)∧(c8=true→0=0)∧(c8=true→c8=true→c8=true)∧(D.and true c8=true→c8=true)∧(true =
 true→True∧(c9=false→plOk l=false∧true=true∧c1=c1))∧((true=true→c9=true)→(True∧c9=true)∧(true=true→tabP (hd (tl (tl l)))
 c10∧(c11=false→plOk l=false∧true=true∧c1=c1))∧((true=true→c11=true)→(tabP (hd (tl (tl l))) c10∧c11=true)∧1=1∧1=1∧1=1
 ∧ 0=0∧D.ile (0:Int) c4∧D.ile (D.mul (D.ofN (24)) c4) (281474976710656:Int)∧D.ile c4 (9223372036854775807:Int)∧1=1∧1=1∧0=0∧D.len c12
 = c13∧1=1∧1=1∧0=0∧D.len c12=c13∧(∃ x,plTo (at0 l (3)) (at0 l (2)) l x∧1=1∧0=0∧0=0∧1=1∧0=0∧0=0∧1=1∧0=0∧0 =
 0∧hd (tl (tl l))=hd (tl (tl l))∧c4=c4∧1=1∧0=0∧0=0∧hd l=hd l∧1=1∧0=0∧0=0∧hd (tl l)=hd (tl l)∧1=1∧0=0∧0=0∧1
 = 1∧0=0∧1=1∧1=1∧0=0∧0=0∧hd (tl (tl l))=hd (tl (tl l))∧1=1∧0=0∧0=0∧c4=c4∧hd (tl (tl l))=hd (tl (tl l))∧c3=c3 ∧
 c3=c3∧c5=c5∧1=1∧0=0∧0=0∧hd l=hd l∧1=1∧0=0∧1=1∧hd (tl l)=hd (tl l)∧c6=c6∧c6=c6∧c8=c8∧c8=c8∧c9=c9∧1 =
 1∧0=0∧0=0∧hd (tl (tl l))=hd (tl (tl l))∧c14=c14∧1=1∧0=0∧2=2∧c4=c4∧c13=c13∧1=1∧0=0∧3=3∧1=1∧0=0∧3=3 ∧
 c13=c13∧c15=c15∧(0:Int)=x∧dropI c10 c16=restK (at0 l (3)) (at0 l (2)) l x∧(0:Int)=(0:Int)∧(0:Int)=(0:Int)∧Value.slice none
 (0) (0)=Value.slice none (0) (0)∧Value.slice none (0) (0)=Value.slice none (0) (0)∧hd l=hd l∧hd (tl l)=hd (tl l)∧c14=c14∧c13=c13∧c12 =
 tabsTo (at0 l (3)) (at0 l (2)) c17 x∧1=1∧True)∧∀ (x:Int),
 let c20:=restK (at0 l (3)) (at0 l (2)) l x;
 let c21:=tabOk (hd (tl (tl l))) c20;
 let c22:=tabsTo (at0 l (3)) (at0 l (2)) c17 x;
 let c23:=D.len c22;
 let c24:=D.add x (1:Int);plTo (at0 l (3)) (at0 l (2)) l x→(D.lt x c15=true→1=1∧1=1∧0=0∧tabP (hd (tl (tl l))) c20∧(c21=true→1=1 ∧
 1=1∧0=0∧(tabP (hd (tl (tl l))) c20∧c21=true)∧1=1∧c23=c13∧D.ile (0:Int) x∧D.ilt x (D.ofN c23)∧c23=c13∧inR IntKind.i64 c24∧∃ y,
 plTo (at0 l (3)) (at0 l (2)) l y∧(1=1∧0=0∧0=0∧1=1∧0=0∧0=0∧1=1∧0=0∧0=0∧hd (tl (tl l))=hd (tl (tl l))∧c4=c4∧1=1 ∧
 0=0∧0=0∧hd l=hd l∧1=1∧0=0∧0=0∧hd (tl l)=hd (tl l)∧1=1∧0=0∧0=0∧1=1∧0=0∧1=1∧1=1∧0=0∧0=0∧hd (tl
 (tl l))=hd (tl (tl l))∧1=1∧0=0∧0=0∧c4=c4∧hd (tl (tl l))=hd (tl (tl l))∧c3=c3∧c3=c3∧c5=c5∧1=1∧0=0∧0=0∧hd l=hd
 l∧1=1∧0=0∧1=1∧hd (tl l)=hd (tl l)∧c6=c6∧c6=c6∧c8=c8∧c8=c8∧c9=c9∧1=1∧0=0∧0=0∧hd (tl (tl l))=hd (tl (tl l)) ∧
 c14=c14∧1=1∧0=0∧2=2∧c4=c4∧c13=c13∧1=1∧0=0∧3=3∧1=1∧0=0∧3=3∧c13=c13∧c15=c15∧c24=y∧dropI c20 c16 =
 restK (at0 l (3)) (at0 l (2)) l y∧(0:Int)=(0:Int)∧(0:Int)=(0:Int)∧Value.slice none (0) (0)=Value.slice none (0) (0)∧Value.slice none (0)
 (0)=Value.slice none (0) (0)∧hd l=hd l∧hd (tl l)=hd (tl l)∧c14=c14∧c13=c13∧D.set c22 (D.nat x) (tabF (hd (tl (tl l))) c20)=tabsTo (at0 l
 (3)) (at0 l (2)) c17 y∧1=1∧True)∧D.nlt (D.nat (D.sub (at0 l (3)) y)) (D.nat (D.sub (at0 l (3)) x)))∧(c21=false→plOk l=false∧true=true∧c1
 = c1))∧(D.lt x c15=false→1=1∧0=0∧1=1∧0=0∧c23=c13∧plOk l=true∧1=1∧0=0∧hd l=(planF l).fst∧hd (tl l)=c18.fst∧c14 =
 c19.fst∧c23=c13∧c22=c19.snd∧c20=plRest l∧1=1∧True)))))))))) :
  evM c7 (planA l) 61 [.ptr 1 1 0 0] [(1,.var [.dat R l])] (.agg [.dat I (planF l).1,.dat I (planF l).2.1,.dat M (planF l).2.2.1,.dat (.sl M) (planF l).2.2.2]) [(1,.var [.dat R (plRest l)])] ⟨numsOk l,plOk l,errV 39 190⟩:=@of_eq _ _ (by kernel_rfl) hvc
def K8:Kt:=kOr 61 (memK 1 R [.mp 1] (fun _ xs=>numsOk xs∧plOk xs=true) (fun _ xs=>.agg [.dat I (planF xs).1,.dat I (planF xs).2.1,.dat M (planF xs).2.2.1,.dat (.sl M) (planF xs).2.2.2]) fun _ xs=>plRest xs) K7
def KP8:KPt:=pOr 61 (memP 1 R [.mp 1] fun _ xs=>⟨numsOk xs,plOk xs,errV 39 190⟩) KP7
theorem sP_zero (l:List Int):sP l 0=1:=rfl
theorem sS_zero (l:List Int):sS l 0=0:=rfl
theorem take_next {l:List Int} {x:Int} (h0:0≤x) (h1:x < l.length):l.take (x + 1).toNat=l.take x.toNat ++ [l.getD x.toNat 0]:=by
 rw [show (x + 1).toNat=x.toNat + 1 by omega,List.take_add_one,List.getD_eq_getElem?_getD,List.getElem?_eq_getElem (by omega:x.toNat < l.length)];rfl
theorem s_next {l:List Int} {x:Int} (h0:0≤x) (h1:x < l.length):sP l (x + 1)=sP l x * 3 % 65521∧sS l (x + 1)=(sS l x + l.getD x.toNat 0 * (sP l x * 3 % 65521)) % 65521:=by
 unfold sP sS
 rw [take_next h0 h1,sRun_app]
 exact ⟨rfl,rfl⟩
theorem s_ok (l:List Int) (x:Int):(0≤sP l x∧sP l x < 65521)∧0≤sS l x∧sS l x < 65521:=sRun_ok (l.take x.toNat) (st:=(1,0)) ⟨⟨by decide,by decide⟩,⟨by decide,by decide⟩⟩
theorem s_end {l:List Int} {x:Int} (h:(l.length:Int)≤x):sS l x=sealOf l:=by
 unfold sS sealOf
 rw [List.take_of_length_le (by omega)]
theorem rl_len (l:List Int):(rl l).length=l.length:=by unfold rl;rw [List.length_map]
theorem rl_at {l:List Int} {i:Nat} (h:i < l.length):(rl l).getD i 0=l.getD i 0 % 65521:=by
 unfold rl
 rw [List.getD_eq_getElem?_getD,List.getElem?_map,List.getD_eq_getElem?_getD,List.getElem?_eq_getElem h];rfl
theorem inSeal_iff {l:List Int}:inSeal l=true↔∀ x ∈ l,0≤x∧x≤65519:=by
 unfold inSeal
 rw [List.all_eq_true]
 exact ⟨fun h x hx=>btw_iff.1 (h x hx),fun h x hx=>btw_iff.2 (h x hx)⟩
theorem inTo_next {l:List Int} {x:Int} (h:inTo l x) (h1:x < l.length) (h2:btw (l.getD x.toNat 0) 0 65519=true):inTo l (x + 1):=by
 obtain ⟨a,b,c⟩:=h
 refine ⟨by omega,by omega,?_⟩
 rw [take_next a h1]
 unfold inSeal at c ⊢
 rw [List.all_append,c]
 simpa using h2
theorem inTo_end {l:List Int} {x:Int} (h:inTo l x) (h1:¬ x < l.length):inSeal l=true:=by
 obtain ⟨a,b,c⟩:=h
 rwa [List.take_of_length_le (by omega)] at c
theorem inSeal_no {l:List Int} {x:Int} (h0:0≤x) (h1:x < l.length) (h2:btw (l.getD x.toNat 0) 0 65519=false):inSeal l=false:=by
 cases e:inSeal l with
 | false=>rfl
 | true =>
  have:=btw_iff.2 (inSeal_iff.1 e _ (getD_mem (l:=l) (i:=x.toNat) (d:=0) (by omega)))
  rw [this] at h2;cases h2
theorem mul_le {a b:Int} (a0:0≤a) (a1:a≤65521) (b0:0≤b) (b1:b≤65521):0≤a * b∧a * b≤65521 * 65521 :=
 ⟨Int.mul_nonneg a0 b0,Int.mul_le_mul a1 b1 b0 (by omega)⟩
theorem tme {a:Int} (h:0≤a):a.tmod 65521=a % 65521:=Int.tmod_eq_emod_of_nonneg h
theorem t_insealed (s:Int) (l:List Int):SoundC Tryz.prog G0 60 [.agg [.dat R l,.dat I s]] [] ⟨limI l,.dat .bool (sealedF l s),[]⟩:=by
 refine sound_of_ev (c:=mkc K4) KS4 KI0s hm (vc_insealed s l ⟨rfl,fun hl=>?_⟩)
 have hl:l.length≤2000000000000000:=hl
 refine ⟨⟨0,⟨Int.le_refl _,Int.natCast_nonneg _,rfl⟩,by simp [sP_zero,sS_zero]⟩,fun x=>?_⟩
 intro c2 c3 c4 c5 c6 c7 c8 c9 hx
 refine ⟨fun h2=>?_,fun h2=>?_⟩
 ·have h2:x < (l.length:Int):=of_decide_eq_true h2
  have h0:=hx.1
  obtain ⟨⟨p0,p1⟩,s0,s1⟩:=s_ok l x
  obtain ⟨n1,n2⟩:=s_next h0 h2
  refine ⟨h0,h2,trivial,fun h4=>⟨?_,trivial⟩,fun h4=>?_⟩
  ·have:btw (l.getD x.toNat 0) 0 65519=false:=by simpa [c4,c3,D.not,D.get,D.nat] using h4
   unfold sealedF;rw [inSeal_no h0 h2 this];rfl
  ·have hb:btw (l.getD x.toNat 0) 0 65519=true:=by simpa [c4,c3,D.not,D.get,D.nat] using h4
   obtain ⟨b0,b1⟩:=btw_iff.1 hb
   have e6:c6=sP l (x + 1):=by rw [n1];exact tme (by show 0≤sP l x * 3;omega)
   obtain ⟨⟨q0,q1⟩,_,_⟩:=s_ok l (x + 1)
   have e3:c3=l.getD x.toNat 0:=rfl
   have e7:c7=c3 * c6:=rfl
   have e8:c8=sS l x + c7:=rfl
   have e5:c5=sP l x * 3:=rfl
   have e9:c9=x + 1:=rfl
   clear_value c3 c5 c6 c7 c8 c9
   have hm:=mul_le (a:=c3) (b:=c6) (by omega) (by omega) (by omega) (by omega)
   refine ⟨in_big (by omega),by decide,in_big (by omega),in_big (by omega),by decide,in_big (by omega),x + 1,inTo_next hx h2 hb,⟨rfl,rfl,rfl,e6,?_,rfl,rfl,rfl,e9,trivial⟩,?_⟩
   ·rw [n2,← n1]
    show c8.tmod 65521=_
    rw [tme (by omega),e8,e7,e3,e6]
   ·simp only [D.nlt,D.nat,D.sub,D.ilen];omega
 ·have h2:¬ x < (l.length:Int):=of_decide_eq_false h2
  refine ⟨?_,trivial⟩
  unfold sealedF
  rw [inTo_end hx h2,s_end (by omega),Bool.true_and]
  show (s == _)=_
  rw [Bool.eq_iff_iff];simp
theorem t_wseal (l:List Int):SoundC Tryz.prog G0 19 [.dat R l] [] ⟨limS l,.dat I (sealG l),[]⟩:=by
 refine sound_of_ev (c:=mkc K4) KS4 KI0s hm (vc_wseal l ⟨rfl,fun hl=>?_⟩)
 have hl:l.length≤9223372036854775807:=hl
 refine ⟨⟨0,⟨Int.le_refl _,Int.natCast_nonneg _⟩,by simp [sP_zero,sS_zero]⟩,fun x=>?_⟩
 intro c1 c2 c3 c4 c5 c6 c7 hx
 refine ⟨fun h2=>?_,fun h2=>?_⟩
 ·have h2:x < (l.length:Int):=of_decide_eq_true h2
  have h0:=hx.1
  obtain ⟨⟨p0,p1⟩,s0,s1⟩:=s_ok (rl l) x
  obtain ⟨n1,n2⟩:=s_next (l:=rl l) h0 (by rw [rl_len];exact h2)
  rw [rl_at (by omega)] at n2
  have e4:c4=sP (rl l) (x + 1):=by rw [n1];exact tme (by show 0≤sP (rl l) x * 3;omega)
  obtain ⟨⟨q0,q1⟩,_,_⟩:=s_ok (rl l) (x + 1)
  have em:D.rem c3 65521=l.getD x.toNat 0 % 65521:=norm_mod (by decide)
  have m0:=Int.emod_nonneg (l.getD x.toNat 0) (show (65521:Int)≠0 by decide)
  have m1:=Int.emod_lt_of_pos (l.getD x.toNat 0) (show (0:Int) < 65521 by decide)
  have e5:c5=D.rem c3 65521 * c4:=rfl
  have e6:c6=sS (rl l) x + c5:=rfl
  have e2:c2=sP (rl l) x * 3:=rfl
  have e7:c7=x + 1:=rfl
  have e3:c3=(l.getD x.toNat 0).tmod 65521 + 65521:=rfl
  have tb:-65521 < (l.getD x.toNat 0).tmod 65521∧(l.getD x.toNat 0).tmod 65521 < 65521:=by
   have:=Int.tmod_eq_emod (a:=l.getD x.toNat 0) (b:=65521)
   split at this <;> omega
  rw [em] at e5
  clear_value c2 c3 c4 c5 c6 c7
  have hm:=mul_le (a:=l.getD x.toNat 0 % 65521) (b:=c4) (by omega) (by omega) (by omega) (by omega)
  refine ⟨h0,h2,in_big (by omega),by decide,by decide,in_big (by omega),by decide,in_big (by omega),in_big (by omega),by decide,⟨show (-9223372036854775808:Int)≤_ by omega,show _≤(9223372036854775807:Int) by omega⟩,x + 1,⟨by omega,by omega⟩,⟨rfl,rfl,e4,?_,rfl,rfl,e7,trivial⟩,?_⟩
  ·rw [n2,← n1]
   show c6.tmod 65521=_
   rw [tme (by omega),e6,e5,e4]
  ·simp only [D.nlt,D.nat,D.sub,D.ilen];omega
 ·have h2:¬ x < (l.length:Int):=of_decide_eq_false h2
  exact ⟨s_end (by rw [rl_len];omega),trivial⟩
theorem KS5:KSound Tryz.prog G0 K5:=kOr_ok (dataK_ok fun ((l,s),_)=>t_insealed s l) <| kOr_ok (dataK_ok fun (l,_)=>t_wseal l) <|
 KS4
theorem t_nextK:∀ x xs,SoundC Tryz.prog G0 98 (avK [.mp 1] x) [(1,.var [.dat R xs])] ⟨True∧hasOne xs=true,.dat I (hd xs),[(1,.var [.dat R (tl xs)])]⟩:=fun _ xs=>(t_next1 xs).1
theorem KS6:KSound Tryz.prog G0 K6 :=
 kOr_ok (memK_ok t_nextK) KS5
theorem KP6_ok:KPSound Tryz.prog G0 KP6:=pOr_ok (memP_ok fun _ xs=>(t_next1 xs).2) KPr_ok
theorem fill_set {α:Type} (xs:List α) (d v:α) (k:Nat) (hk:xs[k]?=some v):(xs.take k ++ List.replicate (xs.length - k) d).set k v=xs.take (k + 1) ++ List.replicate (xs.length - (k + 1)) d:=by
 obtain ⟨h,e⟩:=List.getElem?_eq_some_iff.1 hk
 have e2:xs.length - k=(xs.length - (k + 1)) + 1:=by omega
 rw [e2,List.replicate_succ,List.set_append_right _ _ (by simp;omega)]
 simp [List.take_add_one,hk,Nat.min_eq_left (Nat.le_of_lt h)]
theorem buildF_length (g:Int→Int→Int) (n:Int):(buildF g n).length=n.toNat:=by simp [buildF]
theorem rowsF_len (g:Int→Int→Int) (n x:Int) (h:upto x n):(rowsF g n x).length=n.toNat:=by
 have:=h.1;have:=h.2
 simp only [rowsF,List.length_append,List.length_take,List.length_replicate,buildF_length];omega
theorem rowF_len (g:Int→Int→Int) (n i x:Int) (h:upto x n):(rowF g n i x).length=n.toNat:=by
 have:=h.1;have:=h.2
 simp only [rowF,List.length_append,List.length_take,List.length_replicate,List.length_map,List.length_range];omega
theorem rowsF_zero (g:Int→Int→Int) (n:Int):rowsF g n 0=List.replicate n.toNat []:=by simp [rowsF]
theorem rowF_zero (g:Int→Int→Int) (n i:Int):rowF g n i 0=List.replicate n.toNat 0:=by simp [rowF]
theorem rowF_succ (g:Int→Int→Int) (n i j:Int) (h0:0≤j) (h1:j < n):(rowF g n i j).set j.toNat (g i j)=rowF g n i (j + 1):=by
 have e:(j + 1).toNat=j.toNat + 1:=by omega
 have:=fill_set ((List.range n.toNat).map fun j:Nat=>g i j) 0 (g i j) j.toNat (by
  rw [List.getElem?_map,List.getElem?_range (by omega)];simp [Int.toNat_of_nonneg h0])
 simp only [List.length_map,List.length_range] at this
 unfold rowF;rw [e];exact this
theorem rowF_end (g:Int→Int→Int) (n i j:Int) (h:upto j n) (h1:¬ j < n):rowF g n i j=(List.range n.toNat).map fun j:Nat=>g i j:=by
 have:=h.1;have:=h.2
 have e:j.toNat=n.toNat:=by omega
 unfold rowF
 rw [e,List.take_of_length_le (by simp)];simp
theorem rowsF_succ (g:Int→Int→Int) (n i j:Int) (h0:0≤i) (h1:i < n) (h:upto j n) (h2:¬ j < n):(rowsF g n i).set i.toNat (rowF g n i j)=rowsF g n (i + 1):=by
 have e:(i + 1).toNat=i.toNat + 1:=by omega
 rw [rowF_end g n i j h h2]
 have:=fill_set (buildF g n) [] ((List.range n.toNat).map fun j:Nat=>g i j) i.toNat (by
  unfold buildF
  rw [List.getElem?_map,List.getElem?_range (by omega)];simp [Int.toNat_of_nonneg h0])
 rw [buildF_length] at this
 unfold rowsF;rw [e];exact this
theorem rowsF_end (g:Int→Int→Int) (n i:Int) (h:upto i n) (h1:¬ i < n):rowsF g n i=buildF g n:=by
 have:=h.1;have:=h.2
 have e:i.toNat=n.toNat:=by omega
 unfold rowsF
 rw [e,List.take_of_length_le (by rw [buildF_length];exact Nat.le_refl _)];simp
theorem tl_drop {l:List Int} {k:Int} (h:0≤k):tl (dropI l k)=dropI l (k + 1):=by
 unfold tl dropI
 rw [List.drop_drop];congr 1;omega
theorem hd_drop (l:List Int) (k:Int):hd (dropI l k)=l.getD k.toNat 0:=by
 unfold hd dropI
 simp [List.getD_eq_getElem?_getD,List.getElem?_drop]
theorem one_drop {l:List Int} {k:Int} (h:0≤k):hasOne (dropI l k)=decide (k < l.length):=by
 unfold hasOne dropI
 rw [List.length_drop,decide_eq_decide];omega
theorem drop_drop {l:List Int} {a b:Int} (ha:0≤a) (hb:0≤b):dropI (dropI l a) b=dropI l (a + b):=by
 unfold dropI
 rw [List.drop_drop];congr 1;omega
theorem drop_len (l:List Int) (k:Int):(dropI l k).length=l.length - k.toNat:=by unfold dropI;rw [List.length_drop]
theorem mul_step (i m:Int):(i + 1) * m=i * m + m:=by rw [Int.add_mul,Int.one_mul]
theorem t_table (m:Int) (l:List Int):SoundC Tryz.prog G0 99 [.ptr 1 1 0 0,.dat I m] [(1,.var [.dat R l])] ⟨tabP m l∧tabOk m l=true,.dat M (tabF m l),[(1,.var [.dat R (dropI l (D.mul m m))])]⟩ ∧
  SoundP Tryz.prog G0 99 [.ptr 1 1 0 0,.dat I m] [(1,.var [.dat R l])] ⟨tabP m l,tabOk m l,errV 39 190⟩:=by
 refine sound_of_evM (c:=c6) KS6 KI0s hm KP6_ok (vc_table m l ⟨rfl,fun hp=>?_⟩)
 obtain ⟨m0,m1,⟨hin,hl⟩⟩:=hp
 have hl:l.length≤2000000000000000:=hl
 have em:(Int.ofNat (D.nat m))=m:=Int.toNat_of_nonneg m0
 have bd:∀ {k:Int},0≤k→k < l.length→0≤l.getD k.toNat 0∧l.getD k.toNat 0≤65519:=fun {k} h0 h1=>inSeal_iff.1 hin _ (getD_mem (by omega))
 simp only [em]
 simp only [true_and,and_true,D.nil,D.lt,D.ile,D.ilt,D.nlt,D.sub,D.add,D.mul,D.nat,D.ofN,D.len,D.set,D.rep,decide_eq_true_eq,decide_eq_false_iff_not]
 refine ⟨m0,by omega,by omega,by simp,⟨0,⟨⟨Int.le_refl _,.inr rfl⟩,by rw [Int.zero_mul];exact Int.natCast_nonneg _⟩,rfl,by rw [Int.zero_mul];rfl,(rowsF_zero _ _).symm⟩,fun x hx=>⟨fun hlt=>?_,fun hge=>?_⟩⟩
 ·have h0:=hx.1.1
  have hln:=rowsF_len (tg l m) m x hx.1
  have xm0:0≤x * m:=Int.mul_nonneg h0 m0
  have top:(x + 1) * m≤m * m:=Int.mul_le_mul_of_nonneg_right (by omega) m0
  rw [mul_step] at top
  have em2:(m.toNat:Int)=m:=Int.toNat_of_nonneg m0
  have hlx:x < ((rowsF (tg l m) m x).length:Int):=by rw [hln];omega
  refine ⟨m0,by omega,by omega,hln,h0,hlx,hln,by simp,hln,h0,hlx,hln,by simp,⟨0,⟨⟨Int.le_refl _,.inr rfl⟩,by have:=hx.2;omega⟩,rfl,by rw [Int.add_zero],(rowF_zero _ _ _).symm⟩,fun y hy=>⟨fun hy1=>?_,fun hy1=>?_⟩⟩
  ·have y0:=hy.1.1
   have hrl:=rowF_len (tg l m) m x y hy.1
   have hly:y < ((rowF (tg l m) m x y).length:Int):=by rw [hrl];omega
   have eo:=one_drop (l:=l) (k:=x * m + y) (by omega)
   refine ⟨hln,h0,hlx,hln,fun ho=>?_,fun ho=>?_⟩
   ·have hlt2:x * m + y < l.length:=by rw [eo] at ho;exact of_decide_eq_true ho
    obtain ⟨b0,b1⟩:=bd (k:=x * m + y) (by omega) hlt2
    have eh:hd (dropI l (x * m + y)) - 1=tg l m x y:=by rw [hd_drop];rfl
    refine ⟨hln,h0,hlx,hln,ho,in_big (by rw [hd_drop];omega),hrl,y0,hly,hrl,in_big (by omega),y + 1,⟨⟨by omega,.inl (by omega)⟩,by omega⟩,⟨rfl,?_,?_⟩,by omega⟩
    ·rw [tl_drop (by omega),Int.add_assoc]
    ·rw [eh];exact rowF_succ (tg l m) m x y y0 hy1
   ·rw [eo,decide_eq_false_iff_not] at ho
    unfold tabOk
    rw [decide_eq_false_iff_not]
    omega
  ·have hy2:y=m:=by rcases hy.1 with ⟨y0,y1⟩;omega
   refine ⟨in_big (by omega),x + 1,⟨⟨by omega,.inl (by omega)⟩,by rw [mul_step];have:=hy.2;omega⟩,⟨rfl,by rw [mul_step,hy2],rowF_len _ _ _ _ hy.1,rowsF_succ (tg l m) m x y h0 hlt hy.1 hy1⟩,by omega⟩
 ·have hx2:x=m:=by rcases hx.1 with ⟨x0,x1⟩;omega
  have htab:tabOk m l=true:=by
   unfold tabOk
   rw [decide_eq_true_eq]
   have:=hx.2
   rw [hx2] at this;exact this
  refine ⟨htab,rowsF_len _ _ _ hx.1,rowsF_end _ _ _ hx.1 hge,?_⟩
  rw [hx2]
theorem KS7:KSound Tryz.prog G0 K7:=kOr_ok (memK_ok fun (_,m,_) xs=>(t_table m xs).1) KS6
theorem KP7_ok:KPSound Tryz.prog G0 KP7:=pOr_ok (memP_ok fun (_,m,_) xs=>(t_table m xs).2) KP6_ok
theorem numsOk_drop {l:List Int} (h:numsOk l) (k:Int):numsOk (dropI l k) :=
 ⟨inSeal_iff.2 fun x hx=>inSeal_iff.1 h.1 x (List.mem_of_mem_drop hx),by show (dropI l k).length≤_;rw [drop_len];have:l.length≤2000000000000000:=h.2;omega⟩
theorem t_plan (l:List Int):SoundC Tryz.prog G0 61 [.ptr 1 1 0 0] [(1,.var [.dat R l])] ⟨numsOk l∧plOk l=true,.agg [.dat I (planF l).1,.dat I (planF l).2.1,.dat M (planF l).2.2.1,.dat (.sl M) (planF l).2.2.2],[(1,.var [.dat R (plRest l)])]⟩ ∧
  SoundP Tryz.prog G0 61 [.ptr 1 1 0 0] [(1,.var [.dat R l])] ⟨numsOk l,plOk l,errV 39 190⟩:=by
 refine sound_of_evM (c:=c7) KS7 KI0s hm KP7_ok (vc_plan l ⟨rfl,fun hp=>?_⟩)
 have hl:l.length≤2000000000000000:=hp.2
 have t1:tl l=dropI l 1:=rfl
 have t2:tl (tl l)=dropI l 2:=by rw [t1,tl_drop (by decide)];rfl
 have t3:tl (tl (tl l))=dropI l 3:=by rw [t2,tl_drop (by decide)];rfl
 have t4:tl (tl (tl (tl l)))=dropI l 4:=by rw [t3,tl_drop (by decide)];rfl
 have h0:hd l=at0 l 0:=rfl
 have h1:hd (tl l)=at0 l 1:=by rw [t1,hd_drop];rfl
 have h2:hd (tl (tl l))=at0 l 2:=by rw [t2,hd_drop];rfl
 have h3:hd (tl (tl (tl l)))=at0 l 3:=by rw [t3,hd_drop];rfl
 have o0:hasOne l=decide (0 < l.length):=rfl
 have o1:hasOne (tl l)=decide (1 < l.length):=by rw [t1,one_drop (by decide),decide_eq_decide];omega
 have o2:hasOne (tl (tl l))=decide (2 < l.length):=by rw [t2,one_drop (by decide),decide_eq_decide];omega
 have o3:hasOne (tl (tl (tl l)))=decide (3 < l.length):=by rw [t3,one_drop (by decide),decide_eq_decide];omega
 have bd:∀ k:Nat,0≤at0 l k∧at0 l k≤65519:=fun k=>by
  unfold at0
  by_cases hk:k < l.length
  ·exact inSeal_iff.1 hp.1 _ (getD_mem hk)
  ·rw [List.getD_eq_getElem?_getD,List.getElem?_eq_none (by omega)];exact ⟨by decide,by decide⟩
 obtain ⟨a0,a1⟩:=bd 0
 obtain ⟨b0,b1⟩:=bd 1
 obtain ⟨m0,m1⟩:=bd 2
 obtain ⟨q0,q1⟩:=bd 3
 have epl:plOk l=(decide (4≤l.length) && plHead l && decide (4 + at0 l 2 * at0 l 2 + at0 l 3 * (at0 l 2 * at0 l 2)≤l.length)):=rfl
 have ehd:plHead l=decide (at0 l 2≤12∧at0 l 3≤4∧at0 l 0 < at0 l 1∧at0 l 1≤at0 l 0 + 60∧at0 l 1≤600):=rfl
 have shrt:l.length < 4→plOk l=false:=fun h=>by rw [epl,decide_eq_false (by omega)];rfl
 have noHd:plHead l=false→plOk l=false:=fun h=>by rw [epl,h];simp
 have noLen:¬ 4 + at0 l 2 * at0 l 2 + at0 l 3 * (at0 l 2 * at0 l 2)≤l.length→plOk l=false:=fun h=>by rw [epl,decide_eq_false h];simp
 simp only [h0,h1,h2,h3,o0,o1,o2,o3,t4]
 have eq3:Int.ofNat (D.nat (at0 l 3))=at0 l 3:=Int.toNat_of_nonneg q0
 simp only [eq3]
 simp only [cnd_and,D.and,Bool.true_and,true_and,and_true,imp_self,implies_true,Bool.and_eq_true,Bool.and_eq_false_imp,forall_const,D.nil,D.lt,D.le,D.ile,D.ilt,D.nlt,D.sub,D.add,D.mul,D.nat,D.ofN,D.len,D.set,D.rep,decide_eq_true_eq,decide_eq_false_iff_not]
 obtain ⟨mm,hmm⟩:∃ mm,mm=at0 l 2 * at0 l 2:=⟨_,rfl⟩
 have mm0:0≤mm:=by rw [hmm];exact Int.mul_nonneg m0 m0
 have eK:∀ k,restK (at0 l 3) (at0 l 2) l k=dropI l (4 + mm + k * mm):=fun k=>by unfold restK;rw [hmm]
 have tabA:∀ k:Int,0≤k→(tabOk (at0 l 2) (dropI l k)=true↔mm≤((l.length - k.toNat:Nat):Int)):=fun k hk=>by
  unfold tabOk
  rw [decide_eq_true_eq,drop_len,hmm]
 have ePL:plOk l=true↔4≤l.length∧plHead l=true∧4 + mm + at0 l 3 * mm≤l.length:=by
  rw [epl,Bool.and_eq_true,Bool.and_eq_true,decide_eq_true_eq,decide_eq_true_eq,hmm,and_assoc]
 have tl_len:(tabsF (at0 l 3) (at0 l 2) (dropI l (4 + mm))).length=(at0 l 3).toNat:=by unfold tabsF;simp
 have tT_len:∀ {x:Int},upto x (at0 l 3)→(tabsTo (at0 l 3) (at0 l 2) (dropI l (4 + mm)) x).length=(at0 l 3).toNat:=fun {x} ⟨h1,h2⟩=>by
  unfold tabsTo
  rw [List.length_append,List.length_take,List.length_replicate,tl_len];omega
 simp only [eK,← hmm]
 refine ⟨fun h=>shrt (by omega),fun l0=>⟨l0,fun h=>shrt (by omega),fun l1=>⟨l1,fun h=>shrt (by omega),fun l2=>⟨l2,fun h=>shrt (by omega),fun l3=>⟨l3,fun h=>noHd ?_,fun hA=>⟨hA,fun h=>in_big (by omega),fun h=>noHd ?_,fun hB=>⟨hB,?_⟩⟩⟩⟩⟩⟩⟩
 ·rw [ehd,decide_eq_false_iff_not];intro g;exact h g.1 g.2.1
 ·rw [ehd,decide_eq_false_iff_not];intro g;exact h ⟨g.2.2.1,g.2.2.2.1⟩ g.2.2.2.2
 have hH:plHead l=true:=by rw [ehd,decide_eq_true_eq];exact ⟨hA.1,hA.2,hB.1.1,hB.1.2,hB.2⟩
 have tP:∀ k,tabP (at0 l 2) (dropI l k):=fun k=>⟨m0,hA.1,numsOk_drop hp k⟩
 have mono:∀ {k:Int},0≤k→k≤at0 l 3→k * mm≤at0 l 3 * mm:=fun h1 h2=>Int.mul_le_mul_of_nonneg_right h2 mm0
 have kmm:∀ {k:Int},0≤k→0≤k * mm:=fun h=>Int.mul_nonneg h mm0
 have bad:¬ (4 + mm + at0 l 3 * mm≤l.length)→plOk l=false:=fun h=>by
  cases e:plOk l with
  | false=>rfl
  | true=>exact absurd (ePL.1 e).2.2 h
 refine ⟨⟨tP 4,fun h=>bad ?_⟩,fun hT=>⟨⟨tP 4,hT⟩,q0,by omega,by omega,by simp,by simp,⟨0,⟨⟨Int.le_refl _,.inr rfl⟩,?_⟩,rfl,?_,?_⟩,fun x hx=>⟨fun hlt=>⟨tP _,fun hT2=>?_,fun hT2=>bad ?_⟩,fun hge=>?_⟩⟩⟩
 ·have:¬ mm≤((l.length - (4:Int).toNat:Nat):Int):=fun g=>by rw [(tabA 4 (by decide)).2 g] at h;cases h
  have:=kmm q0
  have e4:(4:Int).toNat=4:=rfl
  omega
 ·have:=(tabA 4 (by decide)).1 hT
  have e4:(4:Int).toNat=4:=rfl
  show (0 + 1) * (at0 l 2 * at0 l 2)≤(l.length:Int) - 4
  rw [← hmm]
  omega
 ·rw [drop_drop (by decide) mm0,Int.zero_mul,Int.add_zero]
 ·unfold tabsTo;simp
 ·have h0:=hx.1.1
  have hl2:=tT_len hx.1
  have h2':=hx.2
  rw [← hmm,mul_step] at h2'
  have hT3:=(tabA _ (by have:=kmm h0;omega)).1 hT2
  have:=kmm h0
  refine ⟨⟨tP _,hT2⟩,hl2,h0,by rw [hl2];omega,hl2,in_big (by omega),x + 1,⟨⟨by omega,.inl (by omega)⟩,?_⟩,⟨rfl,?_,?_⟩,by omega⟩
  ·rw [← hmm,mul_step,mul_step];omega
  ·rw [drop_drop (by omega) mm0];congr 1;rw [mul_step];omega
  ·have e:(x + 1).toNat=x.toNat + 1:=by omega
   have:=fill_set (tabsF (at0 l 3) (at0 l 2) (dropI l (4 + mm))) [] (tabF (at0 l 2) (dropI l (4 + mm + x * mm))) x.toNat (by
    unfold tabsF
    rw [List.getElem?_map,List.getElem?_range (by omega),Option.map_some,Int.toNat_of_nonneg h0,drop_drop (by omega) (by rw [← hmm];exact kmm h0),← hmm])
   rw [tl_len] at this
   unfold tabsTo;rw [e];exact this
 ·have h0:=hx.1.1
  have hx0:=kmm h0
  have hn:¬ mm≤((l.length - (4 + mm + x * mm).toNat:Nat):Int):=fun g=>by rw [(tabA _ (by omega)).2 g] at hT2;cases hT2
  have:=mono (k:=x + 1) (by omega) (by omega)
  rw [mul_step] at this
  omega
 ·have hxe:x=at0 l 3:=by rcases hx.1 with ⟨h1,h2⟩;omega
  subst hxe
  have h2':=hx.2
  rw [← hmm,mul_step] at h2'
  refine ⟨tT_len hx.1,ePL.2 ⟨by omega,hH,by omega⟩,rfl,rfl,rfl,tT_len hx.1,?_,?_⟩
  ·unfold tabsTo
   rw [List.take_of_length_le (by rw [tl_len];exact Nat.le_refl _),Nat.sub_self]
   show _ ++ []=_
   rw [List.append_nil,hmm];rfl
  ·rw [hmm];rfl
theorem KS8:KSound Tryz.prog G0 K8:=kOr_ok (memK_ok fun _ xs=>(t_plan xs).1) KS7
theorem KP8_ok:KPSound Tryz.prog G0 KP8:=pOr_ok (memP_ok fun _ xs=>(t_plan xs).2) KP7_ok
end Go.Eng.In
