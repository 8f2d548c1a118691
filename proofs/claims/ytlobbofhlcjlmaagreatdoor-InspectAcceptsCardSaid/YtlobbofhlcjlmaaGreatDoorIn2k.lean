/- PeInS, PeIn2k -/
import Derived.Test.YtlobbofhlcjlmaaGreatDoorH22
import Derived.Test.YtlobbofhlcjlmaaGreatDoorIn1k
set_option linter.unusedSimpArgs false
set_option linter.unusedVariables false
/- PeInS: the seal of numbers, plain: one number changed changes it -/
namespace Go.Eng.In
def aNh (st:Int×Int) (x:Int):Int×Int:=(st.1 * 3 % 65521,(st.2 + x * (st.1 * 3 % 65521)) % 65521)
def aId (st:Int×Int) (l:List Int):Int×Int:=l.foldl aNh st
def zX (l:List Int):Int:=(aId (1,0) l).2
theorem aEt (st:Int×Int) (x:Int) (l:List Int):aId st (x :: l)=aId (aNh st x) l:=rfl
theorem aNi (st:Int×Int) (a b:List Int):aId st (a ++ b)=aId (aId st a) b:=by
 unfold aId;exact List.foldl_append
def aVi (st:Int×Int):Prop:=(0≤st.1∧st.1 < 65521)∧(0≤st.2∧st.2 < 65521)
theorem aNg (st:Int×Int) (x:Int):aVi (aNh st x) :=
 ⟨⟨Int.emod_nonneg _ (by decide),Int.emod_lt_of_pos _ (by decide)⟩,⟨Int.emod_nonneg _ (by decide),Int.emod_lt_of_pos _ (by decide)⟩⟩
theorem aFZ:∀ (l:List Int) {st:Int×Int},aVi st→aVi (aId st l)
 | [],_,h=>h
 | x :: l,st,_=>aFZ l (aNg st x)
def inv (p:Int):Prop:=∃ q:Int,p * q % 65521=1
theorem aNT {p:Int} (h:inv p):inv (p * 3 % 65521):=by
 obtain ⟨q,hq⟩:=h
 refine ⟨q * 43681,?_⟩
 rw [Int.mul_emod,Int.emod_emod_of_dvd _ (Int.dvd_refl _),← Int.mul_emod]
 have e:p * 3 * (q * 43681)=p * q * 131043:=by
  rw [Int.mul_assoc,Int.mul_left_comm 3 q 43681,← Int.mul_assoc];rfl
 rw [e,Int.mul_emod,hq];rfl
theorem aQ3:∀ (l:List Int) {st:Int×Int},inv st.1→inv (aId st l).1
 | [],_,h=>h
 | _ :: l,_,h=>aQ3 l (aNT h)
theorem aQA:∀ (l:List Int) {p s t:Int},0≤s→s < 65521→0≤t→t < 65521→s≠t→(aId (p,s) l).2≠(aId (p,t) l).2
 | [],_,_,_,_,_,_,_,h=>h
 | x :: l,p,s,t,s0,s1,t0,t1,h=>by
  rw [aEt,aEt]
  have e:∀ y:Int,aNh (p,y) x=(p * 3 % 65521,(y + x * (p * 3 % 65521)) % 65521):=fun _=>rfl
  rw [e,e]
  generalize x * (p * 3 % 65521)=z
  exact aQA l (Int.emod_nonneg _ (by decide)) (Int.emod_lt_of_pos _ (by decide)) (Int.emod_nonneg _ (by decide)) (Int.emod_lt_of_pos _ (by decide)) (by omega)
theorem aH9 (l:List Int):0≤zX l∧zX l < 65521:=(aFZ l (st:=(1,0)) ⟨⟨by decide,by decide⟩,⟨by decide,by decide⟩⟩).2
end Go.Eng.In

set_option maxRecDepth 100000
noncomputable section
namespace Go.Eng.In
open Go.Proofs
abbrev Ce:Ty:=.pair R I
abbrev Pl:Ty:=.pair I (.pair I (.pair M (.sl M)))
abbrev Plan:=Int×Int×List (List Int)×List (List (List Int))
def xJ (l:List Int):Prop:=l.length≤2000000000000000
def qA (l:List Int):Prop:=l.length≤9223372036854775807
def sP (l:List Int) (k:Int):Int:=(aId (1,0) (l.take k.toNat)).1
def sS (l:List Int) (k:Int):Int:=(aId (1,0) (l.take k.toNat)).2
def rl (l:List Int):List Int:=l.map fun x=>x % 65521
def bZ (l:List Int):Int:=zX (rl l)
def nK (l:List Int):Bool:=l.all fun x=>btw x 0 65519
def fP (l:List Int) (s:Int):Bool:=nK l && decide (s=zX l)
def aQ4 (l:List Int) (k:Int):Prop:=0≤k∧k≤l.length∧nK (l.take k.toNat)=true
def aNW (l:List Int) (k:Int):Prop:=0≤k∧k≤l.length
def mP (g:Int→Int→Int) (n:Int):List (List Int):=(List.range n.toNat).map fun i:Nat=>(List.range n.toNat).map fun j:Nat=>g i j
def wV (g:Int→Int→Int) (n i:Int):List (List Int):=(mP g n).take i.toNat ++ List.replicate (n.toNat - i.toNat) []
def aF0 (g:Int→Int→Int) (n i j:Int):List Int:=((List.range n.toNat).map fun j:Nat=>g i j).take j.toNat ++ List.replicate (n.toNat - j.toNat) 0
def upto (k n:Int):Prop:=0≤k∧(k≤n∨k=0)
def tg (l:List Int) (m i j:Int):Int:=l.getD (i * m + j).toNat 0 - 1
def nX (m:Int) (l:List Int):List (List Int):=mP (tg l m) m
def dG (l:List Int) (k:Int):List Int:=l.drop k.toNat
def wG (m:Int) (l:List Int):Bool:=decide (m * m≤l.length)
def iR (l:List Int):Prop:=nK l=true∧xJ l
def aJJ (m:Int) (l:List Int):Prop:=0≤m∧m≤12∧iR l
def aMP (m:Int) (l:List Int) (k:Int):Prop:=upto k m∧k * m≤l.length
def aG2 (m:Int) (l:List Int) (i k:Int):Prop:=upto k m∧i * m + k≤l.length
def aAu (q m:Int) (l:List Int):List (List (List Int)):=(List.range q.toNat).map fun k:Nat=>nX m (dG l ((k:Int) * (m * m)))
def wF (q m:Int) (l:List Int) (k:Int):List (List (List Int)):=(aAu q m l).take k.toNat ++ List.replicate (q.toNat - k.toNat) []
def aT4 (q m:Int) (l:List Int) (k:Int):Prop:=upto k q∧(k + 1) * (m * m)≤l.length - 4
def aAe (l:List Int):Bool:=decide (l.getD 2 0≤12∧l.getD 3 0≤4∧l.getD 0 0 < l.getD 1 0∧l.getD 1 0≤l.getD 0 0 + 60∧l.getD 1 0≤600)
def uD (l:List Int):Bool:=decide (4≤l.length) && aAe l && decide (4 + l.getD 2 0 * l.getD 2 0 + l.getD 3 0 * (l.getD 2 0 * l.getD 2 0)≤l.length)
def aI (l:List Int):Plan:=(l.getD 0 0,l.getD 1 0,nX (l.getD 2 0) (dG l 4),aAu (l.getD 3 0) (l.getD 2 0) (dG l (4 + l.getD 2 0 * l.getD 2 0)))
def dP (l:List Int):List Int:=dG l (4 + l.getD 2 0 * l.getD 2 0 + l.getD 3 0 * (l.getD 2 0 * l.getD 2 0))
def at0 (l:List Int) (k:Nat):Int:=l.getD k 0
def aIi (q m:Int) (l:List Int) (k:Int):List Int:=dG l (4 + m * m + k * (m * m))
def aWf (l:List Int):Ann:=⟨fun id s=>match id with
 | 3=>some { α:=Int,inv:=fun k=>aQ4 l k,st:=fun k=>put (jK s) [(10,.dat I k),(3,.dat I (sP l k)),(4,.dat I (sS l k))],μ:=fun k=>D.nat (D.sub (D.ilen l) k) }
 | _=>none,fun _ _=>none,fun _ _=>none⟩
def aRW (l:List Int):Ann:=⟨fun id s=>match id with
 | 3=>some { α:=Int,inv:=fun k=>aNW l k,st:=fun k=>put (jK s) [(9,.dat I k),(3,.dat I (sP (rl l) k)),(4,.dat I (sS (rl l) k))],μ:=fun k=>D.nat (D.sub (D.ilen l) k) }
 | _=>none,fun _ _=>none,fun _ _=>none⟩
theorem aFP (s:Int) (l:List Int) (hvc :
 let c1:=(l,s);true=true∧(xJ l→(∃ x,aQ4 l x∧l=l∧s=s∧c1=c1∧(1:Int)=sP l x∧(0:Int)=sS l x∧c1=c1∧l=l∧D.ilen l =
 D.ilen l∧(0:Int)=x∧True)∧∀ (x:Int),
 let c2:=D.lt x (D.ilen l);
 let c3:=D.get l (D.nat x) (0:Int);
 let c4:=D.not (btw c3 (0:Int) (65519:Int));
 let c5:=D.mul (sP l x) (3:Int);
 let c6:=D.rem c5 (65521:Int);
 let c7:=D.mul c3 c6;
 let c8:=D.add (sS l x) c7;
 let c9:=D.add x (1:Int);aQ4 l x→(c2=true→D.ile (0:Int) x∧D.ilt x (D.ilen l)∧True∧(c4=true→false=fP l s∧True)∧(c4=false →
 inR IntKind.i64 c5∧D.ine (65521:Int) (0:Int)∧inR IntKind.i64 c7∧inR IntKind.i64 c8∧D.ine (65521:Int) (0:Int)∧inR IntKind.i64 c9∧∃ y,aQ4 l
 y∧(l=l∧s=s∧c1=c1∧c6=sP l y∧D.rem c8 (65521:Int)=sS l y∧c1=c1∧l=l∧D.ilen l=D.ilen l∧c9=y∧True)∧D.nlt (D.nat (D.sub
 (D.ilen l) y)) (D.nat (D.sub (D.ilen l) x))))∧(c2=false→D.eq s (sS l x)=fP l s∧True))) :
  evF (mkc aOB) (aWf l) 60 [.agg [.dat R l,.dat I s]] [] ⟨xJ l,.dat .bool (fP l s),[]⟩:=@of_eq _ _ (by kernel_rfl) hvc
theorem aL6 (l:List Int) (hvc :
 true=true∧(qA l→(∃ x,aNW l x∧l=l∧(0:Int)=(0:Int)∧(1:Int)=sP (rl l) x∧(0:Int)=sS (rl l) x∧l=l∧D.ilen l=D.ilen
 l∧(0:Int)=x∧True)∧∀ (x:Int),
 let c1:=D.lt x (D.ilen l);
 let c2:=D.mul (sP (rl l) x) (3:Int);
 let c3:=D.add (D.rem (D.get l (D.nat x) (0:Int)) (65521:Int)) (65521:Int);
 let c4:=D.rem c2 (65521:Int);
 let c5:=D.mul (D.rem c3 (65521:Int)) c4;
 let c6:=D.add (sS (rl l) x) c5;
 let c7:=D.add x (1:Int);aNW l x→(c1=true→D.ile (0:Int) x∧D.ilt x (D.ilen l)∧inR IntKind.i64 c2∧D.ine (65521:Int) (0:Int)∧D.ine (65521
 : Int) (0:Int)∧inR IntKind.i64 c3∧D.ine (65521:Int) (0:Int)∧inR IntKind.i64 c5∧inR IntKind.i64 c6∧D.ine (65521:Int) (0:Int)∧inR
 IntKind.i64 c7∧∃ y,aNW l y∧(l=l∧(0:Int)=(0:Int)∧c4=sP (rl l) y∧D.rem c6 (65521:Int)=sS (rl l) y∧l=l∧D.ilen l=D.ilen l∧c7 =
 y∧True)∧D.nlt (D.nat (D.sub (D.ilen l) y)) (D.nat (D.sub (D.ilen l) x)))∧(c1=false→sS (rl l) x=bZ l∧True))) :
  evF (mkc aOB) (aRW l) 19 [.dat R l] [] ⟨qA l,.dat I (bZ l),[]⟩:=@of_eq _ _ (by kernel_rfl) hvc
def aV8:Kt:=kOr 60 (bD [.row Ce] (fun (c,_)=>xJ c.1) fun (c,_)=>.dat .bool (fP c.1 c.2)) <|
 kOr 19 (bD [.val R] (fun (l,_)=>qA l) fun (l,_)=>.dat I (bZ l)) <|
 aOB
def aVQ:Kt :=
 kOr 98 (aO2 1 R [.mp 1] (fun _ xs=>True∧bW xs=true) (fun _ xs=>.dat I (hd xs)) fun _ xs=>tl xs) aV8
def KP6:KPt:=pOr 98 (aQR 1 R [.mp 1] fun _ xs=>⟨True,bW xs,iK 39 190⟩) KPr
def c6:Cfg:=aIv aVQ (fun _=>false) KP6 (fun f=>f == 25 || f == 98)
def aSH (m:Int) (l:List Int):Ann:=⟨fun id s=>match id with
 | 3=>some { α:=Int,inv:=fun k=>aMP m l k,st:=fun k=>aAd (aAd (put (jK s) [(12,.dat I k),(5,.buf 2 (D.nat m))]) 2 (.buf 30 R (wV (tg l m) m k) [])) 1 (.var [.dat R (dG l (D.mul k m))]),μ:=fun k=>D.nat (D.sub m k) }
 | 7=>match s.sig.T 6,s.sig.T 23 with
  | .dat (.int .i64) i,.buf nm _=>some { α:=Int,inv:=fun k=>aG2 m l i k,st:=fun k=>aAd (aAd (put (jK s) [(25,.dat I k)]) nm (.buf 3 I (aF0 (tg l m) m i k) [])) 1 (.var [.dat R (dG l (D.add (D.mul i m) k))]),μ:=fun k=>D.nat (D.sub m k) }
  | _,_=>none
 | _=>none,fun _ _=>none,fun _ _=>none⟩
theorem aMi (m:Int) (l:List Int) (hvc :
 let c1:=D.rep m (D.nil Int);
 let c2:=D.rep m (0:Int);
 let c3:=chainOf (Value.iface (39) (Value.int IntKind.i64 (190:Int)));true=true∧(aJJ m l→1=1∧D.ile (0:Int) m∧D.ile (D.mul (D.ofN (24)) m)
 (281474976710656:Int)∧D.ile m (9223372036854775807:Int)∧D.len c1=D.nat m∧(∃ x,aMP m l x∧1=1∧0=0∧0=0∧m=m∧Value.slice none (0)
 (0)=Value.slice none (0) (0)∧D.nat m=D.nat m∧m=m∧D.nat m=D.nat m∧D.nat m=D.nat m∧Int.ofNat (D.nat m)=Int.ofNat (D.nat m)∧(0:Int)=x
 ∧ l=dG l (D.mul x m)∧c1=wV (tg l m) m x∧1=1∧True)∧∀ (x:Int),
 let c4:=D.lt x (Int.ofNat (D.nat m));
 let c5:=wV (tg l m) m x;
 let c6:=D.len c5;
 let c7:=dG l (D.mul x m);
 let c8:=D.add x (1:Int);aMP m l x→(c4=true→D.ile (0:Int) m∧D.ile (D.mul (D.ofN (8)) m) (281474976710656:Int)∧D.ile m (9223372036854775807 :
 Int)∧c6=D.nat m∧D.ile (0:Int) x∧D.ilt x (D.ofN c6)∧c6=D.nat m∧D.len c2=D.nat m∧c6=D.nat m∧D.ile (0:Int) x∧D.ilt x (D.ofN c6)∧c6 =
 D.nat m∧D.nat x=D.nat x∧D.len c2=D.nat m∧(∃ x_3,aG2 m l x x_3∧1=1∧0=0∧0=0∧m=m∧Value.slice none (0) (0)=Value.slice none (0)
 (0)∧D.nat m=D.nat m∧x=x∧m=m∧D.nat m=D.nat m∧D.nat m=D.nat m∧Int.ofNat (D.nat m)=Int.ofNat (D.nat m)∧x=x∧c4=c4∧x=x∧D.nat m
 = D.nat m∧x=x∧m=m∧D.nat m=D.nat m∧D.nat m=D.nat m∧D.nat x=D.nat x∧0=0∧D.nat m=D.nat m∧x=x∧D.nat m=D.nat m∧D.nat x=D.nat
 x∧0=0∧D.nat m=D.nat m∧Int.ofNat (D.nat m)=Int.ofNat (D.nat m)∧(0:Int)=x_3∧c7=dG l (D.add (D.mul x m) x_3)∧c5=c5∧D.nat x=D.nat
 x∧D.nat m=D.nat m∧c2=aF0 (tg l m) m x x_3∧1=1∧True)∧∀ (x_3:Int),
 let c9:=D.lt x_3 (Int.ofNat (D.nat m));
 let c10:=dG l (D.add (D.mul x m) x_3);
 let c11:=bW c10;
 let c12:=D.sub (hd c10) (1:Int);
 let c13:=aF0 (tg l m) m x x_3;
 let c14:=D.len c13;
 let c15:=D.add x_3 (1:Int);aG2 m l x x_3→(c9=true→c6=D.nat m∧D.ile (0:Int) x∧D.ilt x (D.ofN c6)∧c6=D.nat m∧D.nat x=D.nat x∧True
 ∧ (c11=true→c6=D.nat m∧D.ile (0:Int) x∧D.ilt x (D.ofN c6)∧c6=D.nat m∧D.nat x=D.nat x∧(True∧c11=true)∧1=1∧inR IntKind.i64 c12 ∧
 c14=D.nat m∧D.ile (0:Int) x_3∧D.ilt x_3 (D.ofN c14)∧c14=D.nat m∧inR IntKind.i64 c15∧∃ y,aG2 m l x y∧(1=1∧0=0∧0=0∧m=m ∧
 Value.slice none (0) (0)=Value.slice none (0) (0)∧D.nat m=D.nat m∧x=x∧m=m∧D.nat m=D.nat m∧D.nat m=D.nat m∧Int.ofNat (D.nat m) =
 Int.ofNat (D.nat m)∧x=x∧c4=c4∧x=x∧D.nat m=D.nat m∧x=x∧m=m∧D.nat m=D.nat m∧D.nat m=D.nat m∧D.nat x=D.nat x∧0=0∧D.nat m
 = D.nat m∧x=x∧D.nat m=D.nat m∧D.nat x=D.nat x∧0=0∧D.nat m=D.nat m∧Int.ofNat (D.nat m)=Int.ofNat (D.nat m)∧c15=y∧tl c10=dG l
 (D.add (D.mul x m) y)∧c5=c5∧D.nat x=D.nat x∧D.nat m=D.nat m∧D.set c13 (D.nat x_3) c12=aF0 (tg l m) m x y∧1=1∧True)∧D.nlt (D.nat (D.sub
 m y)) (D.nat (D.sub m x_3)))∧(c11=false→wG m l=false∧true=true∧c3=c3))∧(c9=false→inR IntKind.i64 c8∧∃ y,aMP m l y∧(1=1∧0 =
 0∧0=0∧m=m∧Value.slice none (0) (0)=Value.slice none (0) (0)∧D.nat m=D.nat m∧m=m∧D.nat m=D.nat m∧D.nat m=D.nat m∧Int.ofNat (D.nat
 m)=Int.ofNat (D.nat m)∧c8=y∧c10=dG l (D.mul y m)∧c14=D.nat m∧D.set c5 (D.nat x) c13=wV (tg l m) m y∧1=1∧True)∧D.nlt (D.nat
 (D.sub m y)) (D.nat (D.sub m x))))∧(c4=false→wG m l=true∧c6=D.nat m∧c5=nX m l∧c7=dG l (D.mul m m)∧1=1∧True))) :
  evM c6 (aSH m l) 99 [.ptr 1 1 0 0,.dat I m] [(1,.var [.dat R l])] (.dat M (nX m l)) [(1,.var [.dat R (dG l (D.mul m m))])] ⟨aJJ m l,wG m l,iK 39 190⟩:=@of_eq _ _ (by kernel_rfl) hvc
def aVP:Kt:=kOr 99 (aO2 1 R [.mp 1,.val I] (fun (_,m,_) xs=>aJJ m xs∧wG m xs=true) (fun (_,m,_) xs=>.dat M (nX m xs)) fun (_,m,_) xs=>dG xs (D.mul m m)) aVQ
def KP7:KPt:=pOr 99 (aQR 1 R [.mp 1,.val I] fun (_,m,_) xs=>⟨aJJ m xs,wG m xs,iK 39 190⟩) KP6
def c7:Cfg:=aIv aVP (fun _=>false) KP7 (fun f=>f == 25 || f == 98 || f == 99)
def aVh (l:List Int):Ann:=⟨fun id s=>match id with
 | 9=>some { α:=Int,inv:=fun k=>aT4 (at0 l 3) (at0 l 2) l k,st:=fun k=>aAd (aAd (put (jK s) [(53,.dat I k)]) 4 (.buf 41 M (wF (at0 l 3) (at0 l 2) (dG l (D.add 4 (D.mul (at0 l 2) (at0 l 2)))) k) [])) 1 (.var [.dat R (aIi (at0 l 3) (at0 l 2) l k)]),μ:=fun k=>D.nat (D.sub (at0 l 3) k) }
 | _=>none,fun _ _=>none,fun _ _=>none⟩
theorem aPB (l:List Int) (hvc :
 let c1:=chainOf (Value.iface (39) (Value.int IntKind.i64 (190:Int)));
 let c2:=bW (tl (tl (tl l)));
 let c3:=D.le (hd (tl (tl l))) (12:Int);
 let c4:=hd (tl (tl (tl l)));
 let c5:=D.cnd c3 (D.le c4 (4:Int)) false;
 let c6:=D.lt (hd l) (hd (tl l));
 let c7:=D.add (hd l) (60:Int);
 let c8:=D.cnd c6 (D.le (hd (tl l)) c7) false;
 let c9:=D.cnd c8 (D.le (hd (tl l)) (600:Int)) false;
 let c10:=tl (tl (tl (tl l)));
 let c11:=wG (hd (tl (tl l))) c10;
 let c12:=D.rep c4 (D.nil (List Int));
 let c13:=D.nat c4;
 let c14:=nX (hd (tl (tl l))) c10;
 let c15:=Int.ofNat c13;
 let c16:=D.mul (hd (tl (tl l))) (hd (tl (tl l)));
 let c17:=dG l (D.add (4:Int) (D.mul (at0 l (2)) (at0 l (2))));
 let c18:=(aI l).snd;
 let c19:=c18.snd;true=true∧(iR l→1=1∧(true=true→True∧(bW l=false→uD l=false∧true=true∧c1=c1))∧((true=true →
 bW l=true)→(True∧bW l=true)∧1=1∧(true=true→True∧(bW (tl l)=false→uD l=false∧true=true∧c1=c1))∧((true=true →
 bW (tl l)=true)→(True∧bW (tl l)=true)∧1=1∧1=1∧1=1∧0=0∧1=1∧1=1∧0=0∧(true=true→True∧(bW (tl (tl l)) =
 false→uD l=false∧true=true∧c1=c1))∧((true=true→bW (tl (tl l))=true)→(True∧bW (tl (tl l))=true)∧1=1∧(true=true →
 True∧(c2=false→uD l=false∧true=true∧c1=c1))∧((true=true→c2=true)→(True∧c2=true)∧1=1∧(c3=true→c3=true→c3=true) ∧
 (D.and true c3=true→c3=true)∧(true=true→True∧(c5=false→uD l=false∧true=true∧c1=c1))∧((true=true→c5=true)→(True∧c5 =
 true)∧1=1∧1=1∧0=0∧1=1∧1=1∧0=0∧(c6=true→1=1)∧(c6=true→c6=true→c6=true)∧(c6=true→1=1)∧(c6=true→0=0) ∧
 (c6=true→1=1)∧(c6=true→c6=true→c6=true)∧(c6=true→1=1)∧(c6=true→0=0)∧(c6=true→c6=true→c6=true)∧(c6=true→inR
 IntKind.i64 c7)∧(c6=true→c6=true→c6=true)∧(c6=true→c6=true→c6=true)∧(D.and true c6=true→c6=true)∧(c8=true→1=1)∧(c8 =
 true→c8=true→c8=true)∧(c8=true→1=1)∧(c8=true→0=0)∧(c8=true→c8=true→c8=true)∧(D.and true c8=true→c8=true)∧(true =
 true→True∧(c9=false→uD l=false∧true=true∧c1=c1))∧((true=true→c9=true)→(True∧c9=true)∧(true=true→aJJ (hd (tl (tl l)))
 c10∧(c11=false→uD l=false∧true=true∧c1=c1))∧((true=true→c11=true)→(aJJ (hd (tl (tl l))) c10∧c11=true)∧1=1∧1=1∧1=1
 ∧ 0=0∧D.ile (0:Int) c4∧D.ile (D.mul (D.ofN (24)) c4) (281474976710656:Int)∧D.ile c4 (9223372036854775807:Int)∧1=1∧1=1∧0=0∧D.len c12
 = c13∧1=1∧1=1∧0=0∧D.len c12=c13∧(∃ x,aT4 (at0 l (3)) (at0 l (2)) l x∧1=1∧0=0∧0=0∧1=1∧0=0∧0=0∧1=1∧0=0∧0 =
 0∧hd (tl (tl l))=hd (tl (tl l))∧c4=c4∧1=1∧0=0∧0=0∧hd l=hd l∧1=1∧0=0∧0=0∧hd (tl l)=hd (tl l)∧1=1∧0=0∧0=0∧1
 = 1∧0=0∧1=1∧1=1∧0=0∧0=0∧hd (tl (tl l))=hd (tl (tl l))∧1=1∧0=0∧0=0∧c4=c4∧hd (tl (tl l))=hd (tl (tl l))∧c3=c3 ∧
 c3=c3∧c5=c5∧1=1∧0=0∧0=0∧hd l=hd l∧1=1∧0=0∧1=1∧hd (tl l)=hd (tl l)∧c6=c6∧c6=c6∧c8=c8∧c8=c8∧c9=c9∧1 =
 1∧0=0∧0=0∧hd (tl (tl l))=hd (tl (tl l))∧c14=c14∧1=1∧0=0∧2=2∧c4=c4∧c13=c13∧1=1∧0=0∧3=3∧1=1∧0=0∧3=3 ∧
 c13=c13∧c15=c15∧(0:Int)=x∧dG c10 c16=aIi (at0 l (3)) (at0 l (2)) l x∧(0:Int)=(0:Int)∧(0:Int)=(0:Int)∧Value.slice none
 (0) (0)=Value.slice none (0) (0)∧Value.slice none (0) (0)=Value.slice none (0) (0)∧hd l=hd l∧hd (tl l)=hd (tl l)∧c14=c14∧c13=c13∧c12 =
 wF (at0 l (3)) (at0 l (2)) c17 x∧1=1∧True)∧∀ (x:Int),
 let c20:=aIi (at0 l (3)) (at0 l (2)) l x;
 let c21:=wG (hd (tl (tl l))) c20;
 let c22:=wF (at0 l (3)) (at0 l (2)) c17 x;
 let c23:=D.len c22;
 let c24:=D.add x (1:Int);aT4 (at0 l (3)) (at0 l (2)) l x→(D.lt x c15=true→1=1∧1=1∧0=0∧aJJ (hd (tl (tl l))) c20∧(c21=true→1=1 ∧
 1=1∧0=0∧(aJJ (hd (tl (tl l))) c20∧c21=true)∧1=1∧c23=c13∧D.ile (0:Int) x∧D.ilt x (D.ofN c23)∧c23=c13∧inR IntKind.i64 c24∧∃ y,
 aT4 (at0 l (3)) (at0 l (2)) l y∧(1=1∧0=0∧0=0∧1=1∧0=0∧0=0∧1=1∧0=0∧0=0∧hd (tl (tl l))=hd (tl (tl l))∧c4=c4∧1=1 ∧
 0=0∧0=0∧hd l=hd l∧1=1∧0=0∧0=0∧hd (tl l)=hd (tl l)∧1=1∧0=0∧0=0∧1=1∧0=0∧1=1∧1=1∧0=0∧0=0∧hd (tl
 (tl l))=hd (tl (tl l))∧1=1∧0=0∧0=0∧c4=c4∧hd (tl (tl l))=hd (tl (tl l))∧c3=c3∧c3=c3∧c5=c5∧1=1∧0=0∧0=0∧hd l=hd
 l∧1=1∧0=0∧1=1∧hd (tl l)=hd (tl l)∧c6=c6∧c6=c6∧c8=c8∧c8=c8∧c9=c9∧1=1∧0=0∧0=0∧hd (tl (tl l))=hd (tl (tl l)) ∧
 c14=c14∧1=1∧0=0∧2=2∧c4=c4∧c13=c13∧1=1∧0=0∧3=3∧1=1∧0=0∧3=3∧c13=c13∧c15=c15∧c24=y∧dG c20 c16 =
 aIi (at0 l (3)) (at0 l (2)) l y∧(0:Int)=(0:Int)∧(0:Int)=(0:Int)∧Value.slice none (0) (0)=Value.slice none (0) (0)∧Value.slice none (0)
 (0)=Value.slice none (0) (0)∧hd l=hd l∧hd (tl l)=hd (tl l)∧c14=c14∧c13=c13∧D.set c22 (D.nat x) (nX (hd (tl (tl l))) c20)=wF (at0 l
 (3)) (at0 l (2)) c17 y∧1=1∧True)∧D.nlt (D.nat (D.sub (at0 l (3)) y)) (D.nat (D.sub (at0 l (3)) x)))∧(c21=false→uD l=false∧true=true∧c1
 = c1))∧(D.lt x c15=false→1=1∧0=0∧1=1∧0=0∧c23=c13∧uD l=true∧1=1∧0=0∧hd l=(aI l).fst∧hd (tl l)=c18.fst∧c14 =
 c19.fst∧c23=c13∧c22=c19.snd∧c20=dP l∧1=1∧True)))))))))) :
  evM c7 (aVh l) 61 [.ptr 1 1 0 0] [(1,.var [.dat R l])] (.agg [.dat I (aI l).1,.dat I (aI l).2.1,.dat M (aI l).2.2.1,.dat (.sl M) (aI l).2.2.2]) [(1,.var [.dat R (dP l)])] ⟨iR l,uD l,iK 39 190⟩:=@of_eq _ _ (by kernel_rfl) hvc
def aV7:Kt:=kOr 61 (aO2 1 R [.mp 1] (fun _ xs=>iR xs∧uD xs=true) (fun _ xs=>.agg [.dat I (aI xs).1,.dat I (aI xs).2.1,.dat M (aI xs).2.2.1,.dat (.sl M) (aI xs).2.2.2]) fun _ xs=>dP xs) aVP
def KP8:KPt:=pOr 61 (aQR 1 R [.mp 1] fun _ xs=>⟨iR xs,uD xs,iK 39 190⟩) KP7
theorem aJ9 (l:List Int):sP l 0=1:=rfl
theorem aJ8 (l:List Int):sS l 0=0:=rfl
theorem aEa {l:List Int} {x:Int} (h0:0≤x) (h1:x < l.length):l.take (x + 1).toNat=l.take x.toNat ++ [l.getD x.toNat 0]:=by
 rw [show (x + 1).toNat=x.toNat + 1 by omega,List.take_add_one,List.getD_eq_getElem?_getD,List.getElem?_eq_getElem (by omega:x.toNat < l.length)];rfl
theorem aHa {l:List Int} {x:Int} (h0:0≤x) (h1:x < l.length):sP l (x + 1)=sP l x * 3 % 65521∧sS l (x + 1)=(sS l x + l.getD x.toNat 0 * (sP l x * 3 % 65521)) % 65521:=by
 unfold sP sS
 rw [aEa h0 h1,aNi]
 exact ⟨rfl,rfl⟩
theorem aT0 (l:List Int) (x:Int):(0≤sP l x∧sP l x < 65521)∧0≤sS l x∧sS l x < 65521:=aFZ (l.take x.toNat) (st:=(1,0)) ⟨⟨by decide,by decide⟩,⟨by decide,by decide⟩⟩
theorem aTa {l:List Int} {x:Int} (h:(l.length:Int)≤x):sS l x=zX l:=by
 unfold sS zX
 rw [List.take_of_length_le (by omega)]
theorem aOU (l:List Int):(rl l).length=l.length:=by unfold rl;rw [List.length_map]
theorem aVf {l:List Int} {i:Nat} (h:i < l.length):(rl l).getD i 0=l.getD i 0 % 65521:=by
 unfold rl
 rw [List.getD_eq_getElem?_getD,List.getElem?_map,List.getD_eq_getElem?_getD,List.getElem?_eq_getElem h];rfl
theorem gK {l:List Int}:nK l=true↔∀ x ∈ l,0≤x∧x≤65519:=by
 unfold nK
 rw [List.all_eq_true]
 exact ⟨fun h x hx=>vY.1 (h x hx),fun h x hx=>vY.2 (h x hx)⟩
theorem aKR {l:List Int} {x:Int} (h:aQ4 l x) (h1:x < l.length) (h2:btw (l.getD x.toNat 0) 0 65519=true):aQ4 l (x + 1):=by
 obtain ⟨a,b,c⟩:=h
 refine ⟨by omega,by omega,?_⟩
 rw [aEa a h1]
 unfold nK at c ⊢
 rw [List.all_append,c]
 simpa using h2
theorem aNV {l:List Int} {x:Int} (h:aQ4 l x) (h1:¬ x < l.length):nK l=true:=by
 obtain ⟨a,b,c⟩:=h
 rwa [List.take_of_length_le (by omega)] at c
theorem aKS {l:List Int} {x:Int} (h0:0≤x) (h1:x < l.length) (h2:btw (l.getD x.toNat 0) 0 65519=false):nK l=false:=by
 cases e:nK l with
 | false=>rfl
 | true =>
  have:=vY.2 (gK.1 e _ (aW (l:=l) (i:=x.toNat) (d:=0) (by omega)))
  rw [this] at h2;cases h2
theorem aO1 {a b:Int} (a0:0≤a) (a1:a≤65521) (b0:0≤b) (b1:b≤65521):0≤a * b∧a * b≤65521 * 65521 :=
 ⟨Int.mul_nonneg a0 b0,Int.mul_le_mul a1 b1 b0 (by omega)⟩
theorem tme {a:Int} (h:0≤a):a.tmod 65521=a % 65521:=Int.tmod_eq_emod_of_nonneg h
theorem aH6 (s:Int) (l:List Int):aC Tryz.prog fC 60 [.agg [.dat R l,.dat I s]] [] ⟨xJ l,.dat .bool (fP l s),[]⟩:=by
 refine aA (c:=mkc aOB) aLH cO hm (aFP s l ⟨rfl,fun hl=>?_⟩)
 have hl:l.length≤2000000000000000:=hl
 refine ⟨⟨0,⟨Int.le_refl _,Int.natCast_nonneg _,rfl⟩,by simp [aJ9,aJ8]⟩,fun x=>?_⟩
 intro c2 c3 c4 c5 c6 c7 c8 c9 hx
 refine ⟨fun h2=>?_,fun h2=>?_⟩
 ·have h2:x < (l.length:Int):=of_decide_eq_true h2
  have h0:=hx.1
  obtain ⟨⟨p0,p1⟩,s0,s1⟩:=aT0 l x
  obtain ⟨n1,n2⟩:=aHa h0 h2
  refine ⟨h0,h2,trivial,fun h4=>⟨?_,trivial⟩,fun h4=>?_⟩
  ·have:btw (l.getD x.toNat 0) 0 65519=false:=by simpa [c4,c3,D.not,D.get,D.nat] using h4
   unfold fP;rw [aKS h0 h2 this];rfl
  ·have hb:btw (l.getD x.toNat 0) 0 65519=true:=by simpa [c4,c3,D.not,D.get,D.nat] using h4
   obtain ⟨b0,b1⟩:=vY.1 hb
   have e6:c6=sP l (x + 1):=by rw [n1];exact tme (by show 0≤sP l x * 3;omega)
   obtain ⟨⟨q0,q1⟩,_,_⟩:=aT0 l (x + 1)
   have e3:c3=l.getD x.toNat 0:=rfl
   have e7:c7=c3 * c6:=rfl
   have e8:c8=sS l x + c7:=rfl
   have e5:c5=sP l x * 3:=rfl
   have e9:c9=x + 1:=rfl
   clear_value c3 c5 c6 c7 c8 c9
   have hm:=aO1 (a:=c3) (b:=c6) (by omega) (by omega) (by omega) (by omega)
   refine ⟨aN (by omega),by decide,aN (by omega),aN (by omega),by decide,aN (by omega),x + 1,aKR hx h2 hb,⟨rfl,rfl,rfl,e6,?_,rfl,rfl,rfl,e9,trivial⟩,?_⟩
   ·rw [n2,← n1]
    show c8.tmod 65521=_
    rw [tme (by omega),e8,e7,e3,e6]
   ·simp only [D.nlt,D.nat,D.sub,D.ilen];omega
 ·have h2:¬ x < (l.length:Int):=of_decide_eq_false h2
  refine ⟨?_,trivial⟩
  unfold fP
  rw [aNV hx h2,aTa (by omega),Bool.true_and]
  show (s == _)=_
  rw [Bool.eq_iff_iff];simp
theorem aJK (l:List Int):aC Tryz.prog fC 19 [.dat R l] [] ⟨qA l,.dat I (bZ l),[]⟩:=by
 refine aA (c:=mkc aOB) aLH cO hm (aL6 l ⟨rfl,fun hl=>?_⟩)
 have hl:l.length≤9223372036854775807:=hl
 refine ⟨⟨0,⟨Int.le_refl _,Int.natCast_nonneg _⟩,by simp [aJ9,aJ8]⟩,fun x=>?_⟩
 intro c1 c2 c3 c4 c5 c6 c7 hx
 refine ⟨fun h2=>?_,fun h2=>?_⟩
 ·have h2:x < (l.length:Int):=of_decide_eq_true h2
  have h0:=hx.1
  obtain ⟨⟨p0,p1⟩,s0,s1⟩:=aT0 (rl l) x
  obtain ⟨n1,n2⟩:=aHa (l:=rl l) h0 (by rw [aOU];exact h2)
  rw [aVf (by omega)] at n2
  have e4:c4=sP (rl l) (x + 1):=by rw [n1];exact tme (by show 0≤sP (rl l) x * 3;omega)
  obtain ⟨⟨q0,q1⟩,_,_⟩:=aT0 (rl l) (x + 1)
  have em:D.rem c3 65521=l.getD x.toNat 0 % 65521:=aDm (by decide)
  have m0:=Int.emod_nonneg (l.getD x.toNat 0) (show (65521:Int)≠0 by decide)
  have m1:=Int.emod_lt_of_pos (l.getD x.toNat 0) (show (0:Int) < 65521 by decide)
  have e5:c5=D.rem c3 65521 * c4:=rfl
  have e6:c6=sS (rl l) x + c5:=rfl
  have e2:c2=sP (rl l) x * 3:=rfl
  have e7:c7=x + 1:=rfl
  have e3:c3=(l.getD x.toNat 0).tmod 65521 + 65521:=rfl
  have tb:-65521 < (l.getD x.toNat 0).tmod 65521∧(l.getD x.toNat 0).tmod 65521 < 65521:=by
   have:=Int.tmod_eq_emod (a:=l.getD x.toNat 0) (b:=65521)
   split at this <;> omega
  rw [em] at e5
  clear_value c2 c3 c4 c5 c6 c7
  have hm:=aO1 (a:=l.getD x.toNat 0 % 65521) (b:=c4) (by omega) (by omega) (by omega) (by omega)
  refine ⟨h0,h2,aN (by omega),by decide,by decide,aN (by omega),by decide,aN (by omega),aN (by omega),by decide,⟨show (-9223372036854775808:Int)≤_ by omega,show _≤(9223372036854775807:Int) by omega⟩,x + 1,⟨by omega,by omega⟩,⟨rfl,rfl,e4,?_,rfl,rfl,e7,trivial⟩,?_⟩
  ·rw [n2,← n1]
   show c6.tmod 65521=_
   rw [tme (by omega),e6,e5,e4]
  ·simp only [D.nlt,D.nat,D.sub,D.ilen];omega
 ·have h2:¬ x < (l.length:Int):=of_decide_eq_false h2
  exact ⟨aTa (by rw [aOU];omega),trivial⟩
theorem aVH:aQ Tryz.prog fC aV8:=aJ (aG fun ((l,s),_)=>aH6 s l) <| aJ (aG fun (l,_)=>aJK l) <|
 aLH
theorem aQa:∀ x xs,aC Tryz.prog fC 98 (avK [.mp 1] x) [(1,.var [.dat R xs])] ⟨True∧bW xs=true,.dat I (hd xs),[(1,.var [.dat R (tl xs)])]⟩:=fun _ xs=>(aFU xs).1
theorem aTM:aQ Tryz.prog fC aVQ :=
 aJ (yS aQa) aVH
theorem aLM:fB Tryz.prog fC KP6:=rW (aBv fun _ xs=>(aFU xs).2) aHU
theorem aDH {α:Type} (xs:List α) (d v:α) (k:Nat) (hk:xs[k]?=some v):(xs.take k ++ List.replicate (xs.length - k) d).set k v=xs.take (k + 1) ++ List.replicate (xs.length - (k + 1)) d:=by
 obtain ⟨h,e⟩:=List.getElem?_eq_some_iff.1 hk
 have e2:xs.length - k=(xs.length - (k + 1)) + 1:=by omega
 rw [e2,List.replicate_succ,List.set_append_right _ _ (by simp;omega)]
 simp [List.take_add_one,hk,Nat.min_eq_left (Nat.le_of_lt h)]
theorem qM (g:Int→Int→Int) (n:Int):(mP g n).length=n.toNat:=by simp [mP]
theorem aEw (g:Int→Int→Int) (n x:Int) (h:upto x n):(wV g n x).length=n.toNat:=by
 have:=h.1;have:=h.2
 simp only [wV,List.length_append,List.length_take,List.length_replicate,qM];omega
theorem aHd (g:Int→Int→Int) (n i x:Int) (h:upto x n):(aF0 g n i x).length=n.toNat:=by
 have:=h.1;have:=h.2
 simp only [aF0,List.length_append,List.length_take,List.length_replicate,List.length_map,List.length_range];omega
theorem aIf (g:Int→Int→Int) (n:Int):wV g n 0=List.replicate n.toNat []:=by simp [wV]
theorem aKk (g:Int→Int→Int) (n i:Int):aF0 g n i 0=List.replicate n.toNat 0:=by simp [aF0]
theorem aKl (g:Int→Int→Int) (n i j:Int) (h0:0≤j) (h1:j < n):(aF0 g n i j).set j.toNat (g i j)=aF0 g n i (j + 1):=by
 have e:(j + 1).toNat=j.toNat + 1:=by omega
 have:=aDH ((List.range n.toNat).map fun j:Nat=>g i j) 0 (g i j) j.toNat (by
  rw [List.getElem?_map,List.getElem?_range (by omega)];simp [Int.toNat_of_nonneg h0])
 simp only [List.length_map,List.length_range] at this
 unfold aF0;rw [e];exact this
theorem aNp (g:Int→Int→Int) (n i j:Int) (h:upto j n) (h1:¬ j < n):aF0 g n i j=(List.range n.toNat).map fun j:Nat=>g i j:=by
 have:=h.1;have:=h.2
 have e:j.toNat=n.toNat:=by omega
 unfold aF0
 rw [e,List.take_of_length_le (by simp)];simp
theorem aIg (g:Int→Int→Int) (n i j:Int) (h0:0≤i) (h1:i < n) (h:upto j n) (h2:¬ j < n):(wV g n i).set i.toNat (aF0 g n i j)=wV g n (i + 1):=by
 have e:(i + 1).toNat=i.toNat + 1:=by omega
 rw [aNp g n i j h h2]
 have:=aDH (mP g n) [] ((List.range n.toNat).map fun j:Nat=>g i j) i.toNat (by
  unfold mP
  rw [List.getElem?_map,List.getElem?_range (by omega)];simp [Int.toNat_of_nonneg h0])
 rw [qM] at this
 unfold wV;rw [e];exact this
theorem aKf (g:Int→Int→Int) (n i:Int) (h:upto i n) (h1:¬ i < n):wV g n i=mP g n:=by
 have:=h.1;have:=h.2
 have e:i.toNat=n.toNat:=by omega
 unfold wV
 rw [e,List.take_of_length_le (by rw [qM];exact Nat.le_refl _)];simp
theorem aC7 {l:List Int} {k:Int} (h:0≤k):tl (dG l k)=dG l (k + 1):=by
 unfold tl dG
 rw [List.drop_drop];congr 1;omega
theorem aBN (l:List Int) (k:Int):hd (dG l k)=l.getD k.toNat 0:=by
 unfold hd dG
 simp [List.getD_eq_getElem?_getD,List.getElem?_drop]
theorem aAH {l:List Int} {k:Int} (h:0≤k):bW (dG l k)=decide (k < l.length):=by
 unfold bW dG
 rw [List.length_drop,decide_eq_decide];omega
theorem drop_drop {l:List Int} {a b:Int} (ha:0≤a) (hb:0≤b):dG (dG l a) b=dG l (a + b):=by
 unfold dG
 rw [List.drop_drop];congr 1;omega
theorem aHH (l:List Int) (k:Int):(dG l k).length=l.length - k.toNat:=by unfold dG;rw [List.length_drop]
theorem lV (i m:Int):(i + 1) * m=i * m + m:=by rw [Int.add_mul,Int.one_mul]
theorem aJO (m:Int) (l:List Int):aC Tryz.prog fC 99 [.ptr 1 1 0 0,.dat I m] [(1,.var [.dat R l])] ⟨aJJ m l∧wG m l=true,.dat M (nX m l),[(1,.var [.dat R (dG l (D.mul m m))])]⟩ ∧
  jM Tryz.prog fC 99 [.ptr 1 1 0 0,.dat I m] [(1,.var [.dat R l])] ⟨aJJ m l,wG m l,iK 39 190⟩:=by
 refine fK (c:=c6) aTM cO hm aLM (aMi m l ⟨rfl,fun hp=>?_⟩)
 obtain ⟨m0,m1,⟨hin,hl⟩⟩:=hp
 have hl:l.length≤2000000000000000:=hl
 have em:(Int.ofNat (D.nat m))=m:=Int.toNat_of_nonneg m0
 have bd:∀ {k:Int},0≤k→k < l.length→0≤l.getD k.toNat 0∧l.getD k.toNat 0≤65519:=fun {k} h0 h1=>gK.1 hin _ (aW (by omega))
 simp only [em]
 simp only [true_and,and_true,D.nil,D.lt,D.ile,D.ilt,D.nlt,D.sub,D.add,D.mul,D.nat,D.ofN,D.len,D.set,D.rep,decide_eq_true_eq,decide_eq_false_iff_not]
 refine ⟨m0,by omega,by omega,by simp,⟨0,⟨⟨Int.le_refl _,.inr rfl⟩,by rw [Int.zero_mul];exact Int.natCast_nonneg _⟩,rfl,by rw [Int.zero_mul];rfl,(aIf _ _).symm⟩,fun x hx=>⟨fun hlt=>?_,fun hge=>?_⟩⟩
 ·have h0:=hx.1.1
  have hln:=aEw (tg l m) m x hx.1
  have xm0:0≤x * m:=Int.mul_nonneg h0 m0
  have top:(x + 1) * m≤m * m:=Int.mul_le_mul_of_nonneg_right (by omega) m0
  rw [lV] at top
  have em2:(m.toNat:Int)=m:=Int.toNat_of_nonneg m0
  have hlx:x < ((wV (tg l m) m x).length:Int):=by rw [hln];omega
  refine ⟨m0,by omega,by omega,hln,h0,hlx,hln,by simp,hln,h0,hlx,hln,by simp,⟨0,⟨⟨Int.le_refl _,.inr rfl⟩,by have:=hx.2;omega⟩,rfl,by rw [Int.add_zero],(aKk _ _ _).symm⟩,fun y hy=>⟨fun hy1=>?_,fun hy1=>?_⟩⟩
  ·have y0:=hy.1.1
   have hrl:=aHd (tg l m) m x y hy.1
   have hly:y < ((aF0 (tg l m) m x y).length:Int):=by rw [hrl];omega
   have eo:=aAH (l:=l) (k:=x * m + y) (by omega)
   refine ⟨hln,h0,hlx,hln,fun ho=>?_,fun ho=>?_⟩
   ·have hlt2:x * m + y < l.length:=by rw [eo] at ho;exact of_decide_eq_true ho
    obtain ⟨b0,b1⟩:=bd (k:=x * m + y) (by omega) hlt2
    have eh:hd (dG l (x * m + y)) - 1=tg l m x y:=by rw [aBN];rfl
    refine ⟨hln,h0,hlx,hln,ho,aN (by rw [aBN];omega),hrl,y0,hly,hrl,aN (by omega),y + 1,⟨⟨by omega,.inl (by omega)⟩,by omega⟩,⟨rfl,?_,?_⟩,by omega⟩
    ·rw [aC7 (by omega),Int.add_assoc]
    ·rw [eh];exact aKl (tg l m) m x y y0 hy1
   ·rw [eo,decide_eq_false_iff_not] at ho
    unfold wG
    rw [decide_eq_false_iff_not]
    omega
  ·have hy2:y=m:=by rcases hy.1 with ⟨y0,y1⟩;omega
   refine ⟨aN (by omega),x + 1,⟨⟨by omega,.inl (by omega)⟩,by rw [lV];have:=hy.2;omega⟩,⟨rfl,by rw [lV,hy2],aHd _ _ _ _ hy.1,aIg (tg l m) m x y h0 hlt hy.1 hy1⟩,by omega⟩
 ·have hx2:x=m:=by rcases hx.1 with ⟨x0,x1⟩;omega
  have htab:wG m l=true:=by
   unfold wG
   rw [decide_eq_true_eq]
   have:=hx.2
   rw [hx2] at this;exact this
  refine ⟨htab,aEw _ _ _ hx.1,aKf _ _ _ hx.1 hge,?_⟩
  rw [hx2]
theorem aTL:aQ Tryz.prog fC aVP:=aJ (yS fun (_,m,_) xs=>(aJO m xs).1) aTM
theorem aPn:fB Tryz.prog fC KP7:=rW (aBv fun (_,m,_) xs=>(aJO m xs).2) aLM
theorem jS {l:List Int} (h:iR l) (k:Int):iR (dG l k) :=
 ⟨gK.2 fun x hx=>gK.1 h.1 x (List.mem_of_mem_drop hx),by show (dG l k).length≤_;rw [aHH];have:l.length≤2000000000000000:=h.2;omega⟩
theorem aOK (l:List Int):aC Tryz.prog fC 61 [.ptr 1 1 0 0] [(1,.var [.dat R l])] ⟨iR l∧uD l=true,.agg [.dat I (aI l).1,.dat I (aI l).2.1,.dat M (aI l).2.2.1,.dat (.sl M) (aI l).2.2.2],[(1,.var [.dat R (dP l)])]⟩ ∧
  jM Tryz.prog fC 61 [.ptr 1 1 0 0] [(1,.var [.dat R l])] ⟨iR l,uD l,iK 39 190⟩:=by
 refine fK (c:=c7) aTL cO hm aPn (aPB l ⟨rfl,fun hp=>?_⟩)
 have hl:l.length≤2000000000000000:=hp.2
 have t1:tl l=dG l 1:=rfl
 have t2:tl (tl l)=dG l 2:=by rw [t1,aC7 (by decide)];rfl
 have t3:tl (tl (tl l))=dG l 3:=by rw [t2,aC7 (by decide)];rfl
 have t4:tl (tl (tl (tl l)))=dG l 4:=by rw [t3,aC7 (by decide)];rfl
 have h0:hd l=at0 l 0:=rfl
 have h1:hd (tl l)=at0 l 1:=by rw [t1,aBN];rfl
 have h2:hd (tl (tl l))=at0 l 2:=by rw [t2,aBN];rfl
 have h3:hd (tl (tl (tl l)))=at0 l 3:=by rw [t3,aBN];rfl
 have o0:bW l=decide (0 < l.length):=rfl
 have o1:bW (tl l)=decide (1 < l.length):=by rw [t1,aAH (by decide),decide_eq_decide];omega
 have o2:bW (tl (tl l))=decide (2 < l.length):=by rw [t2,aAH (by decide),decide_eq_decide];omega
 have o3:bW (tl (tl (tl l)))=decide (3 < l.length):=by rw [t3,aAH (by decide),decide_eq_decide];omega
 have bd:∀ k:Nat,0≤at0 l k∧at0 l k≤65519:=fun k=>by
  unfold at0
  by_cases hk:k < l.length
  ·exact gK.1 hp.1 _ (aW hk)
  ·rw [List.getD_eq_getElem?_getD,List.getElem?_eq_none (by omega)];exact ⟨by decide,by decide⟩
 obtain ⟨a0,a1⟩:=bd 0
 obtain ⟨b0,b1⟩:=bd 1
 obtain ⟨m0,m1⟩:=bd 2
 obtain ⟨q0,q1⟩:=bd 3
 have epl:uD l=(decide (4≤l.length) && aAe l && decide (4 + at0 l 2 * at0 l 2 + at0 l 3 * (at0 l 2 * at0 l 2)≤l.length)):=rfl
 have ehd:aAe l=decide (at0 l 2≤12∧at0 l 3≤4∧at0 l 0 < at0 l 1∧at0 l 1≤at0 l 0 + 60∧at0 l 1≤600):=rfl
 have shrt:l.length < 4→uD l=false:=fun h=>by rw [epl,decide_eq_false (by omega)];rfl
 have noHd:aAe l=false→uD l=false:=fun h=>by rw [epl,h];simp
 have noLen:¬ 4 + at0 l 2 * at0 l 2 + at0 l 3 * (at0 l 2 * at0 l 2)≤l.length→uD l=false:=fun h=>by rw [epl,decide_eq_false h];simp
 simp only [h0,h1,h2,h3,o0,o1,o2,o3,t4]
 have eq3:Int.ofNat (D.nat (at0 l 3))=at0 l 3:=Int.toNat_of_nonneg q0
 simp only [eq3]
 simp only [gQ,D.and,Bool.true_and,true_and,and_true,imp_self,implies_true,Bool.and_eq_true,Bool.and_eq_false_imp,forall_const,D.nil,D.lt,D.le,D.ile,D.ilt,D.nlt,D.sub,D.add,D.mul,D.nat,D.ofN,D.len,D.set,D.rep,decide_eq_true_eq,decide_eq_false_iff_not]
 obtain ⟨mm,hmm⟩:∃ mm,mm=at0 l 2 * at0 l 2:=⟨_,rfl⟩
 have mm0:0≤mm:=by rw [hmm];exact Int.mul_nonneg m0 m0
 have eK:∀ k,aIi (at0 l 3) (at0 l 2) l k=dG l (4 + mm + k * mm):=fun k=>by unfold aIi;rw [hmm]
 have tabA:∀ k:Int,0≤k→(wG (at0 l 2) (dG l k)=true↔mm≤((l.length - k.toNat:Nat):Int)):=fun k hk=>by
  unfold wG
  rw [decide_eq_true_eq,aHH,hmm]
 have ePL:uD l=true↔4≤l.length∧aAe l=true∧4 + mm + at0 l 3 * mm≤l.length:=by
  rw [epl,Bool.and_eq_true,Bool.and_eq_true,decide_eq_true_eq,decide_eq_true_eq,hmm,and_assoc]
 have tl_len:(aAu (at0 l 3) (at0 l 2) (dG l (4 + mm))).length=(at0 l 3).toNat:=by unfold aAu;simp
 have tT_len:∀ {x:Int},upto x (at0 l 3)→(wF (at0 l 3) (at0 l 2) (dG l (4 + mm)) x).length=(at0 l 3).toNat:=fun {x} ⟨h1,h2⟩=>by
  unfold wF
  rw [List.length_append,List.length_take,List.length_replicate,tl_len];omega
 simp only [eK,← hmm]
 refine ⟨fun h=>shrt (by omega),fun l0=>⟨l0,fun h=>shrt (by omega),fun l1=>⟨l1,fun h=>shrt (by omega),fun l2=>⟨l2,fun h=>shrt (by omega),fun l3=>⟨l3,fun h=>noHd ?_,fun hA=>⟨hA,fun h=>aN (by omega),fun h=>noHd ?_,fun hB=>⟨hB,?_⟩⟩⟩⟩⟩⟩⟩
 ·rw [ehd,decide_eq_false_iff_not];intro g;exact h g.1 g.2.1
 ·rw [ehd,decide_eq_false_iff_not];intro g;exact h ⟨g.2.2.1,g.2.2.2.1⟩ g.2.2.2.2
 have hH:aAe l=true:=by rw [ehd,decide_eq_true_eq];exact ⟨hA.1,hA.2,hB.1.1,hB.1.2,hB.2⟩
 have tP:∀ k,aJJ (at0 l 2) (dG l k):=fun k=>⟨m0,hA.1,jS hp k⟩
 have mono:∀ {k:Int},0≤k→k≤at0 l 3→k * mm≤at0 l 3 * mm:=fun h1 h2=>Int.mul_le_mul_of_nonneg_right h2 mm0
 have kmm:∀ {k:Int},0≤k→0≤k * mm:=fun h=>Int.mul_nonneg h mm0
 have bad:¬ (4 + mm + at0 l 3 * mm≤l.length)→uD l=false:=fun h=>by
  cases e:uD l with
  | false=>rfl
  | true=>exact absurd (ePL.1 e).2.2 h
 refine ⟨⟨tP 4,fun h=>bad ?_⟩,fun hT=>⟨⟨tP 4,hT⟩,q0,by omega,by omega,by simp,by simp,⟨0,⟨⟨Int.le_refl _,.inr rfl⟩,?_⟩,rfl,?_,?_⟩,fun x hx=>⟨fun hlt=>⟨tP _,fun hT2=>?_,fun hT2=>bad ?_⟩,fun hge=>?_⟩⟩⟩
 ·have:¬ mm≤((l.length - (4:Int).toNat:Nat):Int):=fun g=>by rw [(tabA 4 (by decide)).2 g] at h;cases h
  have:=kmm q0
  have e4:(4:Int).toNat=4:=rfl
  omega
 ·have:=(tabA 4 (by decide)).1 hT
  have e4:(4:Int).toNat=4:=rfl
  show (0 + 1) * (at0 l 2 * at0 l 2)≤(l.length:Int) - 4
  rw [← hmm]
  omega
 ·rw [drop_drop (by decide) mm0,Int.zero_mul,Int.add_zero]
 ·unfold wF;simp
 ·have h0:=hx.1.1
  have hl2:=tT_len hx.1
  have h2':=hx.2
  rw [← hmm,lV] at h2'
  have hT3:=(tabA _ (by have:=kmm h0;omega)).1 hT2
  have:=kmm h0
  refine ⟨⟨tP _,hT2⟩,hl2,h0,by rw [hl2];omega,hl2,aN (by omega),x + 1,⟨⟨by omega,.inl (by omega)⟩,?_⟩,⟨rfl,?_,?_⟩,by omega⟩
  ·rw [← hmm,lV,lV];omega
  ·rw [drop_drop (by omega) mm0];congr 1;rw [lV];omega
  ·have e:(x + 1).toNat=x.toNat + 1:=by omega
   have:=aDH (aAu (at0 l 3) (at0 l 2) (dG l (4 + mm))) [] (nX (at0 l 2) (dG l (4 + mm + x * mm))) x.toNat (by
    unfold aAu
    rw [List.getElem?_map,List.getElem?_range (by omega),Option.map_some,Int.toNat_of_nonneg h0,drop_drop (by omega) (by rw [← hmm];exact kmm h0),← hmm])
   rw [tl_len] at this
   unfold wF;rw [e];exact this
 ·have h0:=hx.1.1
  have hx0:=kmm h0
  have hn:¬ mm≤((l.length - (4 + mm + x * mm).toNat:Nat):Int):=fun g=>by rw [(tabA _ (by omega)).2 g] at hT2;cases hT2
  have:=mono (k:=x + 1) (by omega) (by omega)
  rw [lV] at this
  omega
 ·have hxe:x=at0 l 3:=by rcases hx.1 with ⟨h1,h2⟩;omega
  subst hxe
  have h2':=hx.2
  rw [← hmm,lV] at h2'
  refine ⟨tT_len hx.1,ePL.2 ⟨by omega,hH,by omega⟩,rfl,rfl,rfl,tT_len hx.1,?_,?_⟩
  ·unfold wF
   rw [List.take_of_length_le (by rw [tl_len];exact Nat.le_refl _),Nat.sub_self]
   show _ ++ []=_
   rw [List.append_nil,hmm];rfl
  ·rw [hmm];rfl
theorem aVG:aQ Tryz.prog fC aV7:=aJ (yS fun _ xs=>(aOK xs).1) aTL
theorem aTQ:fB Tryz.prog fC KP8:=rW (aBv fun _ xs=>(aOK xs).2) aPn
end Go.Eng.In
