/- PeMxn PeTt3n PeTt4n PeTt7n PeRo2n PeCo2n PeCo3n PeCo4n PeCo5n PeCoL2n PeIn3n PeIn4n -/
import Derived.Test.YtlakcpmgefpfaaaGreatDoorECDaysA
import Derived.Test.YtlakcpmgefpfaaaGreatDoorECDaysB
import Derived.Test.YtlakcpmgefpfaaaGreatDoorECDaysC
import Derived.Test.YtlakcpmgefpfaaaGreatDoorECDaysD
import Derived.Test.YtlakcpmgefpfaaaGreatDoorECDaysE
set_option linter.unusedSimpArgs false
set_option linter.unusedVariables false
set_option maxRecDepth 100000
noncomputable section
namespace Go.Eng.Mp
open Go.Proofs
open Go.Eng.Sv (I R M G0 KI0)
open Go.Eng.Sv (bD hm)
def nH(x:Int): Bool:=decide (x<=-549755813888)
def aDs(x:Int): Bool:=nH x||(decide (x≥-1000000000)&&decide (x<=1000000000))
def aAG(x y:Int): Int:=bif nH x&&nH y then -1099511627776 else max x y
def aAQ(x y:Int): Int:=bif nH x||nH y then -1099511627776 else x+y
def aED(x y:Int): Prop:=nH x=false->nH y=false->inR .i64 (x+y)
def jP(x y:Bool): Bool:=x||y
def aEe{α:Type}(op:α->α->α)(g:Int->α)(z:α): Nat->α
 | 0=>z
 | k+1=>op (aEe op g z k) (g k)
def rG(op:Bool->Bool->Bool)(g:Int->Bool)(z:Bool)(n:Int): Bool:=aEe op g z n.toNat
def pF(n:Int)(preP:Bool->Bool->Prop)(preT:Int->Prop)(g:Int->Bool): Prop:=n<=9223372036854775807/\∀k,0<=k->k<n->preT k/\∀x,preP x (g k)
def upto(k n:Int): Prop:=0<=k/\(k<=n\/k=0)
def idx(k:Int)(row:List Int): Prop:=0<=k/\k<(row.length:Int)
def at1(row:List Int)(k:Int): Int:=row.getD k.toNat 0
def aAn(row:List Int)(k:Int): Bool:=!(aDs (at1 row k))
def aBH(row:List Int): Bool:=rG jP (aAn row) false row.length
def aRk(row:List Int): Prop:=(row.length:Int)<=9223372036854775807
def K0: Kt:=λ_ _ _=>none
def c0: Cfg:=Sv.mkc K0
theorem bBE(x:Int)(hvc:
 true/\(True->Eh x (-549755813888)=nH x/\True)):
  evF c0 aQ 260 [.dat I x] [] ⟨True,.dat .bool (nH x),[]⟩:=@of_eq _ _ (by kernel_rfl) hvc
theorem KS0: aI Tryz.prog G0 K0:=λf args m c h=>by cases h
theorem bFB(x:Int): aB Tryz.prog G0 260 [.dat I x] [] ⟨True,.dat .bool (nH x),[]⟩:=
 aA (c:=c0) KS0 bD hm (bBE x ⟨rfl,λ_=>⟨rfl,trivial⟩⟩)
theorem aPx(x y:Bool)(hvc:
 true/\(True->(Di true (Dk x)->Dk x)/\Ec x true y=jP x y/\True)):
  evF c0 aQ 262 [.dat .bool x,.dat .bool y] [] ⟨True,.dat .bool (jP x y),[]⟩:=@of_eq _ _ (by kernel_rfl) hvc
theorem aMw(x y:Bool): aB Tryz.prog G0 262 [.dat .bool x,.dat .bool y] [] ⟨True,.dat .bool (jP x y),[]⟩:=
 aA (c:=c0) KS0 bD hm (aPx x y (by cases x<;>cases y<;>simp[jP]))
def bDc(n:Int)(z:Bool)(op:Bool->Bool->Bool)(g:Int->Bool): Ann:=⟨λid s=>match id with
 | 3=>some {α:=Int,inv:=λk=>upto k n,st:=λk=>put s [(13,.dat I k),(9,.dat .bool (rG op g z k))],μ:=λk=>Dc (Dh n k)}
 | _=>none,λ_ _=>none,λ_ _=>none⟩
theorem aTI(n:Int)(z:Bool)(preP:Bool->Bool->Prop)(op:Bool->Bool->Bool)(preT:Int->Prop)(g:Int->Bool)(hvc:
 true/\(pF n preP preT g->(∃x,upto x n/\AV.clo2 Ty.bool Ty.bool Ty.bool preP op=AV.clo2 Ty.bool Ty.bool Ty.bool preP op/\AV.clo1 (Ty.int IntKind.i64) Ty.bool preT g=AV.clo1 (Ty.int IntKind.i64) Ty.bool preT g/\false=false/\z=rG op g z x/\n=n/\0=x/\True)/\∀(x:Int),let c1:=rG op g z x;let c2:=x+1;upto x n->(Dp x n->preT x/\preP c1 (g x)/\inR IntKind.i64 c2/\∃y,upto y n/\(AV.clo2 Ty.bool Ty.bool Ty.bool preP op=AV.clo2 Ty.bool Ty.bool Ty.bool preP op/\AV.clo1 (Ty.int IntKind.i64) Ty.bool preT g=AV.clo1 (Ty.int IntKind.i64) Ty.bool preT g/\false=false/\op c1 (g x)=rG op g z y/\n=n/\c2=y/\True)/\Dc (n-y)<Dc (n-x))/\(Dp x n=false->c1=rG op g z n/\True))):
  evF c0 (lvA [(3,[2,3,8,9,10,12,13])] (bDc n z op g)) 261 [.dat I n,.dat .bool z,.clo2 .bool .bool .bool preP op,.clo1 I .bool preT g] [] ⟨pF n preP preT g,.dat .bool (rG op g z n),[]⟩:=@of_eq _ _ (by kernel_rfl) hvc
theorem aOz(op:Bool->Bool->Bool)(g:Int->Bool)(z:Bool): rG op g z 0=z:=rfl
theorem aOA(op:Bool->Bool->Bool)(g:Int->Bool)(z:Bool)(k:Int)(h:0<=k): rG op g z (k+1)=op (rG op g z k) (g k):=by
 unfold rG;have e:(k+1).toNat=k.toNat+1:=by omega
 rw[e];show op _ (g (k.toNat:Int))=_;rw[vC h]
theorem aRK(op:Bool->Bool->Bool)(g:Int->Bool)(z:Bool)(k n:Int)(h:upto k n)(h2:¬k<n): rG op g z k=rG op g z n:=by
 unfold rG;unfold upto at h;have e:k.toNat=n.toNat:=by omega
 rw[e]
theorem aZl(n:Int)(z:Bool)(preP:Bool->Bool->Prop)(op:Bool->Bool->Bool)(preT:Int->Prop)(g:Int->Bool):
  aB Tryz.prog G0 261 [.dat I n,.dat .bool z,.clo2 .bool .bool .bool preP op,.clo1 I .bool preT g] [] ⟨pF n preP preT g,.dat .bool (rG op g z n),[]⟩:=by
 refine aA (c:=c0) KS0 bD hm (aTI n z preP op preT g ⟨rfl,λhp=>⟨⟨0,⟨by omega,.inr rfl⟩,?_⟩,λx hx=>⟨λhlt=>?_,λhge=>?_⟩⟩⟩)
 .simp[aOz]
 .have hlt:x<n:=by simpa using hlt
  have h0:=hx.1;obtain⟨p1,p2⟩:=hp.2 x h0 hlt;refine⟨p1,p2 _,?_,x+1,⟨by omega,.inl (by omega)⟩,?_,?_⟩
  .have:=hp.1;simp only[inR,Dq];omega
  .simp[aOA op g z x h0]
  .simp only[Dw,Dc,Dh];omega
 .have hge:¬x<n:=by simpa using hge
  exact⟨aRK op g z x n hx hge,trivial⟩
def K1: Kt:=λf args m=>match f,args,m with
 | 260,[.dat (.int .i64) x],[]=>some ⟨True,.dat .bool (nH x),[]⟩
 | 262,[.dat .bool x,.dat .bool y],[]=>some ⟨True,.dat .bool (jP x y),[]⟩
 | _,_,_=>none
def c1: Cfg:=Sv.mkc K1
theorem aX5(x:Int)(hvc:
 let c1:=Ed x (-1000000000);true/\(True->True/\(Dk (nH x)->Dk (nH x)->Dk (nH x))/\(Dk (nH x)->Dk (nH x)->Dk (nH x))/\(Di (Dk (nH x)) c1->Di (Dk (nH x)) c1->Di (Dk (nH x)) c1)/\(Dk (nH x)->Dk (nH x)->Dk (nH x))/\(Dk (nH x)->Di (Dk (nH x)) c1->Di (Dk (nH x)) c1)/\(Di true (Dk (nH x))->Dk (nH x))/\Ec (nH x) true (Ec c1 (Eh x 1000000000) false)=aDs x/\True)):
  evF c1 aQ 289 [.dat I x] [] ⟨True,.dat .bool (aDs x),[]⟩:=@of_eq _ _ (by kernel_rfl) hvc
theorem KS1: aI Tryz.prog G0 K1:=by
 intro f args m c h;unfold K1 at h;split at h
 .cases h;exact bFB _
 .cases h;exact aMw _ _
 .cases h
theorem bCE(x:Int): aB Tryz.prog G0 289 [.dat I x] [] ⟨True,.dat .bool (aDs x),[]⟩:=
 aA (c:=c1) KS1 bD hm (aX5 x (by cases h:nH x<;>simp[aDs,h,Bool.cond_eq_ite]))
theorem aXO(x y:Int)(hvc:
 let c1:=Ec (nH x) (nH y) false;true/\(True->True/\(nH x->nH x->nH x)/\(nH x->True)/\(Di true (nH x)->nH x)/\(c1->(-1099511627776:Int)=aAG x y/\True)/\(c1=false->Ez x y=aAG x y/\True))):
  evF c1 aQ 215 [.dat I x,.dat I y] [] ⟨True,.dat I (aAG x y),[]⟩:=@of_eq _ _ (by kernel_rfl) hvc
theorem bCz(x y:Int): aB Tryz.prog G0 215 [.dat I x,.dat I y] [] ⟨True,.dat I (aAG x y),[]⟩:=
 aA (c:=c1) KS1 bD hm (aXO x y (by cases h:nH x<;>cases h2:nH y<;>simp[aAG,h,h2]))
theorem aTa(x y:Int)(hvc:
 let c1:=Ec (nH x) true (nH y);true/\(aED x y->True/\(Dk (nH x)->Dk (nH x)->Dk (nH x))/\(Dk (nH x)->True)/\(Di true (Dk (nH x))->Dk (nH x))/\(c1->(-1099511627776:Int)=aAQ x y/\True)/\(c1=false->inR IntKind.i64 (x+y)/\x+y=aAQ x y/\True))):
  evF c1 aQ 218 [.dat I x,.dat I y] [] ⟨aED x y,.dat I (aAQ x y),[]⟩:=@of_eq _ _ (by kernel_rfl) hvc
theorem aZf(x y:Int): aB Tryz.prog G0 218 [.dat I x,.dat I y] [] ⟨aED x y,.dat I (aAQ x y),[]⟩:=
 aA (c:=c1) KS1 bD hm (aTa x y (by cases h:nH x<;>cases h2:nH y<;>simp[aAQ,aED,h,h2]))
def K2: Kt:=λf args m=>match f,args,m with
 | 289,[.dat (.int .i64) x],[]=>some ⟨True,.dat .bool (aDs x),[]⟩
 | 215,[.dat (.int .i64) x,.dat (.int .i64) y],[]=>some ⟨True,.dat I (aAG x y),[]⟩
 | 218,[.dat (.int .i64) x,.dat (.int .i64) y],[]=>some ⟨aED x y,.dat I (aAQ x y),[]⟩
 | _,_,_=>K1 f args m
def c2: Cfg:=Sv.mkc K2
theorem aPa(k:Int)(row:List Int)(hvc:
 true/\(idx k row->0<=k/\k<Df row/\True/\Dk (aDs (Du row (Dc k) 0))=aAn row k/\True)):
  evF c2 aQ 288 [.dat I k,.ip R row] [] ⟨idx k row,.dat .bool (aAn row k),[]⟩:=@of_eq _ _ (by kernel_rfl) hvc
theorem KS2: aI Tryz.prog G0 K2:=by
 intro f args m c h;unfold K2 at h;split at h
 .cases h;exact bCE _
 .cases h;exact bCz _ _
 .cases h;exact aZf _ _
 .exact KS1 _ _ _ _ h
theorem aUH(k:Int)(row:List Int): aB Tryz.prog G0 288 [.dat I k,.ip R row] [] ⟨idx k row,.dat .bool (aAn row k),[]⟩:=
 aA (c:=c2) KS2 bD hm (aPa k row ⟨rfl,λh=>⟨h.1,h.2,trivial,rfl,trivial⟩⟩)
theorem aQL{P:Program}{C:Ctx}{a b x y x' y':AV}{us:List Value}(h:AV.relL P C [a,b,x,y] us)(hx:∀v,x.rel P C v->x'.rel P C v)(hy:∀v,y.rel P C v->y'.rel P C v): AV.relL P C [a,b,x',y'] us:=by
 obtain⟨u,us,rfl,h1,u2,us,rfl,h2,u3,us,rfl,h3,u4,us,rfl,h4,h5⟩:=h;exact⟨_,_,rfl,h1,_,_,rfl,h2,_,_,rfl,hx _ h3,_,_,rfl,hy _ h4,h5⟩
theorem aOC{C:Ctx}(hG:aAi Tryz.prog C G0){v:Value}(h:(AV.fn 262 []).rel Tryz.prog C v): (AV.clo2 .bool .bool .bool (λ_ _=>True) jP).rel Tryz.prog C v:=
 uX (by kernel_rfl) rfl (λx y=>aMw x y) hG h
theorem aGH(n:Int)(z:Bool){f:FuncId}{caps:List AV}(preT:Int->Prop)(g:Int->Bool)(hg:goes Tryz.prog f=true)(hn:AV.namesL caps=[])(h:∀k,aB Tryz.prog G0 f (.dat I k::caps) [] ⟨preT k,.dat .bool (g k),[]⟩):
  aB Tryz.prog G0 261 [.dat I n,.dat .bool z,.fn 262 [],.fn f caps] [] ⟨pF n (λ_ _=>True) preT g,.dat .bool (rG jP g z n),[]⟩:=
 (aZl n z _ jP preT g).args λ_ _ hG hu=>aQL hu (λ_ h=>aOC hG h) (λ_ hv=>uY hg hn h hG hv)
def K3: Kt:=λf args m=>match f,args,m with
 | 261,[.dat (.int .i64) n,.dat .bool z,.fn 262 [],.fn 288 [.ip (.sl (.int .i64)) row]],[]=>some ⟨pF n (λ_ _=>True) (λk=>idx k row) (aAn row),.dat .bool (rG jP (aAn row) z n),[]⟩
 | _,_,_=>K2 f args m
def c3: Cfg:=Sv.mkc K3
theorem aSZ(row:List Int)(hvc:
 true/\(aRk row->pF (Df row) (λx x_1↦True) (λk↦idx k row) (aAn row)/\rG jP (aAn row) false (Df row)=aBH row/\True)):
  evF c3 aQ 259 [.dat R row] [] ⟨aRk row,.dat .bool (aBH row),[]⟩:=@of_eq _ _ (by kernel_rfl) hvc
theorem KS3: aI Tryz.prog G0 K3:=by
 intro f args m c h;unfold K3 at h;split at h
 .cases h;exact aGH _ _ _ _ (by kernel_rfl) rfl (λk=>aUH k _)
 .exact KS2 _ _ _ _ h
theorem aZd(row:List Int): aB Tryz.prog G0 259 [.dat R row] [] ⟨aRk row,.dat .bool (aBH row),[]⟩:=
 aA (c:=c3) KS3 bD hm (aSZ row ⟨rfl,λh=>⟨⟨h,λk h0 h1=>⟨⟨h0,h1⟩,λ_=>trivial⟩⟩,rfl,trivial⟩⟩)
def bI(g:Int->Int->Int)(n:Int): List (List Int):=(List.range n.toNat).map λi:Nat=>(List.range n.toNat).map λj:Nat=>g i j
def iG(g:Int->Int->Int)(n i:Int): List (List Int):=(bI g n).take i.toNat++List.replicate (n.toNat-i.toNat) []
def aEj(g:Int->Int->Int)(n i j:Int): List Int:=((List.range n.toNat).map λj:Nat=>g i j).take j.toNat++List.replicate (n.toNat-j.toNat) 0
def eH(n:Int)(preT:Int->Int->Prop): Prop:=0<=n/\n<=1000000/\∀i j,0<=i->i<n->0<=j->j<n->preT i j
def bDy(n:Int)(g:Int->Int->Int): Ann:=⟨λid s=>match id with
 | 3=>some {α:=Int,inv:=λk=>upto k n,st:=λk=>pX (put s [(11,.dat I k),(5,.buf 0 (Dc n))]) 0 (.buf 36 R (iG g n k) []),μ:=λk=>Dc (Dh n k)}
 | 7=>match s.sig.T 6 with
  | .dat (.int .i64) i=>some {α:=Int,inv:=λk=>upto k n,st:=λk=>pX (put s [(20,.dat I k)]) 1 (.buf 3 I (aEj g n i k) []),μ:=λk=>Dc (Dh n k)}
  | _=>none
 | _=>none,λ_ _=>none,λ_ _=>none⟩
theorem aTU (n : Int) (preT : Int → Int → Prop) (g : Int → Int → Int) (hvc :
 let c1 := Ep n (0 : Int); true = true ∧ (eH n preT → Dl (0 : Int) n ∧ Dl (Ee (Dx (24)) n) (281474976710656 : Int) ∧ Dl n
  (9223372036854775807 : Int) ∧ (∃ x, upto x n ∧ n = n ∧ AV.clo2 (Ty.int IntKind.i64) (Ty.int IntKind.i64) (Ty.int IntKind.i64) preT g = AV.clo2 (Ty.int
  IntKind.i64) (Ty.int IntKind.i64) (Ty.int IntKind.i64) preT g ∧ Value.slice none (0) (0) = Value.slice none (0) (0) ∧ Dc n = Dc n ∧ n = n ∧ (0 : Int) = x
  ∧ Ep n (Dt Int) = iG g n x ∧ True) ∧ ∀ (x : Int),
 let c2 := Dj (iG g n x);
 let c3 := Dq x (1 : Int); upto x n → (Dp x n = true → Dl (0 : Int) n ∧ Dl (Ee (Dx (8)) n) (281474976710656 : Int) ∧ Dl n
  (9223372036854775807 : Int) ∧ c2 = Dc n ∧ Dl (0 : Int) x ∧ Dn x (Dx c2) ∧ c2 = Dc n ∧ Dj c1 = Dc n ∧ (∃ x_3, upto x_3 n ∧ n = n ∧ AV.clo2
  (Ty.int IntKind.i64) (Ty.int IntKind.i64) (Ty.int IntKind.i64) preT g = AV.clo2 (Ty.int IntKind.i64) (Ty.int IntKind.i64) (Ty.int IntKind.i64) preT g ∧
  Value.slice none (0) (0) = Value.slice none (0) (0) ∧ Dc n = Dc n ∧ x = x ∧ n = n ∧ x = x ∧ n = n ∧ (0 : Int) = x_3 ∧ iG g n x = iG g n x ∧ Dc x
  = Dc x ∧ Dc n = Dc n ∧ c1 = aEj g n x x_3 ∧ True) ∧ ∀ (x_3 : Int),
 let c4 := aEj g n x x_3;
 let c5 := Dj c4;
 let c6 := Dq x_3 (1 : Int); upto x_3 n → (Dp x_3 n = true → c2 = Dc n ∧ Dl (0 : Int) x ∧ Dn x (Dx c2) ∧ c2 = Dc n ∧ Dc x = Dc x ∧ preT
  x x_3 ∧ c5 = Dc n ∧ Dl (0 : Int) x_3 ∧ Dn x_3 (Dx c5) ∧ c5 = Dc n ∧ inR IntKind.i64 c6 ∧ ∃ y, upto y n ∧ (n = n ∧ AV.clo2 (Ty.int IntKind.i64)
  (Ty.int IntKind.i64) (Ty.int IntKind.i64) preT g = AV.clo2 (Ty.int IntKind.i64) (Ty.int IntKind.i64) (Ty.int IntKind.i64) preT g ∧ Value.slice none (0) (0) =
  Value.slice none (0) (0) ∧ Dc n = Dc n ∧ x = x ∧ n = n ∧ x = x ∧ n = n ∧ c6 = y ∧ iG g n x = iG g n x ∧ Dc x = Dc x ∧ Dc n = Dc n ∧
  En c4 (Dc x_3) (g x x_3) = aEj g n x y ∧ True) ∧ Dw (Dc (Dh n y)) (Dc (Dh n x_3))) ∧ (Dp x_3 n = false → inR IntKind.i64 c3 ∧ ∃ y, upto
  y n ∧ (n = n ∧ AV.clo2 (Ty.int IntKind.i64) (Ty.int IntKind.i64) (Ty.int IntKind.i64) preT g = AV.clo2 (Ty.int IntKind.i64) (Ty.int IntKind.i64) (Ty.int
  IntKind.i64) preT g ∧ Value.slice none (0) (0) = Value.slice none (0) (0) ∧ Dc n = Dc n ∧ n = n ∧ c3 = y ∧ c5 = Dc n ∧ En (iG g n x) (Dc x)
  c4 = iG g n y ∧ True) ∧ Dw (Dc (Dh n y)) (Dc (Dh n x)))) ∧ (Dp x n = false → c2 = Dc n ∧ iG g n x = bI g n ∧ True))) :
    evF c0 (lvA [(3, [0, 1, 4, 5, 6, 7, 10, 11, 19, 20]), (7, [0, 1, 4, 5, 6, 7, 10, 11, 19, 20])] (bDy n g)) 213 [.dat I n, .clo2 I I I preT g] [] ⟨eH n preT, .dat M (bI g n), []⟩ := @of_eq _ _ (by kernel_rfl) hvc
theorem aId{α:Type}(xs:List α)(d v:α)(k:Nat)(hk:xs[k]?=some v): (xs.take k++List.replicate (xs.length-k) d).set k v=xs.take (k+1)++List.replicate (xs.length-(k+1)) d:=by
 obtain⟨h,e⟩:=qG.1 hk;have e2:xs.length-k=(xs.length-(k+1))+1:=by omega
 rw[e2,qBc,List.set_append_right _ _ (by simp;omega)]
 simp[wV,hk,xA (Nat.le_of_lt h)]
theorem nD(g:Int->Int->Int)(n:Int): (bI g n).length=n.toNat:=by simp[bI]
theorem aAU(g:Int->Int->Int)(n x:Int)(h:upto x n): (iG g n x).length=n.toNat:=by
 have:=h.1;have:=h.2;simp only[iG,qF,qI,wJ,nD];omega
theorem aBq(g:Int->Int->Int)(n i x:Int)(h:upto x n): (aEj g n i x).length=n.toNat:=by
 have:=h.1;have:=h.2;simp only[aEj,qF,qI,wJ,vF,vK];omega
theorem aBp(g:Int->Int->Int)(n:Int): iG g n 0=List.replicate n.toNat []:=by simp[iG]
theorem aE0(g:Int->Int->Int)(n i:Int): aEj g n i 0=List.replicate n.toNat 0:=by simp[aEj]
theorem aE1(g:Int->Int->Int)(n i j:Int)(h0:0<=j)(h1:j<n): (aEj g n i j).set j.toNat (g i j)=aEj g n i (j+1):=by
 have e:(j+1).toNat=j.toNat+1:=by omega
 have:=aId ((List.range n.toNat).map λj:Nat=>g i j) 0 (g i j) j.toNat (by
  rw[qP,vX (by omega)];simp[vC h0])
 simp only[vF,vK]at this;unfold aEj;rw[e];exact this
theorem aUY(g:Int->Int->Int)(n i j:Int)(h:upto j n)(h1:¬j<n): aEj g n i j=(List.range n.toNat).map λj:Nat=>g i j:=by
 have:=h.1;have:=h.2;have e:j.toNat=n.toNat:=by omega
 unfold aEj;rw[e,qO (by simp)];simp
theorem aDb(g:Int->Int->Int)(n i j:Int)(h0:0<=i)(h1:i<n)(h:upto j n)(h2:¬j<n): (iG g n i).set i.toNat (aEj g n i j)=iG g n (i+1):=by
 have e:(i+1).toNat=i.toNat+1:=by omega
 rw[aUY g n i j h h2];have:=aId (bI g n) [] ((List.range n.toNat).map λj:Nat=>g i j) i.toNat (by
  unfold bI;rw[qP,vX (by omega)];simp[vC h0])
 rw[nD]at this;unfold iG;rw[e];exact this
theorem aEZ(g:Int->Int->Int)(n i:Int)(h:upto i n)(h1:¬i<n): iG g n i=bI g n:=by
 have:=h.1;have:=h.2;have e:i.toNat=n.toNat:=by omega
 unfold iG;rw[e,qO (by rw[nD];exact qK _)];simp
theorem aZm (n : Int) (preT : Int → Int → Prop) (g : Int → Int → Int) : aB Tryz.prog G0 213 [.dat I n, .clo2 I I I preT g] [] ⟨eH n preT, .dat M (bI g n), []⟩ := by
  refine aA (c := c0) KS0 bD hm (aTU n preT g ⟨rfl, fun hp => ?_⟩)
  obtain ⟨p1, p2, p3⟩ := hp
  refine ⟨p1, by simp only [Dl, Ee, Dx]; omega, by simp only [Dl]; omega, ⟨0, ⟨by omega, .inr rfl⟩, ?_⟩, fun x hx => ⟨fun hlt => ?_, fun hge => ?_⟩⟩
  · simp [aBp]
  · have hlt : x < n := by simpa using hlt
    have h0 := hx.1
    have hl := aAU g n x hx
    refine ⟨p1, by simp only [Dl, Ee, Dx]; omega, by simp only [Dl]; omega, hl, h0, by simp only [Dn, Dx, Dj]; omega, hl, by simp, ⟨0, ⟨by omega, .inr rfl⟩, ?_⟩, fun y hy => ⟨fun hlt2 => ?_, fun hge => ?_⟩⟩
    · simp [aE0]
    · have hlt2 : y < n := by simpa using hlt2
      have h2 := hy.1
      have hl2 := aBq g n x y hy
      refine ⟨hl, h0, by simp only [Dn, Dx, Dj]; omega, hl, rfl, p3 x y h0 hlt h2 hlt2, hl2, h2, by simp only [Dn, Dx, Dj]; omega, hl2, by simp only [inR, Dq]; omega, y + 1, ⟨by omega, .inl (by omega)⟩, ?_, ?_⟩
      · simp [aE1 g n x y h2 hlt2]
      · simp only [Dw, Dc, Dh]; omega
    · have hge : ¬ y < n := by simpa using hge
      refine ⟨by simp only [inR, Dq]; omega, x + 1, ⟨by omega, .inl (by omega)⟩, ?_, ?_⟩
      · simp [aDb g n x y h0 hlt hy hge, aBq g n x y hy]
      · simp only [Dw, Dc, Dh]; omega
  · have hge : ¬ x < n := by simpa using hge
    exact ⟨aAU g n x hx, aEZ g n x hx hge, trivial⟩
def aBK(m:List (List Int))(row:List Int): Bool:=decide ((row.length:Int)≠m.length)||aBH row
def aO(m:List (List Int)): Bool:=!decide ((m.length:Int)>40)&&!m.any (aBK m)
def aSI(m:List (List Int))(k:Int): Prop:=0<=k/\k<=m.length/\m.length<=40/\(m.take k.toNat).any (aBK m)=false
def aDn(i j:Int)(a:List (List Int)): Prop:=0<=i/\i<(a.length:Int)/\idx j (a.getD i.toNat [])
def at2(a:List (List Int))(i j:Int): Int:=(a.getD i.toNat []).getD j.toNat 0
def diag(m:List (List Int))(k:Int): Bool:=decide (at2 m k k>0)
def tK(m:List (List Int)): Bool:=rG jP (diag m) false m.length
def aXj(m:List (List Int)): Prop:=pF m.length (λ_ _=>True) (λk=>aDn k k m) (diag m)
def aD8(m:List (List Int))(i j:Int): Int:=bif decide (i=j)then aAG 0 (at2 m i j)else aAG (-1099511627776) (at2 m i j)
def aEN(m:List (List Int))(k i j:Int): Int:=aAG (at2 m i j) (aAQ (at2 m i k) (at2 m k j))
def aIV(m:List (List Int))(k i j:Int): Prop:=aDn i j m/\aDn i k m/\aDn k j m/\aED (at2 m i k) (at2 m k j)
def K4: Kt:=λf args m=>match f,args,m with
 | 259,[.dat (.sl (.int .i64)) row],[]=>some ⟨aRk row,.dat .bool (aBH row),[]⟩
 | _,_,_=>K3 f args m
def c4: Cfg:=Sv.mkc K4
def aMf(m:List (List Int)): Ann:=⟨λid s=>match id with
 | 4=>some {α:=Int,inv:=λk=>aSI m k,st:=λk=>put s [(10,.dat I k)],μ:=λk=>Dc (Dh (Df m) k)}
 | _=>none,λ_ _=>none,λ_ _=>none⟩
theorem aHn(m:List (List Int))(hvc:
 let c1:=Ei (Df m) 40;true/\(True->(c1->false=aO m/\True)/\(c1=false->(∃x,aSI m x/\m=m/\m=m/\Df m=Df m/\0=x/\True)/\∀(x:Int),let c2:=Dp x (Df m);let c3:=Du m (Dc x) [];let c4:=Eb (Df c3) (Df m);let c5:=Dk c4;let c6:=Ec c4 true (aBH c3);let c7:=x+1;aSI m x->(c2->0<=x/\x<Df m/\(c5->c5->c5)/\(c5->aRk c3)/\(Di true c5->c5)/\(c6->false=aO m/\True)/\(c6=false->inR IntKind.i64 c7/\∃y,aSI m y/\(m=m/\m=m/\Df m=Df m/\c7=y/\True)/\Dc (Df m-y)<Dc (Df m-x)))/\(c2=false->true=aO m/\True)))):
  evF c4 (lvA [(4,[0,2,4,8,9,10])] (aMf m)) 212 [.dat M m] [] ⟨True,.dat .bool (aO m),[]⟩:=@of_eq _ _ (by kernel_rfl) hvc
theorem aX6(k:Int)(m:List (List Int))(hvc:
 let c1:=Du m (Dc k) [];true/\(aDn k k m->0<=k/\k<Df m/\0<=k/\k<Df c1/\Ei (Du c1 (Dc k) 0) 0=diag m k/\True)):
  evF c4 aQ 263 [.dat I k,.ip M m] [] ⟨aDn k k m,.dat .bool (diag m k),[]⟩:=@of_eq _ _ (by kernel_rfl) hvc
theorem aTd(i j:Int)(m:List (List Int))(hvc:
 let c1:=Du m (Dc i) [];let c2:=Du c1 (Dc j) 0;true/\(aDn i j m->(Ea i j->0<=i/\i<Df m/\0<=j/\j<Df c1/\True/\aAG 0 c2=aD8 m i j/\True)/\(Ea i j=false->0<=i/\i<Df m/\0<=j/\j<Df c1/\True/\aAG (-1099511627776) c2=aD8 m i j/\True))):
  evF c4 aQ 214 [.dat I i,.dat I j,.ip M m] [] ⟨aDn i j m,.dat I (aD8 m i j),[]⟩:=@of_eq _ _ (by kernel_rfl) hvc
theorem aTc(k i j:Int)(m:List (List Int))(hvc:
 let c1:=Du m (Dc i) [];let c2:=Df c1;let c3:=Du m (Dc k) [];let c4:=Du c1 (Dc k) 0;let c5:=Du c3 (Dc j) 0;true/\(aIV m k i j->0<=i/\i<Df m/\0<=j/\j<c2/\0<=i/\i<Df m/\0<=k/\k<c2/\0<=k/\k<Df m/\0<=j/\j<Df c3/\aED c4 c5/\True/\aAG (Du c1 (Dc j) 0) (aAQ c4 c5)=aEN m k i j/\True)):
  evF c4 aQ 217 [.dat I i,.dat I j,.ip M m,.ip I k] [] ⟨aIV m k i j,.dat I (aEN m k i j),[]⟩:=@of_eq _ _ (by kernel_rfl) hvc
theorem KS4: aI Tryz.prog G0 K4:=by
 intro f args m c h;unfold K4 at h;split at h
 .cases h;exact aZd _
 .exact KS3 _ _ _ _ h
theorem aQZ{m:List (List Int)}(h:¬(m.length:Int)>40): aSI m 0:=⟨by omega,by omega,by omega,by simp⟩
theorem aMM{m:List (List Int)}{k:Int}(h:aSI m k)(hk:k<m.length): m.getD k.toNat []∈m/\m.take (k+1).toNat=m.take k.toNat++[m.getD k.toNat []]:=by
 have h0:=h.1;have hlt:k.toNat<m.length:=by omega
 have e:(k+1).toNat=k.toNat+1:=by omega
 rw[qA,qB hlt,e];exact⟨wH hlt,by rw[wV,qB hlt];rfl⟩
theorem aQ0{m:List (List Int)}{k:Int}(h:aSI m k)(hk:k<m.length)(hr:aBK m (m.getD k.toNat [])=false): aSI m (k+1):=by
 obtain⟨h0,h1,h2,h3⟩:=h;refine⟨by omega,by omega,h2,?_⟩
 rw[(aMM ⟨h0,h1,h2,h3⟩ hk).2,List.any_append,h3,qDu,hr];rfl
theorem aNR{m:List (List Int)}{k:Int}(h:aSI m k)(hk:k<m.length)(hr:aBK m (m.getD k.toNat [])=true): aO m=false:=by
 unfold aO;have:m.any (aBK m)=true:=kD.2 ⟨_,(aMM h hk).1,hr⟩;rw[this];simp
theorem aNQ{m:List (List Int)}{k:Int}(h:aSI m k)(hk:¬k<m.length): aO m=true:=by
 obtain⟨h0,h1,h2,h3⟩:=h;unfold aO;have e:k.toNat=m.length:=by omega
 rw[e,xG]at h3;rw[h3];have:¬((m.length:Int)>40):=by omega
 simp only[this,kV];rfl
theorem aHe(m:List (List Int))(r:List Int): Ec (Eb (Df r) (Df m)) true (aBH r)=aBK m r:=by
 unfold aBK Ec Eb Df;by_cases h:(r.length:Int)=m.length<;>simp[h]
theorem aKY(m:List (List Int)): aB Tryz.prog G0 212 [.dat M m] [] ⟨True,.dat .bool (aO m),[]⟩:=by
 refine aA (c:=c4) KS4 bD hm (aHn m ⟨rfl,λ_=>⟨λh=>⟨?_,trivial⟩,λh=>⟨⟨0,aQZ (by simpa using h),by simp⟩,λx hx=>⟨λhlt=>?_,λhge=>?_⟩⟩⟩⟩)
 .have:(m.length:Int)>40:=by simpa using h
  unfold aO;simp only[this,qBp];rfl
 .have hlt:x<m.length:=by simpa using hlt
  refine⟨hx.1,hlt,λ_ h=>h,λhne=>?_,λh=>?_,λhb=>⟨?_,trivial⟩,λhb=>⟨?_,x+1,?_,by simp,?_⟩⟩
  .have:((m.getD x.toNat []).length:Int)=m.length:=by simpa using hne
   have:=hx.2.2.1;show((m.getD x.toNat []).length:Int)<=_;omega
  .simpa using h
  .rw[aHe m]at hb;exact(aNR hx hlt hb).symm
  .have:=hx.2.2.1;have:=hx.1;simp only[inR,Dq];omega
  .rw[aHe m]at hb;exact aQ0 hx hlt hb
  .have:=hx.1;simp only[Dw,Dc,Dh,Df];omega
 .have hge:¬x<m.length:=by simpa using hge
  exact⟨(aNQ hx hge).symm,trivial⟩
theorem bCF(k:Int)(m:List (List Int)): aB Tryz.prog G0 263 [.dat I k,.ip M m] [] ⟨aDn k k m,.dat .bool (diag m k),[]⟩:=
 aA (c:=c4) KS4 bD hm (aX6 k m ⟨rfl,λh1=>⟨h1.1,h1.2.1,h1.2.2.1,h1.2.2.2,rfl,trivial⟩⟩)
theorem aZh(i j:Int)(m:List (List Int)): aB Tryz.prog G0 214 [.dat I i,.dat I j,.ip M m] [] ⟨aDn i j m,.dat I (aD8 m i j),[]⟩:=
 aA (c:=c4) KS4 bD hm (aTd i j m ⟨rfl,λh1=>⟨λe=>⟨h1.1,h1.2.1,h1.2.2.1,h1.2.2.2,trivial,by
   have e:i=j:=by simpa using e
   simp[aD8,e,at2],trivial⟩,
  λe=>⟨h1.1,h1.2.1,h1.2.2.1,h1.2.2.2,trivial,by
   have e:¬i=j:=by simpa using e
   simp[aD8,e,at2],trivial⟩⟩⟩)
theorem aZg(k i j:Int)(m:List (List Int)): aB Tryz.prog G0 217 [.dat I i,.dat I j,.ip M m,.ip I k] [] ⟨aIV m k i j,.dat I (aEN m k i j),[]⟩:=
 aA (c:=c4) KS4 bD hm (aTc k i j m ⟨rfl,λ⟨h1,h2,h3,h4⟩=>⟨h1.1,h1.2.1,h1.2.2.1,h1.2.2.2,h2.1,h2.2.1,h2.2.2.1,h2.2.2.2,h3.1,h3.2.1,h3.2.2.1,h3.2.2.2,h4,trivial,rfl,trivial⟩⟩)
theorem aGI(n:Int){f:FuncId}{caps:List AV}(preT:Int->Int->Prop)(g:Int->Int->Int)(hg:goes Tryz.prog f=true)(hn:AV.namesL caps=[])(h:∀i j,aB Tryz.prog G0 f (.dat I i::.dat I j::caps) [] ⟨preT i j,.dat I (g i j),[]⟩):
  aB Tryz.prog G0 213 [.dat I n,.fn f caps] [] ⟨eH n preT,.dat M (bI g n),[]⟩:=
 (aZm n preT g).args λ_ _ hG ⟨_,_,e1,h1,_,_,e2,h2,h3⟩=>⟨_,_,e1,h1,_,_,e2,uX hg hn h hG h2,h3⟩
def K5: Kt:=λf args m=>match f,args,m with
 | 212,[.dat (.sl (.sl (.int .i64))) m],[]=>some ⟨True,.dat .bool (aO m),[]⟩
 | 261,[.dat (.int .i64) n,.dat .bool z,.fn 262 [],.fn 263 [.ip (.sl (.sl (.int .i64))) m]],[]=>some ⟨pF n (λ_ _=>True) (λk=>aDn k k m) (diag m),.dat .bool (rG jP (diag m) z n),[]⟩
 | 213,[.dat (.int .i64) n,.fn 214 [.ip (.sl (.sl (.int .i64))) m]],[]=>some ⟨eH n (λi j=>aDn i j m),.dat M (bI (aD8 m) n),[]⟩
 | 213,[.dat (.int .i64) n,.fn 217 [.ip (.sl (.sl (.int .i64))) m,.ip (.int .i64) k]],[]=>some ⟨eH n (aIV m k),.dat M (bI (aEN m k) n),[]⟩
 | _,_,_=>K4 f args m
def c5: Cfg:=Sv.mkc K5
theorem aPy(m:List (List Int))(hvc:
 true/\(aXj m->pF (Df m) (λx x_1↦True) (λk↦aDn k k m) (diag m)/\rG jP (diag m) false (Df m)=tK m/\True)):
  evF c5 aQ 216 [.dat M m] [] ⟨aXj m,.dat .bool (tK m),[]⟩:=@of_eq _ _ (by kernel_rfl) hvc
theorem KS5: aI Tryz.prog G0 K5:=by
 intro f args m c h;unfold K5 at h;split at h
 .cases h;exact aKY _
 .cases h;exact aGH _ _ _ _ (by kernel_rfl) rfl (λk=>bCF k _)
 .cases h;exact aGI _ _ _ (by kernel_rfl) rfl (λi j=>aZh i j _)
 .cases h;exact aGI _ _ _ (by kernel_rfl) rfl (λi j=>aZg _ i j _)
 .exact KS4 _ _ _ _ h
theorem aUO(m:List (List Int)): aB Tryz.prog G0 216 [.dat M m] [] ⟨aXj m,.dat .bool (tK m),[]⟩:=
 aA (c:=c5) KS5 bD hm (aPy m ⟨rfl,λh=>⟨h,rfl,trivial⟩⟩)
def rQ(m:List (List Int)): Nat->List (List Int)
 | 0=>bI (aD8 m) m.length
 | k+1=>bI (aEN (rQ m k) k) m.length
def aCr(m:List (List Int))(k:Int): List (List Int):=rQ m k.toNat
def aEM(m:List (List Int)): Bool:=(List.range (m.length+1)).any λk=>tK (rQ m k)
def aKT(m:List (List Int)): List (List Int)×Int:=bif aO m then bif aEM m then([],120)else(rQ m m.length,0)else([],1)
def aAE(m:List (List Int)): List (List Int):=(aKT m).1
def aAF(m:List (List Int)): Int:=(aKT m).2
def aKS(m:List (List Int)): Prop:=m.length<=20
def aMn(m:List (List Int))(k:Int): Prop:=0<=k/\k<=m.length/\aO m=true/\∀j:Nat,(j:Int)<=k->tK (rQ m j)=false
def K6: Kt:=λf args m=>match f,args,m with
 | 216,[.dat (.sl (.sl (.int .i64))) m],[]=>some ⟨aXj m,.dat .bool (tK m),[]⟩
 | _,_,_=>K5 f args m
def c6: Cfg:=Sv.mkc K6
def bFz(m:List (List Int)): Ann:=⟨λid s=>match id with
 | 8=>some {α:=Int,inv:=λk=>aMn m k,st:=λk=>put s [(19,.dat I k),(5,.dat M (aCr m k))],μ:=λk=>Dc (Dh (Df m) k)}
 | _=>none,λid s=>match id with
 | 11=>some (frz [0,1] s)
 | _=>none,λ_ _=>none⟩
theorem aXM(m:List (List Int))(hvc:
 let c1:=bI (aD8 m) (Df m);let c2:=tK c1;true/\(aKS m->True/\(Dk (aO m)->aAE m=Dt (List Int)/\1=aAF m/\True)/\(Dk (aO m)=false->(eH (Df m) λi j↦aDn i j m)/\aXj c1/\(c2->aAE m=Dt (List Int)/\120=aAF m/\True)/\(c2=false->(∃x,aMn m x/\Df m=Df m/\c1=aCr m x/\Df m=Df m/\0=x/\True)/\∀(x:Int),let c3:=Dp x (Df m);let c4:=bI (aEN (aCr m x) x) (Df m);let c5:=tK c4;let c6:=x+1;aMn m x->(c3->1=1/\0=0/\1=1/\0=0/\Df m=Df m/\aCr m x=aCr m x/\1=1/\0=0/\x=x/\1=1/\0=0/\aCr m x=aCr m x/\Df m=Df m/\x=x/\c3=c3/\x=x/\aCr m x=aCr m x/\eH (Df m) (aIV (aCr m x) x)/\aXj c4/\(c5->aAE m=Dt (List Int)/\120=aAF m/\True)/\(c5=false->inR IntKind.i64 c6/\∃y,aMn m y/\(Df m=Df m/\c4=aCr m y/\Df m=Df m/\c6=y/\True)/\Dc (Df m-y)<Dc (Df m-x)))/\(c3=false->aCr m x=aAE m/\0=aAF m/\True))))):
  evF c6 (lvA [(8,[2,3,4,5,6,7,18,19])] (bFz m)) 145 [.dat M m] [] ⟨aKS m,.tup [.dat M (aAE m),.dat I (aAF m)],[]⟩:=@of_eq _ _ (by kernel_rfl) hvc
theorem aJ4{g:Int->Bool}(n:Nat): aEe jP g false n=false↔∀k:Nat,k<n->g k=false:=by
 induction n with
 | zero=>simp[aEe]
 | succ n ih=>
  simp only[aEe,jP,qAz,ih];constructor
  .rintro⟨h1,h2⟩ k hk;by_cases e:k=n
   .subst e;exact h2
   .exact h1 k (by omega)
  .exact λh=>⟨λk hk=>h k (by omega),h n (by omega)⟩
theorem aJ5{g:Int->Bool}{n:Int}: rG jP g false n=false↔∀k:Int,0<=k->k<n->g k=false:=by
 unfold rG;rw[aJ4];constructor
 .intro h k h0 h1;have:=h k.toNat (by omega)
  rwa [vC h0]at this
 .exact λh k hk=>h k (by omega) (by omega)
theorem aDy{row:List Int}: aBH row=false↔∀k:Int,0<=k->k<row.length->aDs (at1 row k)=true:=by
 unfold aBH;rw[aJ5];simp[aAn]
structure Sq (n:Nat) (m:List (List Int)):Prop where
 len:m.length=n
 row:∀i:Int,0<=i->i<n->(m.getD i.toNat []).length=n
theorem Sq.aDn {n:Nat} {m:List (List Int)} (h:Sq n m) {i j:Int} (h0:0<=i) (h1:i<n) (h2:0<=j) (h3:j<n):aDn i j m:=
 ⟨h0,by rw[h.len];exact h1,h2,by rw[h.row i h0 h1];exact h3⟩
theorem aMe{m:List (List Int)}(h:aO m=true): Sq m.length m/\m.length<=40/\∀i j:Int,0<=i->i<m.length->0<=j->j<m.length->aDs (at2 m i j)=true:=by
 unfold aO at h;simp only[qC,zJ,wF]at h;obtain⟨h1,h2⟩:=h;have hrow:∀i:Int,0<=i->i<m.length->aBK m (m.getD i.toNat [])=false:=by
  intro i h0 hi;have hlt:i.toNat<m.length:=by omega
  rw[qBm]at h2;rw[qA,qB hlt];simpa using h2 _ (wH hlt)
 have hr2:∀i:Int,0<=i->i<m.length->(m.getD i.toNat []).length=m.length/\aBH (m.getD i.toNat [])=false:=by
  intro i h0 hi;have:=hrow i h0 hi;unfold aBK at this;simp only[qAz,wF,ne_eq,qBn]at this;exact⟨by have:=this.1;omega,this.2⟩
 refine⟨⟨rfl,λi h0 hi=>(hr2 i h0 hi).1⟩,by omega,λi j h0 hi h3 hj=>?_⟩
 obtain⟨g1,g2⟩:=hr2 i h0 hi;exact aDy.1 g2 j h3 (by rw[g1];exact hj)
theorem aDv(g:Int->Int->Int)(n:Nat)(i:Int)(h0:0<=i)(hi:i<n): (bI g n).getD i.toNat []=(List.range n).map λj:Nat=>g i j:=by
 unfold bI;simp only[vO];rw[qA,qP,vX (by omega)]
 simp[vC h0]
theorem aFZ(g:Int->Int->Int)(n:Nat): Sq n (bI g n):=⟨by simp[bI],λi h0 hi=>by rw[aDv g n i h0 hi];simp⟩
theorem aC0(g:Int->Int->Int)(n:Nat)(i j:Int)(h0:0<=i)(hi:i<n)(h1:0<=j)(hj:j<n): at2 (bI g n) i j=g i j:=by
 unfold at2;rw[aDv g n i h0 hi,qA,qP,vX (by omega)]
 simp[vC h1]
theorem KS6: aI Tryz.prog G0 K6:=by
 intro f args m c h;unfold K6 at h;split at h
 .cases h;exact aUO _
 .exact KS5 _ _ _ _ h
theorem aHw(m:List (List Int))(k:Nat): Sq m.length (rQ m k):=by
 cases k<;>exact aFZ _ _
def bd(k:Nat): Int:=((1099511627776*2 ^ k:Nat):Int)
theorem bDC(k:Nat): 1099511627776<=bd k:=by
 unfold bd;have:1<=2 ^ k:=Nat.one_le_two_pow;omega
theorem bAi(k:Nat): bd (k+1)=2*bd k:=by
 unfold bd;rw[Nat.pow_succ];omega
theorem aXp{k:Nat}(h:k<=20): bd k<=1152921504606846976:=by
 unfold bd;have:=Nat.pow_le_pow_right (n:=2) (by omega) h
 omega
theorem aU3{x y b:Int}(hb:1099511627776<=b)(hx:-b<=x/\x<=b)(hy:-b<=y/\y<=b): -b<=aAG x y/\aAG x y<=b:=by
 unfold aAG;cases nH x&&nH y
 .simp only[qBy];omega
 .simp only[qCj];omega
theorem aPJ{x y b:Int}(hb:1099511627776<=b)(hx:-b<=x/\x<=b)(hy:-b<=y/\y<=b): -(2*b)<=aAQ x y/\aAQ x y<=2*b:=by
 unfold aAQ;cases nH x||nH y
 .simp only[qBy];omega
 .simp only[qCj];omega
theorem aMG{c x:Int}(hc:-1099511627776<=c/\c<=0)(hx:aDs x=true): -1099511627776<=aAG c x/\aAG c x<=1099511627776:=by
 unfold aAG;cases h:nH x
 .simp only[aDs,h,xZ,qC,qE]at hx;simp only[xM,qBy];omega
 .simp only[nH,qE]at h;cases nH c&&true
  .simp only[qBy];omega
  .simp only[qCj];omega
theorem aBl{m:List (List Int)}(h:aO m=true): ∀(k:Nat),k<=m.length->∀i j:Int,0<=i->i<m.length->0<=j->j<m.length->-(bd k)<=at2 (rQ m k) i j/\at2 (rQ m k) i j<=bd k
 | 0,_,i,j,h0,hi,h1,hj=>by
  have e:=(aMe h).2.2 i j h0 hi h1 hj;show -(bd 0)<=at2 (bI (aD8 m) m.length) i j/\at2 (bI (aD8 m) m.length) i j<=bd 0;rw[aC0 _ _ _ _ h0 hi h1 hj];have e0:bd 0=1099511627776:=rfl;rw[e0];unfold aD8;cases decide (i=j)
  .exact aMG (c:=-1099511627776) (by omega) e
  .exact aMG (c:=0) (by omega) e
 | k+1,hk,i,j,h0,hi,h1,hj=>by
  show -(bd (k+1))<=at2 (bI (aEN (rQ m k) k) m.length) i j/\at2 (bI (aEN (rQ m k) k) m.length) i j<=bd (k+1);rw[aC0 _ _ _ _ h0 hi h1 hj,bAi];have hb:=bDC k;have g1:=aBl h k (by omega) i j h0 hi h1 hj
  have g2:=aBl h k (by omega) i k h0 hi (by omega) (by omega)
  have g3:=aBl h k (by omega) k j (by omega) (by omega) h1 hj
  exact aU3 (by omega) (by omega) (aPJ hb g2 g3)
theorem bDk{n:Nat}{m:List (List Int)}(h:Sq n m)(hn:n<=20): aXj m:=
 ⟨by rw[h.len];omega,λk h0 hk=>⟨h.aDn h0 (by rw[<- h.len];exact hk) h0 (by rw[<- h.len];exact hk),λ_=>trivial⟩⟩
theorem aNY{m:List (List Int)}(k:Nat)(hk:k<=m.length)(h:tK (rQ m k)=true): aEM m=true:=
 kD.2 ⟨k,vN.2 (by omega),h⟩
theorem bCy(m:List (List Int)): aB Tryz.prog G0 145 [.dat M m] [] ⟨aKS m,.tup [.dat M (aAE m),.dat I (aAF m)],[]⟩:=by
 refine aA (c:=c6) KS6 bD hm (aXM m ⟨rfl,λhp=>⟨trivial,λh=>?_,λh=>?_⟩⟩)
 .have h:aO m=false:=by simpa using h
  simp[aAE,aAF,aKT,h]
 .have h:aO m=true:=by simpa using h
  unfold aKS at hp;obtain⟨sq,_,el⟩:=aMe h;have sK:∀k:Nat,aXj (rQ m k):=λk=>bDk (aHw m k) hp
  have bad:∀k:Nat,k<=m.length->tK (rQ m k)=true->aAE m=[]/\(120:Int)=aAF m/\True:=λk hk hc=>by
   have:=aNY k hk hc;simp[aAE,aAF,aKT,h,this]
  refine⟨⟨by simp only[Df];omega,by simp only[Df];omega,λi j h0 hi h1 hj=>sq.aDn h0 hi h1 hj⟩,sK 0,bad 0 (by omega),λh0=>⟨⟨0,⟨by omega,by omega,h,λj hj=>?_⟩,?_⟩,λx hx=>⟨λhlt=>?_,λhge=>?_⟩⟩⟩
  .have:j=0:=by omega
   subst this;exact h0
  .simp only[zS,vP,qAn];rfl
  .have hlt:x<m.length:=by simpa using hlt
   obtain⟨g0,g1,g2,g3⟩:=hx;have ex:aCr m x=rQ m x.toNat:=rfl;have es:bI (aEN (aCr m x) x) (Df m)=rQ m (x.toNat+1):=by
    rw[ex];show bI (aEN (rQ m x.toNat) x) m.length=bI (aEN (rQ m x.toNat) (x.toNat:Int)) m.length;rw[vC g0]
   rw[es];simp only[zS,vP,qAn];refine⟨⟨by simp only[Df];omega,by simp only[Df];omega,λi j h0 hi h1 hj=>?_⟩,sK _,λhc=>by simpa using bad (x.toNat+1) (by omega) hc,λhc=>⟨by simp only[inR,Dq];omega,x+1,⟨by omega,by omega,h,λj hj=>?_⟩,⟨?_,rfl⟩,?_⟩⟩
   .rw[ex];have sN:=aHw m x.toNat;refine⟨sN.aDn h0 hi h1 hj,sN.aDn h0 hi g0 hlt,sN.aDn g0 hlt h1 hj,λ_ _=>?_⟩
    have b1:=aBl h x.toNat (by omega) i x h0 hi g0 hlt
    have b2:=aBl h x.toNat (by omega) x j g0 hlt h1 hj
    have b3:=aXp (k:=x.toNat) (by omega)
    simp only[inR];omega
   .by_cases e:(j:Int)<=x
    .exact g3 j e
    .have:j=x.toNat+1:=by omega
     rw[this];exact hc
   .show rQ m (x.toNat+1)=rQ m (x+1).toNat;rw[show(x+1).toNat=x.toNat+1 by omega]
   .simp only[Dw,Dc,Dh,Df];omega
  .have hge:¬x<m.length:=by simpa using hge
   obtain⟨g0,g1,g2,g3⟩:=hx;have hb:aEM m=false:=by
    unfold aEM;rw[qBm];intro k hk;have:=g3 k (by have:=vN.1 hk;omega)
    simp[this]
   have e:x.toNat=m.length:=by omega
   have:aKT m=(rQ m m.length,0):=by simp[aKT,h,hb]
   refine⟨?_,?_,trivial⟩
   .unfold aAE;rw[this];show rQ m x.toNat=_;rw[e]
   .unfold aAF;rw[this]
end Go.Eng.Mp
set_option maxRecDepth 100000
noncomputable section
namespace Go.Eng.Sv
open Go.Proofs
def aIH(z:Int)(w:List Bool)(h:List Int)(a b:Int): Prop:=aO z w h=true/\dK a=true/\dK b=true
def aDz(w:List Bool)(h:List Int)(a b:Int): List Int:=nP w h a (b-a+1)
def aJL(n:Net)(line:Int): Prop:=noF n=true/\0<=line/\line<n.2.2.2.2.1.length
def bJ(n:Net)(line:Int): Line:=n.2.2.2.2.1.getD line.toNat (⟨#[]⟩,0,0,0,0,0)
def aIw(n:Net)(line:Int): Int×List Bool×List Int:=n.1.getD (n.2.2.2.1.getD (bJ n line).2.1.toNat (⟨#[]⟩,0,0,0,0,0,[])).2.2.1.toNat (0,[],[])
def mJ(n:Net)(line:Int)(ts:List Int): Bool:=jT line n.2.2.2.2.1.length&&ts.all jF&&bZ n
def aHs(ts:List Int)(k:Int): Prop:=0<=k/\k<=ts.length/\(ts.take k.toNat).all jF=true
def aOB(ts:List Int): Prop:=ts.length<=1000000
def aDX(n:Net)(line time:Int): Prop:=aJL n line/\0<=time/\time<=2000000
def oP(n:Net)(line d:Int): Int:=iK (aIw n line).1 d (bJ n line).2.2.2.1
def aGz(n:Net)(line time:Int): List Int:=aDz (aIw n line).2.1 (aIw n line).2.2 (pJ (aIw n line).1 time) (pJ (aIw n line).1 time+60)
def oC(n:Net)(line time:Int): Option Int:=(((aGz n line time).map (oP n line)).find? λt=>decide (time<=t)).bind λt=>if t<time+86400 then some t else none
def aBP(n:Net)(line time:Int): Int:=(oC n line time).getD 0
def aBQ(n:Net)(line time:Int): Bool:=(oC n line time).isSome
def firstTo(n:Net)(line time:Int)(k:Nat): Prop:=k<=(aGz n line time).length/\((aGz n line time).take k).all (λd=>decide (oP n line d<time))=true
def KT5: Kt:=kOr 286 (aP [.row C,.val I] (λ(c,d,_)=>aO c.1 c.2.1 c.2.2=true/\dK d=true) λ(c,d,_)=>.dat .bool (bV c.2.1 c.2.2 d)) KT4
def aYj(ts:List Int): Ann:=⟨λid s=>match id with
 | 4=>some {α:=Int,inv:=λk=>aHs ts k,st:=λk=>put s [(20,.dat I k)],μ:=λk=>Dc (Dh (Df ts) k)}
 | _=>none,λ_ _=>none,λ_ _=>none⟩
theorem aPd(line:Int)(ts:List Int)(cs:LC)(ns os:LB)(fs:List Off)(ls:List Line)(ks:List Cla)(hvc:
 let c1:=Dp line 0;let c2:=Dk c1;let c3:=Ec c1 true (Ed line (Df ls));let c4:=(cs,ns,os,fs,ls,ks);let c5:=mJ c4 line ts;true/\(aOB ts->(c2->c2->c2)/\(c2->c2->c2)/\(c2->c2->c2)/\(c2->c2->c2)/\(Di true c2->c2)/\(c3->false=c5/\True)/\(c3=false->(∃x,aHs ts x/\c4=c4/\ts=ts/\Df ts=Df ts/\0=x/\True)/\∀(x:Int),let c6:=Dp x (Df ts);let c7:=Du ts (Dc x) 0;let c8:=Dp c7 0;let c9:=Dk c8;let c10:=Ec c8 true (Ei c7 2000000);let c11:=x+1;aHs ts x->(c6->0<=x/\x<Df ts/\(c9->c9->c9)/\(Di true c9->c9)/\(c10->false=c5/\True)/\(c10=false->inR IntKind.i64 c11/\∃y,aHs ts y/\(c4=c4/\ts=ts/\Df ts=Df ts/\c11=y/\True)/\Dc (Df ts-y)<Dc (Df ts-x)))/\(c6=false->True/\Ea (Df (mD c4)) 0=c5/\True)))):
  evF (mkc KT5) (lvA [(4,[3,6,8,18,19,20])] (aYj ts)) 209 [net cs ns os fs ls ks,.dat I line,.dat R ts] [] ⟨aOB ts,.dat .bool (mJ (cs,ns,os,fs,ls,ks) line ts),[]⟩:=@of_eq _ _ (by kernel_rfl) hvc
theorem aTT(line:Int)(cs:LC)(ns os:LB)(fs:List Off)(ls:List Line)(ks:List Cla)(hvc:
 let c1:=(cs,ns,os,fs,ls,ks);let c2:=(Du ls (Dc line) (ByteArray.mk #[],(0:Int),(0:Int),(0:Int),(0:Int),(0:Int))).2.1;let c3:=(Du fs (Dc c2) (ByteArray.mk #[],(0:Int),(0:Int),(0:Int),(0:Int),(0:Int),Dt ByteArray)).2.2.1;let c4:=Du cs (Dc c3) ((0:Int),Dt Bool,Dt Int);let c5:=aIw c1 line;true/\(aJL c1 line->0<=line/\line<Df ls/\0<=c2/\c2<Df fs/\0<=c3/\c3<Df cs/\1=1/\0=0/\1=1/\0=0/\c4.1=c5.1/\c4.2.1=c5.2.1/\c4.2.2=c5.2.2/\True)):
  evF (mkc KT5) aQ 256 [net cs ns os fs ls ks,.dat I line] [] ⟨aJL (cs,ns,os,fs,ls,ks) line,cal (aIw (cs,ns,os,fs,ls,ks) line).1 (aIw (cs,ns,os,fs,ls,ks) line).2.1 (aIw (cs,ns,os,fs,ls,ks) line).2.2,[]⟩:=@of_eq _ _ (by kernel_rfl) hvc
theorem aKJ(z a b:Int)(w:List Bool)(h:List Int)(hvc:
 let c1:=(z,w,h);true/\(True->a=a/\b=b/\c1=c1/\True)):
  evF (mkc KT5) aQ 257 [cal z w h,.dat I a,.dat I b] [] ⟨True,.fn 285 [.ip I a,.ip I b,.ip C (z,w,h)],[]⟩:=@of_eq _ _ (by kernel_rfl) hvc
def aWC(w:List Bool)(h:List Int)(a b:Int): aL9:=⟨λid y=>match id with
 | 1=>some {α:=Int,inv:=λd=>aBa a (Dq (Dh b a) 1) d,st:=λd=>⟨put y.s [(5,.dat I d)],aAJ w h a d,true⟩,μ:=λd=>Dc (Dh (Dq b 1) d)}
 | _=>none,λ_ _=>none,λid=>id==3⟩
theorem aS6(z a b:Int)(w:List Bool)(h:List Int)(hvc:
 let c1:=(z,w,h);let c2:=aDz w h a b;let c3:=Dj c2;let c4:=b+1;true/\true/\true/\false=false/\∀(l:Nat),aIH z w h a b->(∃x,aBa a ((b-a)+1) x/\(l=l/\a=a/\b=b/\c1=c1/\a=x/\a=a/\True)/\0=aAJ w h a x/\true)/\∀(x:Int),let c5:=(b-a)+1;let c6:=aAJ w h a x;let c7:=c6+(1);let c8:=x+1;let c9:=Ec (bV w h x) (Dk false) false;aBa a c5 x->(Eh x b->(aO z w h/\dK x)/\(bV w h x->(bV w h x->bV w h x)/\(bV w h x->bV w h x)/\l=l/\true/\aA7 c2 c6 x/\∀(b_1:Bool),let c10:=Ec (bV w h x) (Dk b_1) false;(Di true (bV w h x)->bV w h x)/\(c10->b_1->c7=c3)/\(c10=false->inR IntKind.i64 c8/\∃y,aBa a c5 y/\((l=l/\a=a/\b=b/\c1=c1/\c8=y/\a=a/\True)/\c7=aAJ w h a y/\b_1)/\Dc (c4-y)<Dc (c4-x)))/\(bV w h x=false->(bV w h x->bV w h x->bV w h x)/\(Di true (bV w h x)->bV w h x)/\(c9->true->c6=c3)/\(c9=false->inR IntKind.i64 c8/\∃y,aBa a c5 y/\((l=l/\a=a/\b=b/\c1=c1/\c8=y/\a=a/\True)/\c6=aAJ w h a y/\true)/\Dc (c4-y)<Dc (c4-x))))/\(Eh x b=false->true->c6=c3)):
  evI (mkc KT5) (aWC w h a b) 285 [.ip I a,.ip I b,.ip C (z,w,h)] ⟨aIH z w h a b,I,aDz w h a b⟩:=@of_eq _ _ (by kernel_rfl) hvc
def KT6: Kt:=kOr 256 (aP [.row N,.val I] (λ(n,l,_)=>aJL n l) λ(n,l,_)=>cal (aIw n l).1 (aIw n l).2.1 (aIw n l).2.2) <|
 kOr 257 (aP [.row C,.val I,.val I] (λ_=>True) λ(c,a,b,_)=>.fn 285 [.ip I a,.ip I b,.ip C (c.1,c.2.1,c.2.2)]) <|
 kOr 209 (aP [.row N,.val I,.val R] (λ(_,_,ts,_)=>aOB ts) λ(n,l,ts,_)=>.dat .bool (mJ n l ts)) KT5
def bGt: FuncId->List AV->Option sV:=λf caps=>match f,caps with
 | 285,[.ip (.int .i64) a,.ip (.int .i64) b,.ip (.pair (.int .i64) (.pair (.sl .bool) (.sl (.int .i64)))) c]=>some ⟨aIH c.1 c.2.1 c.2.2 a b,I,aDz c.2.1 c.2.2 a b⟩
 | _,_=>none
noncomputable def mkr(K:Kt)(mb:Tmp->Bool): Cfg:=⟨Tryz.prog,G0,K,mb,bGt,true,λ_ _ _=>none,λ_=>false⟩
def bDe(n:Net)(line time:Int): Ann:=⟨λid s=>match id with
 | 4=>some {α:=Nat,inv:=λk=>firstTo n line time k,st:=λ_=>flat s,μ:=λk=>k}
 | _=>none,λ_ _=>none,λ_ _=>none⟩
theorem aTJ(line time:Int)(cs:LC)(ns os:LB)(fs:List Off)(ls:List Line)(ks:List Cla)(hvc:
 let c1:=(cs,ns,os,fs,ls,ks);let c2:=aIw c1 line;let c3:=c2.1;let c4:=c2.2;let c5:=c4.1;let c6:=c4.2;let c7:=pJ c3 time;let c8:=c7+60;let c9:=aRc c3 time;let c10:=(c3,c5,c6);let c11:=aDz c5 c6 c7 c8;let c12:=(Du ls (Dc line) (ByteArray.mk #[],(0:Int),(0:Int),(0:Int),(0:Int),(0:Int))).2.2.2.1;let c13:=time+86400;let c14:=aBP c1 line time;let c15:=aBQ c1 line time;true/\(aDX c1 line time->aJL c1 line/\1=1/\0=0/\1=1/\0=0/\oG c3 c5 c6 time/\1=1/\0=0/\inR IntKind.i64 c8/\True/\aIH c3 c5 c6 c7 c8/\(∃x,firstTo c1 line time x/\x=0/\cs=cs/\ns=ns/\os=os/\fs=fs/\ls=ls/\ks=ks/\line=line/\time=time/\c1=c1/\line=line/\time=time/\1=1/\0=0/\0=0/\1=1/\0=0/\0=0/\1=1/\0=0/\0=0/\c7=c7/\c9=c9/\cs=cs/\ns=ns/\os=os/\fs=fs/\ls=ls/\ks=ks/\line=line/\c3=c3/\c5=c5/\c6=c6/\c7=c7/\c9=c9/\c3=c3/\c5=c5/\c6=c6/\time=time/\c7=c7/\c9=c9/\c7=c7/\c9=c9/\c3=c3/\c5=c5/\c6=c6/\c7=c7/\c7=c7/\c8=c8/\c7=c7/\c8=c8/\c10=c10/\(0:Int)=(0:Int)/\false=false/\c3=c3/\c5=c5/\c6=c6/\True)/\(∀(x:Nat) (y:Int),let c16:=Dp (iK c3 y c12) time;let c17:=Ed (iK c3 y c12) c13;
 firstTo c1 line time x->aA7 c11 x y->1=1/\0=0/\0<=line/\line<Df ls/\oO c3 c5 c6 y c12/\(c16->∃z,firstTo c1 line time z/\z=x+(1)/\cs=cs/\ns=ns/\os=os/\fs=fs/\ls=ls/\ks=ks/\line=line/\time=time/\c1=c1/\line=line/\time=time/\1=1/\0=0/\0=0/\1=1/\0=0/\0=0/\1=1/\0=0/\0=0/\c7=c7/\c9=c9/\cs=cs/\ns=ns/\os=os/\fs=fs/\ls=ls/\ks=ks/\line=line/\c3=c3/\c5=c5/\c6=c6/\c7=c7/\c9=c9/\c3=c3/\c5=c5/\c6=c6/\time=time/\c7=c7/\c9=c9/\c7=c7/\c9=c9/\c3=c3/\c5=c5/\c6=c6/\c7=c7/\c7=c7/\c8=c8/\c7=c7/\c8=c8/\c10=c10/\(0:Int)=(0:Int)/\false=false/\c3=c3/\c5=c5/\c6=c6/\True)/\(c16=false->inR IntKind.i64 c13/\(c17->1=1/\0=0/\1=1/\0=0/\1=1/\0=0/\1=1/\0=0/\0=c14/\false=c15/\True)/\(c17=false->1=1/\0=0/\1=1/\0=0/\1=1/\0=0/\1=1/\0=0/\iK c3 y c12=c14/\true=c15/\True)))/\∀(x:Nat),firstTo c1 line time x->x=Dj c11->1=1/\0=0/\1=1/\0=0/\1=1/\0=0/\1=1/\0=0/\0=c14/\false=c15/\True)):
  evF (mkr KT6 λ_=>false) (bDe (cs,ns,os,fs,ls,ks) line time) 210 [net cs ns os fs ls ks,.dat I line,.dat I time] [] ⟨aDX (cs,ns,os,fs,ls,ks) line time,.tup [.dat I (aBP (cs,ns,os,fs,ls,ks) line time),.dat .bool (aBQ (cs,ns,os,fs,ls,ks) line time)],[]⟩:=@of_eq _ _ (by kernel_rfl) hvc
def KT7: Kt:=kOr 210 (aP [.row N,.val I,.val I] (λ(n,l,t,_)=>aDX n l t) λ(n,l,t,_)=>.tup [.dat I (aBP n l t),.dat .bool (aBQ n l t)]) KT6
theorem bDF: aI Tryz.prog G0 KT5:=aH (aC λ((z,w,h),d,_)=>bCH z w h d) bDG
theorem aSc(cs:LC)(ns os:LB)(fs:List Off)(ls:List Line)(ks:List Cla){line:Int}(h:aJL (cs,ns,os,fs,ls,ks) line): aO (aIw (cs,ns,os,fs,ls,ks) line).1 (aIw (cs,ns,os,fs,ls,ks) line).2.1 (aIw (cs,ns,os,fs,ls,ks) line).2.2=true/\0<=(bJ (cs,ns,os,fs,ls,ks) line).2.1/\(bJ (cs,ns,os,fs,ls,ks) line).2.1<fs.length/\
  0<=(fs.getD (bJ (cs,ns,os,fs,ls,ks) line).2.1.toNat (⟨#[]⟩,0,0,0,0,0,[])).2.2.1/\(fs.getD (bJ (cs,ns,os,fs,ls,ks) line).2.1.toNat (⟨#[]⟩,0,0,0,0,0,[])).2.2.1<cs.length/\0<=(bJ (cs,ns,os,fs,ls,ks) line).2.2.2.1/\(bJ (cs,ns,os,fs,ls,ks) line).2.2.2.1<=1439:=by
 obtain⟨hno,l0,l1⟩:=h;have l1:line<ls.length:=l1;have hl:bJ (cs,ns,os,fs,ls,ks) line∈ls:=by
  unfold bJ;show ls.getD line.toNat _∈ls;rw[qA,qB (by omega),qQ]
  exact wH _
 obtain⟨g1,g2,g3,g4,g5,g6,_⟩:=sH ((aA1 cs ns os fs ls ks hno).2.2.2 _ hl);have f0:0<=(bJ (cs,ns,os,fs,ls,ks) line).2.1:=g1;have f1:(bJ (cs,ns,os,fs,ls,ks) line).2.1<fs.length:=g2;have ho:fs.getD (bJ (cs,ns,os,fs,ls,ks) line).2.1.toNat (⟨#[]⟩,0,0,0,0,0,[])∈fs:=by
  rw[qA,qB (by omega),qQ]
  exact wH _
 have gc:=(pG cs ns os fs ls ks hno).2.2.2 _ ho;unfold iZ jT at gc;simp only[qC,qE]at gc;have gc:0<=(fs.getD (bJ (cs,ns,os,fs,ls,ks) line).2.1.toNat (⟨#[]⟩,0,0,0,0,0,[])).2.2.1/\(fs.getD (bJ (cs,ns,os,fs,ls,ks) line).2.1.toNat (⟨#[]⟩,0,0,0,0,0,[])).2.2.1<(cs.length:Int):=gc.1.1.1.1.1.2;have hc:=((aEn (by decide)).1 (rZ cs ns os fs ls ks hno).2.1).2.2.2
 have hcl:(aU cs ns).length=cs.length:=by unfold aU;simp
 have:=hc (fs.getD (bJ (cs,ns,os,fs,ls,ks) line).2.1.toNat (⟨#[]⟩,0,0,0,0,0,[])).2.2.1.toNat (by omega)
 unfold dH at this;rw[aBt (λc:Int×List Bool×List Int=>aO c.1 c.2.1 c.2.2) cs _ (0,[],[]) false (by omega)]at this
 exact⟨this,f0,f1,gc.1,gc.2,g6.1,g6.2⟩
theorem aY3(line:Int)(cs:LC)(ns os:LB)(fs:List Off)(ls:List Line)(ks:List Cla): aB Tryz.prog G0 256 [net cs ns os fs ls ks,.dat I line] [] ⟨aJL (cs,ns,os,fs,ls,ks) line,cal (aIw (cs,ns,os,fs,ls,ks) line).1 (aIw (cs,ns,os,fs,ls,ks) line).2.1 (aIw (cs,ns,os,fs,ls,ks) line).2.2,[]⟩:=by
 refine aA (c:=mkc KT5) bDF bD hm (aTT line cs ns os fs ls ks ⟨rfl,λhp=>?_⟩)
 obtain⟨_,h1,h2,h3,h4,_⟩:=aSc cs ns os fs ls ks hp;exact⟨hp.2.1,hp.2.2,h1,h2,h3,h4,rfl,rfl,rfl,rfl,rfl,rfl,rfl,trivial⟩
theorem aNU(z a b:Int)(w:List Bool)(h:List Int): aB Tryz.prog G0 257 [cal z w h,.dat I a,.dat I b] [] ⟨True,.fn 285 [.ip I a,.ip I b,.ip C (z,w,h)],[]⟩:=
 aA (c:=mkc KT5) bDF bD hm (aKJ z a b w h ⟨rfl,λ_=>⟨rfl,rfl,rfl,trivial⟩⟩)
theorem aGA{t:Int}: jF t=true↔¬t<0/\¬t>2000000:=by unfold jF;rw[qE];omega
theorem aUd(line:Int)(ts:List Int)(cs:LC)(ns os:LB)(fs:List Off)(ls:List Line)(ks:List Cla): aB Tryz.prog G0 209 [net cs ns os fs ls ks,.dat I line,.dat R ts] [] ⟨aOB ts,.dat .bool (mJ (cs,ns,os,fs,ls,ks) line ts),[]⟩:=by
 refine aA (c:=mkc KT5) bDF bD hm (aPd line ts cs ns os fs ls ks ⟨rfl,λhp=>?_⟩)
 simp only[qc,Di,Es,Dk,qd,Dt,Ea,Eb,Dp,Ei,Eh,Ed,Ew,Df,Et,Dl,Dn,Eo,Dy,Dw,Dh,Dq,Ee,Fg,Dc,Dx,Dj,Dz,Ej,Du,Eu,Ez,En,Ef,Fe,Fj,Fh,Ep,Em,Ey,Fb];have hp':ts.length<=1000000:=hp;refine⟨λh=>?_,λ⟨h1,h2⟩=>⟨⟨qL _,qR _,rfl⟩,λk ⟨k0,k1,k2⟩=>⟨λhk=>?_,λhk=>?_⟩⟩⟩
 .unfold mJ;have:jT line (ls.length:Nat)=false:=by unfold jT;exact vG (by omega)
  show false=(jT line (ls.length:Nat)&&_&&_);rw[this];rfl
 .have hg:ts.getD k.toNat 0=ts[k.toNat]:=by rw[qA,qB (by omega),qQ]
  refine⟨k0,hk,λh=>?_,λh=>⟨dJ (by omega),k+1,⟨by omega,by omega,?_⟩,rfl,by omega⟩⟩
  .have hn:ts.all jF=false:=by
    rw[qCt];refine⟨ts[k.toNat],wH _,λg=>?_⟩
    rw[<- hg,aGA]at g;omega
   unfold mJ;rw[hn,xM];rfl
  .rw[show(k+1).toNat=k.toNat+1 by omega,wV,qB (by omega),qAk,kX,k2,<- hg]
   show(true&&(jF _&&true))=true;rw[aGA.2 h];rfl
 .have e1:jT line (ls.length:Nat)=true:=by unfold jT;exact qW (by omega)
  have e2:ts.all jF=true:=by
   rw[qO (by omega)]at k2;exact k2
  unfold mJ bZ;show _=(jT line (ls.length:Nat)&&ts.all jF&&_);rw[e1,e2];cases mD (cs,ns,os,fs,ls,ks)with
  | nil=>rfl
  | cons a l=>
   show decide _=false;rw[wF];show ¬((((a::l).length:Nat):Int)=0);rw[wW];omega
theorem lY{d:Int}: dK d=true↔-1000000<=d/\d<=1000000:=by unfold dK;rw[qE]
theorem aYs(a b:Int)(c:C.den): aBG Tryz.prog G0 285 [.ip I a,.ip I b,.ip C c] ⟨aIH c.1 c.2.1 c.2.2 a b,I,aDz c.2.1 c.2.2 a b⟩:=by
 obtain⟨z,w,h⟩:=c;refine uO (c:=mkc KT5) (A:=aWC w h a b) bDF bD hm ?_;refine aS6 z a b w h ⟨rfl,rfl,rfl,rfl,λl ⟨hv,ha,hb⟩=>?_⟩
 simp only[qc,Di,Es,Dk,qd,Dt,Ea,Eb,Dp,Ei,Eh,Ed,Ew,Df,Et,Dl,Dn,Eo,Dy,Dw,Dh,Dq,Ee,Fg,Dc,Dx,Dj,Dz,Ej,Du,Eu,Ez,En,Ef,Fe,Fj,Fh,Ep,Em,Ey,Fb];have ha':=lY.1 ha;have hb':=lY.1 hb;refine⟨⟨a,⟨qL _,.inr rfl⟩,rfl,(aNg w h a).symm⟩,λx hx=>?_⟩
 have hx1:=hx.1;have hx2:=hx.2;refine⟨λhle=>⟨⟨hv,lY.2 (by omega)⟩,λhw=>⟨aSp hx1 (by omega) hw,λs=>⟨λg1 g2=>(by rw[g1.2]at g2;cases g2),λg=>⟨dJ (by omega),x+1,⟨by omega,.inl (by omega)⟩,⟨rfl,?_,g hw⟩,by omega⟩⟩⟩,λhw=>⟨λg=>(by rw[hw]at g;cases g),λ_=>⟨dJ (by omega),x+1,⟨by omega,.inl (by omega)⟩,⟨rfl,?_⟩,by omega⟩⟩⟩,λhge=>?_⟩
 .rw[aEr hx1,hw];rfl
 .rw[aEr hx1,hw];rfl
 .exact cnt_end (n:=b-a+1) hx (by omega)
theorem bGT: aI Tryz.prog G0 KT6:=aH (aC λ((cs,ns,os,fs,ls,ks),l,_)=>aY3 l cs ns os fs ls ks)<|aH (aC λ((z,w,h),a,b,_)=>aNU z a b w h)<|aH (aC λ((cs,ns,os,fs,ls,ks),l,ts,_)=>aUd l ts cs ns os fs ls ks) bDF
theorem bDS: dI Tryz.prog G0 bGt:=by
 intro f caps c h;unfold bGt at h;split at h
 .cases h;exact aYs _ _ _
 .cases h
theorem aLL{f:Int->Int}{time y:Int}(hy:¬f y<time): ∀{L:List Int} {x:Nat},L[x]?=some y->(L.take x).all (λd=>decide (f d<time))=true->(L.map f).find? (λt=>decide (time<=t))=some (f y)
 | [],x,h,_=>by simp at h
 | a::L,0,h,_=>by
  have:a=y:=by simpa using h
  subst this;rw[zG,qBe,qW (show time<=f a by omega)]
 | a::L,x+1,h,g=>by
  rw[List.take_succ_cons,qAi,qC,qE]at g;rw[zG,qBe,vG (show ¬time<=f a by omega)]
  exact aLL hy (by simpa using h) g.2
theorem aRM{f:Int->Int}{time:Int}: ∀{L:List Int},L.all (λd=>decide (f d<time))=true->(L.map f).find? (λt=>decide (time<=t))=none
 | [],_=>rfl
 | a::L,g=>by
  rw[qAi,qC,qE]at g;rw[zG,qBe,vG (show ¬time<=f a by omega)]
  exact aRM g.2
theorem aNt{w:List Bool}{h:List Int}{a b y:Int}(hy:y∈aDz w h a b): a<=y/\y<=b/\bV w h y=true:=by
 unfold aDz nP at hy;rw[xR]at hy;obtain⟨hy,hw⟩:=hy;obtain⟨i,hi,rfl⟩:=wO.1 hy;have:=vN.1 hi;exact⟨by omega,by omega,hw⟩
theorem aT5{z:Int}{w:List Bool}{h:List Int}{t:Int}(hv:aO z w h=true)(t0:0<=t)(t1:t<=2000000): -2<=pJ z t/\pJ z t<=2000:=by
 obtain⟨⟨v1,v2,_⟩,_⟩:=fQ.1 hv;unfold pJ;omega
theorem aYV(line time:Int)(cs:LC)(ns os:LB)(fs:List Off)(ls:List Line)(ks:List Cla): aB Tryz.prog G0 210 [net cs ns os fs ls ks,.dat I line,.dat I time] [] ⟨aDX (cs,ns,os,fs,ls,ks) line time,.tup [.dat I (aBP (cs,ns,os,fs,ls,ks) line time),.dat .bool (aBQ (cs,ns,os,fs,ls,ks) line time)],[]⟩:=by
 refine aA (c:=mkr KT6 λ_=>false) bGT bDS hm (aTJ line time cs ns os fs ls ks ⟨rfl,λhp=>?_⟩)
 simp only[qc,Di,Es,Dk,qd,Dt,Ea,Eb,Dp,Ei,Eh,Ed,Ew,Df,Et,Dl,Dn,Eo,Dy,Dw,Dh,Dq,Ee,Fg,Dc,Dx,Dj,Dz,Ej,Du,Eu,Ez,En,Ef,Fe,Fj,Fh,Ep,Em,Ey,Fb];obtain⟨hl,t0,t1⟩:=hp;obtain⟨hv,_,_,_,_,m0,m1⟩:=aSc cs ns os fs ls ks hl;obtain⟨d0,d1⟩:=aT5 hv t0 t1;refine⟨hl,⟨hv,by omega,by omega⟩,dJ (by omega),⟨hv,lY.2 (by omega),lY.2 (by omega)⟩,⟨wX _,rfl⟩,λx y hx hy=>?_,λx hx hl=>?_⟩
 .have hy':(aGz (cs,ns,os,fs,ls,ks) line time)[x]?=some y:=hy;obtain⟨y0,y1,yw⟩:=aNt (zH hy);obtain⟨x1,x2⟩:=hx;refine⟨hl.2.1,hl.2.2,⟨hv,lY.2 (by omega),m0,(by show(bJ (cs,ns,os,fs,ls,ks) line).2.2.2.1<1440;omega)⟩,λhlt=>⟨(qG.1 hy').1,?_⟩,λhge=>⟨dJ (by omega),λhfar=>?_,λhnear=>?_⟩⟩
  .rw[wV,hy',qAk,kX,x2];show(true&&(decide (oP (cs,ns,os,fs,ls,ks) line y<time)&&true))=true;rw[qW (show oP (cs,ns,os,fs,ls,ks) line y<time from hlt)];rfl
  .have hf:oC (cs,ns,os,fs,ls,ks) line time=none:=by
    unfold oC;rw[aLL (f:=oP (cs,ns,os,fs,ls,ks) line) hge hy' x2];show(if oP (cs,ns,os,fs,ls,ks) line y<time+86400 then some (oP (cs,ns,os,fs,ls,ks) line y)else none)=none
    rw[if_neg (show ¬oP (cs,ns,os,fs,ls,ks) line y<time+86400 from by have:oP (cs,ns,os,fs,ls,ks) line y≥time+86400:=hfar;omega)]
   unfold aBP aBQ;rw[hf];exact⟨rfl,rfl⟩
  .have hf:oC (cs,ns,os,fs,ls,ks) line time=some (oP (cs,ns,os,fs,ls,ks) line y):=by
    unfold oC;rw[aLL (f:=oP (cs,ns,os,fs,ls,ks) line) hge hy' x2];show(if oP (cs,ns,os,fs,ls,ks) line y<time+86400 then some (oP (cs,ns,os,fs,ls,ks) line y)else none)=_
    rw[if_pos (show oP (cs,ns,os,fs,ls,ks) line y<time+86400 from by have:¬oP (cs,ns,os,fs,ls,ks) line y≥time+86400:=hnear;omega)]
   unfold aBP aBQ;rw[hf];exact⟨rfl,rfl⟩
 .obtain⟨x1,x2⟩:=hx;have hx':x=(aGz (cs,ns,os,fs,ls,ks) line time).length:=hl;rw[hx',xG]at x2;have hf:oC (cs,ns,os,fs,ls,ks) line time=none:=by
   unfold oC;rw[aRM x2];rfl
  unfold aBP aBQ;rw[hf];exact⟨rfl,rfl⟩
theorem bHC: aI Tryz.prog G0 KT7:=aH (aC λ((cs,ns,os,fs,ls,ks),l,t,_)=>aYV l t cs ns os fs ls ks) bGT
end Go.Eng.Sv
set_option maxRecDepth 100000
noncomputable section
namespace Go.Eng.Sv
open Go.Proofs
def aEl(a b:Int): Int:=if a<b then b else a
def KT8: Kt:=KT7
theorem bBw(x:Int)(hvc:
 true/\(True->Eb x x=false/\True)):
  evF (mkc KT8) aQ 287 [.dat I x] [] ⟨True,.dat .bool false,[]⟩:=@of_eq _ _ (by kernel_rfl) hvc
def KT9: Kt:=kOr 287 (aP [.val I] (λ_=>True) λ_=>.dat .bool false) KT8
theorem aX0(x y:Int)(hvc:
 let c1:=Ec false (Dk false) false;let c2:=Dk c1;true/\(True->True/\(false->false->false)/\(false->True)/\(false->false->false)/\(Di true false->false)/\(c2->c2->c2)/\(c2->c2->c2)/\(Di true c2->c2)/\Ec c1 true (Dp x y)=Dp x y/\True)):
  evF (mkc KT9) aQ 258 [.dat I x,.dat I y] [] ⟨True,.dat .bool (Dp x y),[]⟩:=@of_eq _ _ (by kernel_rfl) hvc
def bEo: Kt:=kOr 258 (aP [.val I,.val I] (λ_=>True) λ(x,y,_)=>.dat .bool (Dp x y)) KT9
theorem aNK(x y:Int)(hvc:
 true/\(True->True/\(Dp x y->y=aEl x y/\True)/\(Dp x y=false->x=aEl x y/\True))):
  evF (mkc bEo) aQ 211 [.dat I x,.dat I y] [] ⟨True,.dat I (aEl x y),[]⟩:=@of_eq _ _ (by kernel_rfl) hvc
def bGO: Kt:=kOr 211 (aP [.val I,.val I] (λ_=>True) λ(x,y,_)=>.dat I (aEl x y)) bEo
theorem aAN(cs:LC)(ns os:LB)(fs:List Off)(ls:List Line)(ks:List Cla){line time:Int}{ts:List Int}(h:mJ (cs,ns,os,fs,ls,ks) line ts=true)(ht:time∈ts): aDX (cs,ns,os,fs,ls,ks) line time:=by
 unfold mJ at h;rw[qC,qC]at h;obtain⟨⟨h1,h2⟩,h3⟩:=h;have h1:=wM h1;have hs:=((aHf cs ns os fs ls ks).1 (wQ.1 h3)).1;have ht':=wM (qM.1 h2 time ht);exact⟨⟨hs,h1.1,h1.2⟩,ht'.1,ht'.2⟩
theorem bGS: aI Tryz.prog G0 KT8:=bHC
theorem bFe(x:Int): aB Tryz.prog G0 287 [.dat I x] [] ⟨True,.dat .bool false,[]⟩:=
 aA (c:=mkc KT8) bGS bD hm (bBw x ⟨rfl,λ_=>⟨by simp[Eb],trivial⟩⟩)
theorem bGR: aI Tryz.prog G0 KT9:=aH (aC λ(x,_)=>bFe x) bGS
theorem bCe(x y:Int): aB Tryz.prog G0 258 [.dat I x,.dat I y] [] ⟨True,.dat .bool (Dp x y),[]⟩:=by
 refine aA (c:=mkc KT9) bGR bD hm (aX0 x y ⟨rfl,λ_=>?_⟩)
 exact⟨trivial,λh=>(by cases h),λ_=>trivial,λh=>(by cases h),λh=>(by cases h),λh _=>h,λh _=>h,λh=>h,rfl,trivial⟩
theorem bDI: aI Tryz.prog G0 bEo:=aH (aC λ(x,y,_)=>bCe x y) bGR
theorem aP5(x y:Int): aB Tryz.prog G0 211 [.dat I x,.dat I y] [] ⟨True,.dat I (aEl x y),[]⟩:=by
 refine aA (c:=mkc bEo) bDI bD hm (aNK x y ⟨rfl,λ_=>⟨trivial,λh=>⟨?_,trivial⟩,λh=>⟨?_,trivial⟩⟩⟩)
 .unfold aEl;rw[if_pos (wM h)]
 .unfold aEl;rw[if_neg (qCi h)]
theorem bGb: aI Tryz.prog G0 bGO:=aH (aC λ(x,y,_)=>aP5 x y) bDI
end Go.Eng.Sv
set_option maxRecDepth 100000
noncomputable section
namespace Go.Eng.Sv
open Go.Proofs
def waitGo(n:Net)(line till:Int): Nat->Int->Int->Option Int
 | 0,_,m=>some m
 | k+1,t,m=>if t<till then(oC n line t).bind λu=>waitGo n line till k (u+1) (aEl m (u-t))else some m
def aII(n:Net)(line a b:Int): Option Int:=waitGo n line b (b-a).toNat a 0
def aCi(n:Net)(line a b:Int): Bool:=mJ n line [a,b]&&decide (a<b)&&decide (b<=a+86400)
def aC6(n:Net)(line a b:Int): Int:=if aCi n line a b then(aII n line a b).getD 0 else 0
def aD7(n:Net)(line a b:Int): Int:=if aCi n line a b then(if(aII n line a b).isSome then 0 else 20)else 1
def aMd(n:Net)(line a b m t:Int): Prop:=aCi n line a b=true/\a<=t/\t<=b+86400/\0<=m/\m<=86400/\waitGo n line b (b-t).toNat t m=aII n line a b
def bEn: Kt:=bGO
def bEB(n:Net)(line a b:Int): Ann:=⟨λid s=>match id with
 | 5=>some {α:=Int×Int,inv:=λx=>aMd n line a b x.1 x.2,st:=λx=>put s [(10,.dat I x.1),(11,.dat I x.2)],μ:=λx=>Dc (Dh b x.2)}
 | _=>none,λ_ _=>none,λ_ _=>none⟩
theorem aXH(line a b:Int)(cs:LC)(ns os:LB)(fs:List Off)(ls:List Line)(ks:List Cla)(hvc:
 let c1:=[a,b];let c2:=(cs,ns,os,fs,ls,ks);let c3:=Dk (mJ c2 line c1);let c4:=Dk c3;let c5:=Ec c3 true (Eh b a);let c6:=Dk c5;let c7:=a+86400;let c8:=Ec c5 true (Ei b c7);let c9:=aC6 c2 line a b;let c10:=aD7 c2 line a b;true/\(True->aOB c1/\(c4->c4->c4)/\(c4->c4->c4)/\(Di true c4->c4)/\(c6->c6->c6)/\(c6->inR IntKind.i64 c7)/\(c6->c6->c6)/\(c6->c6->c6)/\(Di true c6->c6)/\(c8->0=c9/\1=c10/\True)/\(c8=false->(∃(x:Int×Int),aMd c2 line a b x.1 x.2/\line=line/\b=b/\c2=c2/\0=x.1/\a=x.2/\True)/\∀(x:Int×Int),let c11:=Dp x.2 b;let c12:=Dk (aBQ c2 line x.2);let c13:=aBP c2 line x.2;let c14:=c13-x.2;let c15:=c13+1;aMd c2 line a b x.1 x.2->(c11->aDX c2 line x.2/\(c12->0=c9/\20=c10/\True)/\(c12=false->inR IntKind.i64 c14/\True/\inR IntKind.i64 c15/\∃(y:Int×Int),aMd c2 line a b y.1 y.2/\(line=line/\b=b/\c2=c2/\aEl x.1 c14=y.1/\c15=y.2/\True)/\Dc (b-y.2)<Dc (b-x.2)))/\(c11=false->x.1=c9/\0=c10/\True)))):
  evF (mkr bEn λ_=>false) (lvA [(5,[1,3,4,8,9,10,11,12,13])] (bEB (cs,ns,os,fs,ls,ks) line a b)) 143 [net cs ns os fs ls ks,.dat I line,.dat I a,.dat I b] [] ⟨True,.tup [.dat I (aC6 (cs,ns,os,fs,ls,ks) line a b),.dat I (aD7 (cs,ns,os,fs,ls,ks) line a b)],[]⟩:=@of_eq _ _ (by kernel_rfl) hvc
def bGN: Kt:=kOr 143 (aP [.row N,.val I,.val I,.val I] (λ_=>True) λ(n,l,a,b,_)=>.tup [.dat I (aC6 n l a b),.dat I (aD7 n l a b)]) bEn
theorem bDH: aI Tryz.prog G0 bEn:=bGb
theorem aGu(cs:LC)(ns os:LB)(fs:List Off)(ls:List Line)(ks:List Cla){line a b:Int}(h:mJ (cs,ns,os,fs,ls,ks) line [a,b]=true): aDX (cs,ns,os,fs,ls,ks) line a/\aDX (cs,ns,os,fs,ls,ks) line b:=
 ⟨aAN cs ns os fs ls ks h (by simp),aAN cs ns os fs ls ks h (by simp)⟩
theorem aA8{n:Net}{l t u:Int}(h:oC n l t=some u): t<=u/\u<t+86400:=by
 unfold oC at h;cases e:((aGz n l t).map (oP n l)).find? (λv=>decide (t<=v))with
 | none=>rw[e]at h;cases h
 | some v=>
  rw[e]at h;have h1:=wM (List.find?_some (p:=λv=>decide (t<=v)) e)
  have h:(if v<t+86400 then some v else none)=some u:=h
  split at h
  .cases h;exact⟨h1,by assumption⟩
  .cases h
theorem aEA{n:Net}{l b:Int}: ∀(k j:Nat) (t m:Int),(b-t).toNat<=k->(b-t).toNat<=j->waitGo n l b k t m=waitGo n l b j t m
 | 0,0,_,_,_,_=>rfl
 | 0,j+1,t,m,h,_=>by rw[waitGo,waitGo,if_neg (by omega)]
 | k+1,0,t,m,_,h=>by rw[waitGo,waitGo,if_neg (by omega)]
 | k+1,j+1,t,m,h1,h2=>by
  rw[waitGo,waitGo];by_cases g:t<b
  .rw[if_pos g,if_pos g];cases e:oC n l t with
   | none=>rfl
   | some u=>
    have:=aA8 e;exact aEA k j (u+1) _ (by omega) (by omega)
  .rw[if_neg g,if_neg g]
theorem bBZ(line a b:Int)(cs:LC)(ns os:LB)(fs:List Off)(ls:List Line)(ks:List Cla): aB Tryz.prog G0 143 [net cs ns os fs ls ks,.dat I line,.dat I a,.dat I b] [] ⟨True,.tup [.dat I (aC6 (cs,ns,os,fs,ls,ks) line a b),.dat I (aD7 (cs,ns,os,fs,ls,ks) line a b)],[]⟩:=by
 refine aA (c:=mkr bEn λ_=>false) bDH bDS hm (aXH line a b cs ns os fs ls ks ⟨rfl,λ_=>?_⟩)
 simp only[qc,Di,Es,Dk,qd,Dt,Ea,Eb,Dp,Ei,Eh,Ed,Ew,Df,Et,Dl,Dn,Eo,Dy,Dw,Dh,Dq,Ee,Fg,Dc,Dx,Dj,Dz,Ej,Du,Eu,Ez,En,Ef,Fe,Fj,Fh,Ep,Em,Ey,Fb];have h2:aOB [a,b]:=(by show(2:Nat)<=1000000;decide)
 refine⟨h2,λ⟨hu,_⟩=>?_,λh=>?_,λ⟨⟨hu,hab⟩,hb⟩=>?_⟩
 .obtain⟨⟨_,a0,a1⟩,_⟩:=aGu cs ns os fs ls ks hu;exact dJ (by omega)
 .have hn:aCi (cs,ns,os,fs,ls,ks) line a b=false:=by
   unfold aCi;rcases h with(h | h) | h
   .rw[h];rfl
   .rw[vG (show ¬a<b by omega),xM];rfl
   .rw[vG (show ¬b<=a+86400 by omega),xM]
  unfold aC6 aD7;rw[hn];exact⟨rfl,rfl⟩
 .obtain⟨⟨hl,a0,a1⟩,_,b0,b1⟩:=aGu cs ns os fs ls ks hu;have hok:aCi (cs,ns,os,fs,ls,ks) line a b=true:=by
   unfold aCi;rw[hu,qW (show a<b by omega),qW (show b<=a+86400 by omega)];rfl
  refine⟨⟨(0,a),⟨hok,qL _,(by show a<=b+86400;omega),qL _,(by show(0:Int)<=86400;omega),rfl⟩,rfl,rfl⟩,λx=>?_⟩
  obtain⟨m,t⟩:=x;simp only;rintro⟨_,t0,t1,m0,m1,hw⟩;refine⟨λht=>?_,λht=>?_⟩
  .have hk:(b-t).toNat=(b-t).toNat-1+1:=by omega
   rw[hk,waitGo,if_pos ht]at hw;refine⟨⟨hl,by omega,by omega⟩,λhf=>?_,λhf=>?_⟩
   .have e:oC (cs,ns,os,fs,ls,ks) line t=none:=by
     unfold aBQ at hf;cases e:oC (cs,ns,os,fs,ls,ks) line t with
     | none=>rfl
     | some u=>rw[e]at hf;cases hf
    rw[e]at hw;have hw:aII (cs,ns,os,fs,ls,ks) line a b=none:=hw.symm;unfold aC6 aD7;rw[hok,hw];exact⟨rfl,rfl⟩
   .obtain⟨u,e⟩:∃u,oC (cs,ns,os,fs,ls,ks) line t=some u:=by
     unfold aBQ at hf;cases e:oC (cs,ns,os,fs,ls,ks) line t with
     | none=>rw[e]at hf;cases hf
     | some u=>exact⟨u,rfl⟩
    obtain⟨u0,u1⟩:=aA8 e;have hd:aBP (cs,ns,os,fs,ls,ks) line t=u:=by unfold aBP;rw[e];rfl
    rw[e]at hw;have hw:waitGo (cs,ns,os,fs,ls,ks) line b ((b-t).toNat-1) (u+1) (aEl m (u-t))=aII (cs,ns,os,fs,ls,ks) line a b:=hw;have hmx:0<=aEl m (u-t)/\aEl m (u-t)<=86400:=by unfold aEl;split<;>omega
    rw[hd];refine⟨dJ (by omega),dJ (by omega),(aEl m (u-t),u+1),⟨hok,(by show a<=u+1;omega),(by show u+1<=b+86400;omega),hmx.1,hmx.2,?_⟩,⟨rfl,rfl⟩,(by show(b-(u+1)).toNat<_;omega)⟩
    rw[<- hw];exact aEA _ _ _ _ (qK _) (by show(b-(u+1)).toNat<=_;omega)
  .have hk:(b-t).toNat=0:=by omega
   rw[hk,waitGo]at hw;unfold aC6 aD7;rw[hok,<- hw];exact⟨rfl,rfl⟩
theorem bGa: aI Tryz.prog G0 bGN:=aH (aC λ((cs,ns,os,fs,ls,ks),l,a,b,_)=>bBZ l a b cs ns os fs ls ks) bDH
end Go.Eng.Sv
set_option maxRecDepth 100000
noncomputable section
namespace Go.Eng.Sv
open Go.Proofs
open Go.Eng.Mp (bI iG aEj eH upto at2 aDn aAE aAF aKS)
def aBF: Int:=-1099511627776
def bD4(a b:Int): Bool:=decide (0<=a)&&decide (a<b)&&decide (b<=2000000)&&decide (b<=a+86400)
def uF(n:Net)(a b:Int): Bool:=bD4 a b&&bZ n
def aQw(n:Net)(a b:Int): Prop:=uF n a b=true
def aFi(n:Net)(o:Int): Off:=n.2.2.2.1.getD o.toNat (⟨#[]⟩,0,0,0,0,0,[])
def aIp(n:Net)(a b i:Int): Int:=if aD7 n i a b=0 then aC6 n i a b+(bJ n i).2.2.2.2.1+(aFi n (bJ n i).2.2.1).2.2.2.2.1*(aFi n (bJ n i).2.2.1).2.2.2.2.2.1 else aBF
def nM(n:Net)(a b:Int): List Int:=(List.range n.2.2.2.2.1.length).map λi:Nat=>aIp n a b i
def oM(n:Net)(a b k:Int): List Int:=(nM n a b).take k.toNat++List.replicate (n.2.2.2.2.1.length-k.toNat) 0
def aKd(n:Net)(a b k:Int): Prop:=uF n a b=true/\0<=k/\k<=n.2.2.2.2.1.length
def nS(n:Net)(c:List Int): Prop:=bZ n=true/\c.length=n.2.2.2.2.1.length/\∀i:Int,0<=i->i<c.length->c.getD i.toNat 0=aBF\/(0<c.getD i.toNat 0/\c.getD i.toNat 0<=1000000)
def aLh(_ _:Int): Int:=aBF
def bCX(_ _:Int): Prop:=True
def uK(ls:List Line)(c:List Int): Nat->Int->Int->Int
 | 0,_,_=>aBF
 | k+1,o,d=>if c.getD k 0≠aBF/\(ls.getD k (⟨#[]⟩,0,0,0,0,0)).2.1=o/\(ls.getD k (⟨#[]⟩,0,0,0,0,0)).2.2.1=d then max (uK ls c k o d) (-(c.getD k 0))else uK ls c k o d
def bY(n:Net)(c:List Int)(k:Int): List (List Int):=bI (uK n.2.2.2.2.1 c k.toNat) n.2.2.2.1.length
def uM(n:Net)(c:List Int): List (List Int):=bY n c n.2.2.2.2.1.length
def aRd(n:Net)(c:List Int)(k:Int): Prop:=nS n c/\0<=k/\k<=n.2.2.2.2.1.length
def aSO(e:Int)(s:List (List Int))(o d:Int): Int:=if e=0 then(if at2 s o d=aBF then -1 else -(at2 s o d))else -1
def aL1(e:Int)(s:List (List Int))(o d:Int): Prop:=e=0->aDn o d s/\(at2 s o d=aBF\/(-1152921504606846976<=at2 s o d/\at2 s o d<=1152921504606846976))
def rM(n:Net)(c:List Int): List (List Int):=bI (aSO (aAF (uM n c)) (aAE (uM n c))) n.2.2.2.1.length
def aDT(n:Net)(c:List Int)(b:List (List Int))(o d i:Int): Bool:=decide ((bJ n i).2.1=o)&&decide (c.getD i.toNat 0≠aBF)&&decide (0<=at2 b (bJ n i).2.2.1 d)&&decide (c.getD i.toNat 0+at2 b (bJ n i).2.2.1 d=at2 b o d)
def aGq(n:Net)(c:List Int)(b:List (List Int))(o d:Int): Int:=match(List.range n.2.2.2.2.1.length).find? λi:Nat=>aDT n c b o d i with
 | some i=>i
 | none=>-1
def aSj(n:Net)(b:List (List Int)): Prop:=∀o d:Int,0<=o->o<n.2.2.2.1.length->0<=d->d<n.2.2.2.1.length->aDn o d b/\-1152921504606846976<=at2 b o d/\at2 b o d<=1152921504606846976
def aF2(n:Net)(c:List Int)(b:List (List Int))(o d:Int): Prop:=nS n c/\aSj n b/\0<=o/\o<n.2.2.2.1.length/\0<=d/\d<n.2.2.2.1.length
def aF1(n:Net)(c:List Int)(b:List (List Int))(o d k:Int): Prop:=aF2 n c b o d/\0<=k/\k<=n.2.2.2.2.1.length/\(List.range k.toNat).all (λi:Nat=>!aDT n c b o d i)=true
def aFo(n:Net)(c:List Int)(b:List (List Int))(o d:Int): Int:=if o=d\/at2 b o d<0 then -1 else aGq n c b o d
def bCZ(n:Net)(c:List Int): List (List Int):=bI (aFo n c (rM n c)) n.2.2.2.1.length
def aAW(n:Net)(a b:Int): List (List Int):=if uF n a b then bCZ n (nM n a b)else[]
def KQ0: Kt:=kOr 145 (aP [.val M] (λ(m,_)=>aKS m) λ(m,_)=>.tup [.dat M (aAE m),.dat I (aAF m)]) bGN
theorem aXN(a b:Int)(cs:LC)(ns os:LB)(fs:List Off)(ls:List Line)(ks:List Cla)(hvc:
 let c1:=Dp a 0;let c2:=Dk c1;let c3:=Ec c1 true (Eh b a);let c4:=Dk c3;let c5:=Ec c3 true (Ei b 2000000);let c6:=Dk c5;let c7:=Ec c5 true (Ei (b-a) 86400);let c8:=(cs,ns,os,fs,ls,ks);let c9:=uF c8 a b;true/\(True->(c2->c2->c2)/\(c2->c2->c2)/\(Di true c2->c2)/\(c4->c4->c4)/\(Di true c4->c4)/\(c6->c6->c6)/\(c6->c6->c6)/\(c6->inR IntKind.i64 (b-a))/\(c6->c6->c6)/\(Di true c6->c6)/\(c7->false=c9/\True)/\(c7=false->True/\Ea (Df (mD c8)) 0=c9/\True))):
  evF (mkc KQ0) aQ 72 [net cs ns os fs ls ks,.dat I a,.dat I b] [] ⟨True,.dat .bool (uF (cs,ns,os,fs,ls,ks) a b),[]⟩:=@of_eq _ _ (by kernel_rfl) hvc
def bDp(n:Net)(a b:Int): Ann:=⟨λid s=>match id with
 | 3=>match s.sig.T 16 with
  | .buf nm _=>some {α:=Int,inv:=λk=>aKd n a b k,st:=λk=>pX (put s [(20,.dat I k)]) nm (.buf 3 I (oM n a b k) []),μ:=λk=>Dc (Dh (Df n.2.2.2.2.1) k)}
  | _=>none
 | _=>none,λ_ _=>none,λ_ _=>none⟩
theorem aTO(a b:Int)(cs:LC)(ns os:LB)(fs:List Off)(ls:List Line)(ks:List Cla)(hvc:
 let c1:=(cs,ns,os,fs,ls,ks);let c2:=Df ls;let c3:=Dc c2;true/\(aQw c1 a b->0<=c2/\(Dx (8)*c2)<=281474976710656/\c2<=9223372036854775807/\(∃x,aKd c1 a b x/\a=a/\b=b/\c1=c1/\Value.slice none (0) (0)=Value.slice none (0) (0)/\c3=c3/\ls=ls/\c2=c2/\0=x/\Ep c2 (0:Int)=oM c1 a b x/\True)/\∀(x:Int),let c6:=Eb (aD7 c1 x a b) 0;let c7:=oM c1 a b x;let c8:=Dj c7;let c9:=x+1;let c10:=(Du ls (Dc x) (ByteArray.mk #[],(0:Int),(0:Int),(0:Int),(0:Int),(0:Int))).2.2;let c12:=aC6 c1 x a b+c10.2.2.1;let c13:=(Du fs (Dc c10.1) (ByteArray.mk #[],(0:Int),(0:Int),(0:Int),(0:Int),(0:Int),Dt ByteArray)).2.2.2.2;let c14:=c13.1*c13.2.1;let c15:=c12+c14;aKd c1 a b x->(Dp x c2->0<=x/\x<c2/\1=1/\0=0/\True/\(c6->c8=c3/\0<=x/\x<Dx c8/\c8=c3/\inR IntKind.i64 c9/\∃y,aKd c1 a b y/\(a=a/\b=b/\c1=c1/\Value.slice none (0) (0)=Value.slice none (0) (0)/\c3=c3/\ls=ls/\c2=c2/\c9=y/\En c7 (Dc x) (-1099511627776)=oM c1 a b y/\True)/\Dc (c2-y)<Dc (c2-x))/\(c6=false->1=1/\1=1/\0=0/\0<=c10.1/\c10.1<Df fs/\1=1/\0=0/\1=1/\1=1/\0=0/\inR IntKind.i64 c12/\1=1/\1=1/\0=0/\1=1/\1=1/\0=0/\inR IntKind.i64 c14/\inR IntKind.i64 c15/\c8=c3/\0<=x/\x<Dx c8/\c8=c3/\inR IntKind.i64 c9/\∃y,aKd c1 a b y/\(a=a/\b=b/\c1=c1/\Value.slice none (0) (0)=Value.slice none (0) (0)/\c3=c3/\ls=ls/\c2=c2/\c9=y/\En c7 (Dc x) c15=oM c1 a b y/\True)/\Dc (c2-y)<Dc (c2-x)))/\(Dp x c2=false->c8=c3/\c7=nM c1 a b/\True))):
  evF (mkc KQ0) (lvA [(3,[1,2,3,6,7,8,9,10,11,12,18,19,20])] (bDp (cs,ns,os,fs,ls,ks) a b)) 73 [net cs ns os fs ls ks,.dat I a,.dat I b] [] ⟨aQw (cs,ns,os,fs,ls,ks) a b,.dat R (nM (cs,ns,os,fs,ls,ks) a b),[]⟩:=@of_eq _ _ (by kernel_rfl) hvc
def bBU(n:Int)(g:Int->Int->Int): Ann:=⟨λid s=>match id with
 | 3=>match s.sig.T 11 with
  | .buf nm _=>some {α:=Int,inv:=λk=>upto k n,st:=λk=>pX (put s [(14,.dat I k),(5,.buf nm (Dc n))]) nm (.buf 36 R (iG g n k) []),μ:=λk=>Dc (Dh n k)}
  | _=>none
 | 7=>match s.sig.T 6,s.sig.T 22 with
  | .dat (.int .i64) i,.buf nm _=>some {α:=Int,inv:=λk=>upto k n,st:=λk=>pX (put s [(29,.dat I k)]) nm (.buf 3 I (aEj g n i k) []),μ:=λk=>Dc (Dh n k)}
  | _,_=>none
 | _=>none,λ_ _=>none,λ_ _=>none⟩
theorem aTb(preT:Int->Int->Prop)(g:Int->Int->Int)(cs:LC)(ns os:LB)(fs:List Off)(ls:List Line)(ks:List Cla)(hvc:
 let c1:=Df fs;let c2:=Ep c1 (Dt Int);let c3:=Dc c1;let c4:=(cs,ns,os,fs,ls,ks);let c5:=Int.ofNat c3;let c6:=Ep c1 (0:Int);true/\(eH c1 preT->0<=c1/\(Dx (24)*c1)<=281474976710656/\c1<=9223372036854775807/\Dj c2=c3/\(∃x,upto x c1/\AV.clo2 (Ty.int IntKind.i64) (Ty.int IntKind.i64) (Ty.int IntKind.i64) preT g=AV.clo2 (Ty.int IntKind.i64) (Ty.int IntKind.i64) (Ty.int IntKind.i64) preT g/\c4=c4/\Value.slice none (0) (0)=Value.slice none (0) (0)/\c3=c3/\c5=c5/\0=x/\c2=iG g c1 x/\True)/\∀(x:Int),let c7:=Dj (iG g c1 x);let c8:=x+1;upto x c1->(Dp x c5->0<=c1/\(Dx (8)*c1)<=281474976710656/\c1<=9223372036854775807/\c7=c3/\0<=x/\x<Dx c7/\c7=c3/\Dj c6=c3/\c7=c3/\0<=x/\x<Dx c7/\c7=c3/\Dc x=Dc x/\Dj c6=c3/\(∃x_3,upto x_3 c1/\AV.clo2 (Ty.int IntKind.i64) (Ty.int IntKind.i64) (Ty.int IntKind.i64) preT g=AV.clo2 (Ty.int IntKind.i64) (Ty.int IntKind.i64) (Ty.int IntKind.i64) preT g/\c4=c4/\Value.slice none (0) (0)=Value.slice none (0) (0)/\c3=c3/\x=x/\c5=c5/\x=x/\c5=c5/\0=x_3/\iG g c1 x=iG g c1 x/\Dc x=Dc x/\c3=c3/\c6=aEj g c1 x x_3/\True)/\∀(x_3:Int),let c9:=aEj g c1 x x_3;let c10:=Dj c9;let c11:=x_3+1;
 upto x_3 c1->(Dp x_3 c5->c7=c3/\0<=x/\x<Dx c7/\c7=c3/\Dc x=Dc x/\preT x x_3/\c10=c3/\0<=x_3/\x_3<Dx c10/\c10=c3/\inR IntKind.i64 c11/\∃y,upto y c1/\(AV.clo2 (Ty.int IntKind.i64) (Ty.int IntKind.i64) (Ty.int IntKind.i64) preT g=AV.clo2 (Ty.int IntKind.i64) (Ty.int IntKind.i64) (Ty.int IntKind.i64) preT g/\c4=c4/\Value.slice none (0) (0)=Value.slice none (0) (0)/\c3=c3/\x=x/\c5=c5/\x=x/\c5=c5/\c11=y/\iG g c1 x=iG g c1 x/\Dc x=Dc x/\c3=c3/\En c9 (Dc x_3) (g x x_3)=aEj g c1 x y/\True)/\Dc (c1-y)<Dc (c1-x_3))/\(Dp x_3 c5=false->inR IntKind.i64 c8/\∃y,upto y c1/\(AV.clo2 (Ty.int IntKind.i64) (Ty.int IntKind.i64) (Ty.int IntKind.i64) preT g=AV.clo2 (Ty.int IntKind.i64) (Ty.int IntKind.i64) (Ty.int IntKind.i64) preT g/\c4=c4/\Value.slice none (0) (0)=Value.slice none (0) (0)/\c3=c3/\c5=c5/\c8=y/\c10=c3/\En (iG g c1 x) (Dc x) c9=iG g c1 y/\True)/\Dc (c1-y)<Dc (c1-x)))/\(Dp x c5=false->c7=c3/\iG g c1 x=bI g c1/\True))):
  evF (mkc KQ0) (lvA [(3,[1,2,4,5,6,7,13,14,28,29]),(7,[1,2,4,5,6,7,13,14,28,29])] (bBU (Df fs) g)) 75 [net cs ns os fs ls ks,.clo2 I I I preT g] [] ⟨eH (Df fs) preT,.dat M (bI g (Df fs)),[]⟩:=@of_eq _ _ (by kernel_rfl) hvc
def bBT(n:Int)(g:Int->Int->Int): Ann:=⟨λid s=>match id with
 | 3=>match s.sig.T 11 with
  | .buf nm _=>some {α:=Int,inv:=λk=>upto k n,st:=λk=>pX (put s [(14,.dat I k),(5,.buf nm (Dc n))]) nm (.mat 36 3 I (iG g n k) []),μ:=λk=>Dc (Dh n k)}
  | _=>none
 | 7=>match s.sig.T 6,s.sig.T 22 with
  | .dat (.int .i64) i,.buf nm _=>some {α:=Int,inv:=λk=>upto k n,st:=λk=>pX (put s [(29,.dat I k)]) nm (.buf 3 I (aEj g n i k) []),μ:=λk=>Dc (Dh n k)}
  | _,_=>none
 | _=>none,λ_ _=>none,λ_ _=>none⟩
theorem aPe(preT:Int->Int->Prop)(g:Int->Int->Int)(cs:LC)(ns os:LB)(fs:List Off)(ls:List Line)(ks:List Cla)(hvc:
 let c1:=Df fs;let c2:=Ep c1 (Dt Int);let c3:=Dc c1;let c4:=(cs,ns,os,fs,ls,ks);let c5:=Int.ofNat c3;let c6:=Ep c1 (0:Int);let c7:=bI g c1;true/\(eH c1 preT->0<=c1/\(Dx (24)*c1)<=281474976710656/\c1<=9223372036854775807/\Dj c2=c3/\(∃x,upto x c1/\AV.clo2 (Ty.int IntKind.i64) (Ty.int IntKind.i64) (Ty.int IntKind.i64) preT g=AV.clo2 (Ty.int IntKind.i64) (Ty.int IntKind.i64) (Ty.int IntKind.i64) preT g/\c4=c4/\Value.slice none (0) (0)=Value.slice none (0) (0)/\c3=c3/\c5=c5/\0=x/\c2=iG g c1 x/\Fb (iG g c1 x)/\True)/\∀(x:Int),let c8:=Dj (iG g c1 x);let c9:=x+1;upto x c1->(Dp x c5->0<=c1/\(Dx (8)*c1)<=281474976710656/\c1<=9223372036854775807/\c8=c3/\0<=x/\x<Dx c8/\c8=c3/\Dj c6=c3/\c8=c3/\0<=x/\x<Dx c8/\c8=c3/\Dc x=Dc x/\Dj c6=c3/\(∃x_3,upto x_3 c1/\AV.clo2 (Ty.int IntKind.i64) (Ty.int IntKind.i64) (Ty.int IntKind.i64) preT g=AV.clo2 (Ty.int IntKind.i64) (Ty.int IntKind.i64) (Ty.int IntKind.i64) preT g/\c4=c4/\Value.slice none (0) (0)=Value.slice none (0) (0)/\c3=c3/\x=x/\c5=c5/\x=x/\c5=c5/\0=x_3/\iG g c1 x=iG g c1 x/\Dc x=Dc x/\c3=c3/\c6=aEj g c1 x x_3/\True)/\∀(x_3:Int),let c10:=aEj g c1 x x_3;let c11:=Dj c10;let c12:=x_3+1;
 upto x_3 c1->(Dp x_3 c5->c8=c3/\0<=x/\x<Dx c8/\c8=c3/\Dc x=Dc x/\preT x x_3/\c11=c3/\0<=x_3/\x_3<Dx c11/\c11=c3/\inR IntKind.i64 c12/\∃y,upto y c1/\(AV.clo2 (Ty.int IntKind.i64) (Ty.int IntKind.i64) (Ty.int IntKind.i64) preT g=AV.clo2 (Ty.int IntKind.i64) (Ty.int IntKind.i64) (Ty.int IntKind.i64) preT g/\c4=c4/\Value.slice none (0) (0)=Value.slice none (0) (0)/\c3=c3/\x=x/\c5=c5/\x=x/\c5=c5/\c12=y/\iG g c1 x=iG g c1 x/\Dc x=Dc x/\c3=c3/\En c10 (Dc x_3) (g x x_3)=aEj g c1 x y/\True)/\Dc (c1-y)<Dc (c1-x_3))/\(Dp x_3 c5=false->inR IntKind.i64 c9/\∃y,upto y c1/\(AV.clo2 (Ty.int IntKind.i64) (Ty.int IntKind.i64) (Ty.int IntKind.i64) preT g=AV.clo2 (Ty.int IntKind.i64) (Ty.int IntKind.i64) (Ty.int IntKind.i64) preT g/\c4=c4/\Value.slice none (0) (0)=Value.slice none (0) (0)/\c3=c3/\c5=c5/\c9=y/\Dj c10=c3/\En (iG g c1 x) (Dc x) c10=iG g c1 y/\True)/\Dc (c1-y)<Dc (c1-x)))/\(Dp x c5=false->c3=Dj c7/\iG g c1 x=c7/\True))):
  evF (mkc KQ0) (lvA [(3,[1,2,4,5,6,7,13,14,28,29]),(7,[1,2,4,5,6,7,13,14,28,29])] (bBT (Df fs) g)) 75 [net cs ns os fs ls ks,.clo2 I I I preT g] [] ⟨eH (Df fs) preT,.buf 0 (Dj (bI g (Df fs))),[(0,.mat 36 3 I (bI g (Df fs)) [])]⟩:=@of_eq _ _ (by kernel_rfl) hvc
theorem aNO(o d:Int)(hvc:
 true/\(bCX o d->(-1099511627776:Int)=aLh o d/\True)):
  evF (mkc KQ0) aQ 144 [.dat I o,.dat I d] [] ⟨bCX o d,.dat I (aLh o d),[]⟩:=@of_eq _ _ (by kernel_rfl) hvc
theorem aNN(e:Int)(s:List (List Int))(o d:Int)(hvc:
 let c1:=Eb e 0;let c2:=Dk c1;let c3:=Du s (Dc o) [];let c4:=Du c3 (Dc d) 0;let c5:=Ec c1 true (Ea c4 (-1099511627776));let c6:=aSO e s o d;let c7:=Fg c4;true/\(aL1 e s o d->(c2->c2->c2)/\(c2->c2->c2)/\(c2->0<=o)/\(c2->o<Df s)/\(c2->c2->c2)/\(c2->c2->c2)/\(c2->c2->c2)/\(c2->0<=d)/\(c2->d<Df c3)/\(c2->c2->c2)/\(c2->c2->c2)/\(Di true c2->c2)/\(c5->(-1:Int)=c6/\True)/\(c5=false->0<=o/\o<Df s/\0<=d/\d<Df c3/\inR IntKind.i64 c7/\c7=c6/\True))):
  evF (mkc KQ0) aQ 146 [.dat I o,.dat I d,.ip I e,.ip M s] [] ⟨aL1 e s o d,.dat I (aSO e s o d),[]⟩:=@of_eq _ _ (by kernel_rfl) hvc
def aPN(args:List AV)(m:Mem): Option aAb:=match m,args with
 | [],[.agg [.dat (.sl (.pair (.int .i64) (.pair (.sl .bool) (.sl (.int .i64))))) cs,.dat (.sl .str) ns,.dat (.sl .str) os,.dat (.sl (.pair .str (.pair (.int .i64) (.pair (.int .i64) (.pair (.int .i64) (.pair (.int .i64) (.pair (.int .i64) (.sl .str)))))))) fs,.dat (.sl (.pair .str (.pair (.int .i64) (.pair (.int .i64) (.pair (.int .i64) (.pair (.int .i64) (.int .i64))))))) ls,.dat (.sl (.pair .str (.pair (.int .i64) (.int .i64)))) ks],.fn 144 []]=>some ⟨eH (Df fs) bCX,.buf 0 (Dj (bI aLh (Df fs))),[(0,.mat 36 3 I (bI aLh (Df fs)) [])]⟩
 | [],[.agg [.dat (.sl (.pair (.int .i64) (.pair (.sl .bool) (.sl (.int .i64))))) cs,.dat (.sl .str) ns,.dat (.sl .str) os,.dat (.sl (.pair .str (.pair (.int .i64) (.pair (.int .i64) (.pair (.int .i64) (.pair (.int .i64) (.pair (.int .i64) (.sl .str)))))))) fs,.dat (.sl (.pair .str (.pair (.int .i64) (.pair (.int .i64) (.pair (.int .i64) (.pair (.int .i64) (.int .i64))))))) ls,.dat (.sl (.pair .str (.pair (.int .i64) (.int .i64)))) ks],.fn 146 [.ip (.int .i64) e,.ip (.sl (.sl (.int .i64))) s]]=>some ⟨eH (Df fs) (aL1 e s),.dat M (bI (aSO e s) (Df fs)),[]⟩
 | _,_=>none
def KQ1: Kt:=kOr 75 aPN <|
 kOr 72 (aP [.row N,.val I,.val I] (λ_=>True) λ(n,a,b,_)=>.dat .bool (uF n a b)) <|
 kOr 73 (aP [.row N,.val I,.val I] (λ(n,a,b,_)=>aQw n a b) λ(n,a,b,_)=>.dat R (nM n a b)) KQ0
def aVr(s:St): List Nat:=s.mem.filterMap λp=>match p.2 with
 | .mat _ _ _ _ _=>some p.1
 | _=>none
def bAh(n:Net)(c:List Int): Ann:=⟨λid s=>match id with
 | 3=>match s.sig.T 11 with
  | .buf nm _=>some {α:=Int,inv:=λk=>aRd n c k,st:=λk=>pX (put s [(15,.dat I k)]) nm (.mat 36 3 I (bY n c k) []),μ:=λk=>Dc (Dh (Df n.2.2.2.2.1) k)}
  | _=>none
 | _=>none,λid s=>match id with
 | 8=>some (frz (aVr s) s)
 | 9=>some (frz (allNames s) s)
 | _=>none,λ_ _=>none⟩
theorem aNA(c:List Int)(cs:LC)(ns os:LB)(fs:List Off)(ls:List Line)(ks:List Cla)(hvc:
 let c1:=(cs,ns,os,fs,ls,ks);let c2:=Df fs;let c3:=bI aLh c2;let c4:=Dj c3;let c5:=Df ls;true/\(nS c1 c->eH c2 bCX/\(∃x,aRd c1 c x/\c=c/\c1=c1/\Value.slice none (0) (0)=Value.slice none (0) (0)/\c4=c4/\ls=ls/\c5=c5/\0=x/\c3=bY c1 c x/\True)/\∀(x:Int),let c7:=Du c (Dc x) 0;let c8:=Eb c7 (-1099511627776);let c9:=Dj (bY c1 c x);let c10:=(Du ls (Dc x) (ByteArray.mk #[],(0:Int),(0:Int),(0:Int),(0:Int),(0:Int))).2;let c13:=Dc c10.1;let c14:=Du (bY c1 c x) c13 [];let c15:=Dj c14;let c16:=Fg c7;let c17:=x+1;let c18:=Dc c10.2.1;let c19:=aAE (bY c1 c x);let c20:=aAF (bY c1 c x);
 aRd c1 c x->(Dp x c5->0<=x/\x<c5/\1=1/\0=0/\0<=x/\x<Df c/\(c8->1=1/\1=1/\0=0/\c9=c4/\0<=c10.1/\c10.1<Dx c9/\c9=c4/\1=1/\1=1/\0=0/\1=1/\1=1/\0=0/\c9=c4/\0<=c10.1/\c10.1<Dx c9/\c9=c4/\1=1/\1=1/\0=0/\c9=c4/\0<=c10.2.1/\c10.2.1<Dx c15/\c9=c4/\c15=c15/\0<=x/\x<Df c/\inR IntKind.i64 c16/\c9=c4/\0<=c10.2.1/\c10.2.1<Dx c15/\c9=c4/\c15=c15/\inR IntKind.i64 c17/\∃y,aRd c1 c y/\(c=c/\c1=c1/\Value.slice none (0) (0)=Value.slice none (0) (0)/\c4=c4/\ls=ls/\c5=c5/\c17=y/\En (bY c1 c x) c13 (En c14 c18 (Ez (Du c14 c18 0) c16))=bY c1 c y/\True)/\Dc (c5-y)<Dc (c5-x))/\(c8=false->inR IntKind.i64 c17/\∃y,aRd c1 c y/\(c=c/\c1=c1/\Value.slice none (0) (0)=Value.slice none (0) (0)/\c4=c4/\ls=ls/\c5=c5/\c17=y/\bY c1 c x=bY c1 c y/\True)/\Dc (c5-y)<Dc (c5-x)))/\(Dp x c5=false->c=c/\c1=c1/\Value.slice none (0) (0)=Value.slice none (0) (0)/\Dj (bY c1 c x)=c4/\bY c1 c x=bY c1 c x/\ls=ls/\c5=c5/\x=x/\Dp x c5=Dp x c5/\aKS (bY c1 c x)/\1=1/\0=0/\1=1/\0=0/\c=c/\c1=c1/\Value.slice none (0) (0)=Value.slice none (0) (0)/\bY c1 c x=bY c1 c x/\1=1/\0=0/\c19=c19/\1=1/\0=0/\c20=c20/\ls=ls/\c5=c5/\x=x/\Dp x c5=Dp x c5/\c19=c19/\c20=c20/\bY c1 c x=bY c1 c x/\c19=c19/\c20=c20/\c19=c19/\c20=c20/\eH c2 (aL1 c20 c19)/\bI (aSO c20 c19) c2=rM c1 c/\True))):
  evF (mkc KQ1) (lvA [(3,[1,2,4,5,6,7,8,9,13,14,15])] (bAh (cs,ns,os,fs,ls,ks) c)) 74 [net cs ns os fs ls ks,.dat R c] [] ⟨nS (cs,ns,os,fs,ls,ks) c,.dat M (rM (cs,ns,os,fs,ls,ks) c),[]⟩:=@of_eq _ _ (by kernel_rfl) hvc
def bF2(n:Net)(c:List Int)(b:List (List Int))(o d:Int): Ann:=⟨λid s=>match id with
 | 3=>some {α:=Int,inv:=λk=>aF1 n c b o d k,st:=λk=>put s [(17,.dat I k),(11,.dat I (-1))],μ:=λk=>Dc (Dh (Df n.2.2.2.2.1) k)}
 | _=>none,λ_ _=>none,λ_ _=>none⟩
theorem aYg(c:List Int)(b:List (List Int))(o d:Int)(cs:LC)(ns os:LB)(fs:List Off)(ls:List Line)(ks:List Cla)(hvc:
 let c1:=(cs,ns,os,fs,ls,ks);let c2:=Df ls;let c4:=Du b (Dc o) [];let c5:=aGq c1 c b o d;true/\(aF2 c1 c b o d->(∃x,aF1 c1 c b o d x/\c=c/\b=b/\o=o/\d=d/\(0:Int)=(0:Int)/\(-1:Int)=(-1:Int)/\ls=ls/\c2=c2/\0=x/\True)/\∀(x:Int),let c6:=(Du ls (Dc x) (ByteArray.mk #[],(0:Int),(0:Int),(0:Int),(0:Int),(0:Int))).2;let c7:=Eb c6.1 o;let c8:=Dk c7;let c9:=Du c (Dc x) 0;let c10:=Ec c7 true (Ea c9 (-1099511627776));let c11:=Dk c10;let c13:=Du b (Dc c6.2.1) [];let c14:=Du c13 (Dc d) 0;let c15:=Ec c10 true (Dp c14 0);let c16:=x+1;let c17:=c9+c14;let c18:=Ea c17 (Du c4 (Dc d) 0);aF1 c1 c b o d x->(Dp x c2->0<=x/\x<c2/\1=1/\0=0/\1=1/\1=1/\0=0/\(c8->c8->c8)/\(c8->c8->c8)/\(c8->0<=x)/\(c8->x<Df c)/\(c8->c8->c8)/\(c8->c8->c8)/\(Di true c8->c8)/\(c11->1=1)/\(c11->c11->c11)/\(c11->1=1)/\(c11->0=0)/\(c11->c11->c11)/\(c11->c11->c11)/\(c11->0<=c6.2.1)/\(c11->c6.2.1<Df b)/\(c11->c11->c11)/\(c11->c11->c11)/\(c11->c11->c11)/\(c11->0<=d)/\(c11->d<Df c13)/\(c11->c11->c11)/\(c11->c11->c11)/\(Di true c11->c11)/\(c15->inR IntKind.i64 c16/\∃y,aF1 c1 c b o d y/\(c=c/\b=b/\o=o/\d=d/\(0:Int)=(0:Int)/\(-1:Int)=(-1:Int)/\ls=ls/\c2=c2/\c16=y/\True)/\Dc (c2-y)<Dc (c2-x))/\(c15=false->0<=x/\x<Df c/\1=1/\1=1/\0=0/\0<=c6.2.1/\c6.2.1<Df b/\0<=d/\d<Df c13/\inR IntKind.i64 c17/\0<=o/\o<Df b/\0<=d/\d<Df c4/\(c18->x=c5/\True)/\(c18=false->inR IntKind.i64 c16/\∃y,aF1 c1 c b o d y/\(c=c/\b=b/\o=o/\d=d/\(0:Int)=(0:Int)/\(-1:Int)=(-1:Int)/\ls=ls/\c2=c2/\c16=y/\True)/\Dc (c2-y)<Dc (c2-x))))/\(Dp x c2=false->(-1:Int)=c5/\True))):
  evF (mkc KQ1) (lvA [(3,[1,2,3,4,10,11,12,13,15,16,17])] (bF2 (cs,ns,os,fs,ls,ks) c b o d)) 77 [net cs ns os fs ls ks,.dat R c,.dat M b,.dat I o,.dat I d] [] ⟨aF2 (cs,ns,os,fs,ls,ks) c b o d,.dat I (aGq (cs,ns,os,fs,ls,ks) c b o d),[]⟩:=@of_eq _ _ (by kernel_rfl) hvc
def KQ2: Kt:=kOr 74 (aP [.row N,.val R] (λ(n,c,_)=>nS n c) λ(n,c,_)=>.dat M (rM n c)) <|
 kOr 77 (aP [.row N,.val R,.val M,.val I,.val I] (λ(n,c,b,o,d,_)=>aF2 n c b o d) λ(n,c,b,o,d,_)=>.dat I (aGq n c b o d)) KQ1
theorem aTt(b:List (List Int))(c:List Int)(o d:Int)(cs:LC)(ns os:LB)(fs:List Off)(ls:List Line)(ks:List Cla)(hvc:
 let c1:=(cs,ns,os,fs,ls,ks);let c2:=Du b (Dc o) [];let c3:=Ec (Ea o d) true (Dp (Du c2 (Dc d) 0) 0);let c4:=aFo c1 c b o d;true/\(aF2 c1 c b o d->(Dk (Ea o d)->Dk (Ea o d)->Dk (Ea o d))/\(Dk (Ea o d)->Dk (Ea o d)->Dk (Ea o d))/\(Dk (Ea o d)->0<=o)/\(Dk (Ea o d)->o<Df b)/\(Dk (Ea o d)->Dk (Ea o d)->Dk (Ea o d))/\(Dk (Ea o d)->Dk (Ea o d)->Dk (Ea o d))/\(Dk (Ea o d)->Dk (Ea o d)->Dk (Ea o d))/\(Dk (Ea o d)->0<=d)/\(Dk (Ea o d)->d<Df c2)/\(Dk (Ea o d)->Dk (Ea o d)->Dk (Ea o d))/\(Dk (Ea o d)->Dk (Ea o d)->Dk (Ea o d))/\(Di true (Dk (Ea o d))->Dk (Ea o d))/\(c3->(-1:Int)=c4/\True)/\(c3=false->aF2 c1 c b o d/\aGq c1 c b o d=c4/\True))):
  evF (mkc KQ2) aQ 76 [.dat I o,.dat I d,.ip M b,.ip N (cs,ns,os,fs,ls,ks),.ip R c] [] ⟨aF2 (cs,ns,os,fs,ls,ks) c b o d,.dat I (aFo (cs,ns,os,fs,ls,ks) c b o d),[]⟩:=@of_eq _ _ (by kernel_rfl) hvc
def KQ3: Kt:=kOr 75 (λargs m=>match m,args with
 | [],[.agg [.dat (.sl (.pair (.int .i64) (.pair (.sl .bool) (.sl (.int .i64))))) cs,.dat (.sl .str) ns,.dat (.sl .str) os,.dat (.sl (.pair .str (.pair (.int .i64) (.pair (.int .i64) (.pair (.int .i64) (.pair (.int .i64) (.pair (.int .i64) (.sl .str)))))))) fs,.dat (.sl (.pair .str (.pair (.int .i64) (.pair (.int .i64) (.pair (.int .i64) (.pair (.int .i64) (.int .i64))))))) ls,.dat (.sl (.pair .str (.pair (.int .i64) (.int .i64)))) ks],.fn 76 [.ip (.sl (.sl (.int .i64))) b,.ip (.pair (.sl (.pair (.int .i64) (.pair (.sl .bool) (.sl (.int .i64))))) (.pair (.sl .str) (.pair (.sl .str) (.pair (.sl (.pair .str (.pair (.int .i64) (.pair (.int .i64) (.pair (.int .i64) (.pair (.int .i64) (.pair (.int .i64) (.sl .str)))))))) (.pair (.sl (.pair .str (.pair (.int .i64) (.pair (.int .i64) (.pair (.int .i64) (.pair (.int .i64) (.int .i64))))))) (.sl (.pair .str (.pair (.int .i64) (.int .i64))))))))) n,.ip (.sl (.int .i64)) c]]=>some ⟨eH (Df fs) (aF2 n c b),.dat M (bI (aFo n c b) (Df fs)),[]⟩
 | _,_=>none) KQ2
def bCN: Ann:=⟨λ_ _=>none,λid s=>match id with
 | 5=>some (frz (allNames s) s)
 | _=>none,λ_ _=>none⟩
theorem aTi(a b:Int)(cs:LC)(ns os:LB)(fs:List Off)(ls:List Line)(ks:List Cla)(hvc:
 let c1:=(cs,ns,os,fs,ls,ks);let c2:=uF c1 a b;let c3:=Dk c2;let c4:=aAW c1 a b;let c5:=nM c1 a b;let c6:=rM c1 c5;let c7:=Df fs;true/\(True->True/\(c3->c4=Dt (List Int)/\True)/\(c3=false->aQw c1 a b/\1=1/\0=0/\1=1/\0=0/\nS c1 c5/\1=1/\0=0/\cs=cs/\ns=ns/\os=os/\fs=fs/\ls=ls/\ks=ks/\a=a/\b=b/\c1=c1/\Value.slice none (0) (0)=Value.slice none (0) (0)/\1=1/\0=0/\c5=c5/\1=1/\0=0/\c6=c6/\cs=cs/\ns=ns/\os=os/\fs=fs/\ls=ls/\ks=ks/\a=a/\b=b/\c2=c2/\c3=c3/\cs=cs/\ns=ns/\os=os/\fs=fs/\ls=ls/\ks=ks/\a=a/\b=b/\c5=c5/\cs=cs/\ns=ns/\os=os/\fs=fs/\ls=ls/\ks=ks/\c5=c5/\c6=c6/\eH c7 (aF2 c1 c5 c6)/\bI (aFo c1 c5 c6) c7=c4/\True))):
  evF (mkc KQ3) bCN 23 [net cs ns os fs ls ks,.dat I a,.dat I b] [] ⟨True,.dat M (aAW (cs,ns,os,fs,ls,ks) a b),[]⟩:=@of_eq _ _ (by kernel_rfl) hvc
theorem aB2(cs:LC)(ns os:LB)(fs:List Off)(ls:List Line)(ks:List Cla)(line:Int): ls.getD line.toNat (⟨#[]⟩,0,0,0,0,0)=bJ (cs,ns,os,fs,ls,ks) line:=rfl
def atOk(n:Net)(l:Int): Prop:=0<=(bJ n l).2.2.2.1/\(bJ n l).2.2.2.1<=1439
theorem aZI(cs:LC)(ns os:LB)(fs:List Off)(ls:List Line)(ks:List Cla){line:Int}(h:aJL (cs,ns,os,fs,ls,ks) line): atOk (cs,ns,os,fs,ls,ks) line:=by
 obtain⟨_,_,_,_,_,m0,m1⟩:=aSc cs ns os fs ls ks h;exact⟨m0,m1⟩
theorem aGt{n:Net}{l b:Int}: ∀(k:Nat) (t m w:Int),0<=m->m<=86400->waitGo n l b k t m=some w->0<=w/\w<=86400
 | 0,t,m,w,h0,h1,h=>by rw[waitGo]at h;cases h;exact⟨h0,h1⟩
 | k+1,t,m,w,h0,h1,h=>by
  rw[waitGo]at h;split at h
  .cases e:oC n l t with
   | none=>rw[e]at h;cases h
   | some u=>
    rw[e]at h;have:=aA8 e;exact aGt k (u+1) (aEl m (u-t)) w (by unfold aEl;split<;>omega) (by unfold aEl;split<;>omega) h
  .cases h;exact⟨h0,h1⟩
theorem bAs: aI Tryz.prog G0 KQ0:=aH (aC λ(m,_)=>Mp.bCy m) bGa
theorem aHK{a b:Int}: bD4 a b=true↔0<=a/\a<b/\b<=2000000/\b<=a+86400:=by
 unfold bD4;simp only[qC,qE,qDi]
theorem aI1{n:Net}: bZ n=decide (((mD n).length:Int)=0):=by
 unfold bZ;cases mD n with
 | nil=>rfl
 | cons a l=>
  symm
  show decide _=false;rw[wF,wW];omega
theorem aEi{n:Net}{a b:Int}: uF n a b=true↔(0<=a/\a<b/\b<=2000000/\b<=a+86400)/\bZ n=true:=by
 unfold uF;rw[qC,aHK]
theorem bB5(a b:Int)(cs:LC)(ns os:LB)(fs:List Off)(ls:List Line)(ks:List Cla): aB Tryz.prog G0 72 [net cs ns os fs ls ks,.dat I a,.dat I b] [] ⟨True,.dat .bool (uF (cs,ns,os,fs,ls,ks) a b),[]⟩:=by
 refine aA (c:=mkc KQ0) bAs bD hm (aXN a b cs ns os fs ls ks ⟨rfl,λ_=>?_⟩)
 simp only[qc,Di,Es,Dk,qd,Dt,Ea,Eb,Dp,Ei,Eh,Ed,Ew,Df,Et,Dl,Dn,Eo,Dy,Dw,Dh,Dq,Ee,Fg,Dc,Dx,Dj,Dz,Ej,Du,Eu,Ez,En,Ef,Fe,Fj,Fh,Ep,Em,Ey,Fb];refine⟨λh=>dJ (by omega),λh=>?_,λh=>?_⟩
 .unfold uF;have:bD4 a b=false:=by
   rw[<- xI,aHK];omega
  rw[this];rfl
 .unfold uF;rw[aHK.2 (by omega),zQ,aI1];rfl
theorem tZ(cs:LC)(ns os:LB)(fs:List Off)(ls:List Line)(ks:List Cla){i:Int}(h:bZ (cs,ns,os,fs,ls,ks)=true)(i0:0<=i)(i1:i<ls.length): 0<=(bJ (cs,ns,os,fs,ls,ks) i).2.1/\(bJ (cs,ns,os,fs,ls,ks) i).2.1<fs.length/\0<=(bJ (cs,ns,os,fs,ls,ks) i).2.2.1/\(bJ (cs,ns,os,fs,ls,ks) i).2.2.1<fs.length/\(bJ (cs,ns,os,fs,ls,ks) i).2.1≠(bJ (cs,ns,os,fs,ls,ks) i).2.2.1/\1<=(bJ (cs,ns,os,fs,ls,ks) i).2.2.2.2.1/\(bJ (cs,ns,os,fs,ls,ks) i).2.2.2.2.1<=5000:=by
 have hno:=dP cs ns os fs ls ks h;have hl:bJ (cs,ns,os,fs,ls,ks) i∈ls:=by
  unfold bJ;show ls.getD i.toNat _∈ls;rw[qA,qB (by omega),qQ]
  exact wH _
 obtain⟨g1,g2,g3,g4,g5,g6,g7,g8⟩:=sH ((aA1 cs ns os fs ls ks hno).2.2.2 _ hl);exact⟨g1,g2,g3,g4,g5,g7,g8⟩
theorem aIY(cs:LC)(ns os:LB)(fs:List Off)(ls:List Line)(ks:List Cla){o:Int}(h:bZ (cs,ns,os,fs,ls,ks)=true)(o0:0<=o)(o1:o<fs.length): 0<(aFi (cs,ns,os,fs,ls,ks) o).2.2.2.2.1*(aFi (cs,ns,os,fs,ls,ks) o).2.2.2.2.2.1/\(aFi (cs,ns,os,fs,ls,ks) o).2.2.2.2.1*(aFi (cs,ns,os,fs,ls,ks) o).2.2.2.2.2.1<=960:=by
 have hno:=dP cs ns os fs ls ks h;have ho:aFi (cs,ns,os,fs,ls,ks) o∈fs:=by
  unfold aFi;show fs.getD o.toNat _∈fs;rw[qA,qB (by omega),qQ]
  exact wH _
 have gc:=(pG cs ns os fs ls ks hno).2.2.2 _ ho;unfold iZ jT jU at gc;simp only[qC,qE]at gc;obtain⟨⟨_,p0,p1⟩,q0,q1⟩:=gc;generalize (aFi (cs,ns,os,fs,ls,ks) o).2.2.2.2.1=p at *;generalize (aFi (cs,ns,os,fs,ls,ks) o).2.2.2.2.2.1=q at *;refine⟨Int.mul_pos (by omega) (by omega),?_⟩
 have:=xK (a:=p) (b:=q) (c:=4) (d:=240) p1 q1 (by omega) (by omega)
 omega
theorem aO9(cs:LC)(ns os:LB)(fs:List Off)(ls:List Line)(ks:List Cla){i a b:Int}(h:uF (cs,ns,os,fs,ls,ks) a b=true)(i0:0<=i)(i1:i<ls.length): (aD7 (cs,ns,os,fs,ls,ks) i a b=0/\aII (cs,ns,os,fs,ls,ks) i a b=some (aC6 (cs,ns,os,fs,ls,ks) i a b)/\0<=aC6 (cs,ns,os,fs,ls,ks) i a b/\aC6 (cs,ns,os,fs,ls,ks) i a b<=86400)\/(aD7 (cs,ns,os,fs,ls,ks) i a b=20/\aII (cs,ns,os,fs,ls,ks) i a b=none):=by
 obtain⟨⟨a0,ab,b1,hb⟩,hs⟩:=aEi.1 h;have hu:mJ (cs,ns,os,fs,ls,ks) i [a,b]=true:=by
  unfold mJ jT;rw[hs,kZ,qC];exact⟨qW ⟨i0,i1⟩,by simp[jF];omega⟩
 have hok:aCi (cs,ns,os,fs,ls,ks) i a b=true:=by
  unfold aCi;rw[hu,qW ab,qW hb];rfl
 have ha:=aZI cs ns os fs ls ks (aAN cs ns os fs ls ks hu (wL)).1;unfold aD7 aC6;rw[if_pos hok,if_pos hok];cases e:aII (cs,ns,os,fs,ls,ks) i a b with
 | none=>exact .inr ⟨rfl,rfl⟩
 | some w=>
  have:=aGt _ _ _ _ (by omega) (by omega) e
  exact .inl ⟨rfl,rfl,this.1,this.2⟩
theorem aOJ(cs:LC)(ns os:LB)(fs:List Off)(ls:List Line)(ks:List Cla){i a b:Int}(h:uF (cs,ns,os,fs,ls,ks) a b=true)(i0:0<=i)(i1:i<ls.length): aIp (cs,ns,os,fs,ls,ks) a b i=aBF\/(0<aIp (cs,ns,os,fs,ls,ks) a b i/\aIp (cs,ns,os,fs,ls,ks) a b i<=100000):=by
 obtain⟨_,hs⟩:=aEi.1 h;obtain⟨l0,l1,l2,l3,l4,l5,l6⟩:=tZ cs ns os fs ls ks hs i0 i1;obtain⟨o0,o1⟩:=aIY cs ns os fs ls ks hs l2 l3;unfold aIp;rcases aO9 cs ns os fs ls ks h i0 i1 with⟨e,_,w0,w1⟩ | ⟨e,_⟩
 .rw[if_pos e];right;omega
 .rw[if_neg (by omega)];exact .inl rfl
theorem uV(n:Net)(a b:Int): (nM n a b).length=n.2.2.2.2.1.length:=by simp[nM]
theorem aR2(cs:LC)(ns os:LB)(fs:List Off)(ls:List Line)(ks:List Cla)(a b:Int){i:Int}(i0:0<=i)(i1:i<ls.length): (nM (cs,ns,os,fs,ls,ks) a b).getD i.toNat 0=aIp (cs,ns,os,fs,ls,ks) a b i:=by
 unfold nM;rw[qA,qP,vX (by show i.toNat<ls.length;omega)]
 simp[vC i0]
theorem aV2(cs:LC)(ns os:LB)(fs:List Off)(ls:List Line)(ks:List Cla){a b:Int}(h:uF (cs,ns,os,fs,ls,ks) a b=true): nS (cs,ns,os,fs,ls,ks) (nM (cs,ns,os,fs,ls,ks) a b):=by
 refine⟨(aEi.1 h).2,uV _ _ _,λi i0 i1=>?_⟩
 have i1:i<ls.length:=by rw[uV]at i1;exact i1
 rw[aR2 cs ns os fs ls ks a b i0 i1];rcases aOJ cs ns os fs ls ks h i0 i1 with g | g
 .exact .inl g
 .right;omega
theorem aFU(cs:LC)(ns os:LB)(fs:List Off)(ls:List Line)(ks:List Cla){a b k:Int}(h:0<=k/\k<=ls.length): (oM (cs,ns,os,fs,ls,ks) a b k).length=ls.length:=by
 unfold oM;rw[qF,qI,wJ,uV];show min k.toNat ls.length+(ls.length-k.toNat)=ls.length;omega
theorem aDZ(cs:LC)(ns os:LB)(fs:List Off)(ls:List Line)(ks:List Cla){a b k v:Int}(k0:0<=k)(k1:k<ls.length)(hv:v=aIp (cs,ns,os,fs,ls,ks) a b k): (oM (cs,ns,os,fs,ls,ks) a b k).set k.toNat v=oM (cs,ns,os,fs,ls,ks) a b (k+1):=by
 have e:(k+1).toNat=k.toNat+1:=by omega
 have:=Mp.aId (nM (cs,ns,os,fs,ls,ks) a b) 0 v k.toNat (by
  unfold nM;rw[qP,vX (by show k.toNat<ls.length;omega),hv];simp[vC k0])
 rw[uV]at this;unfold oM;rw[e];exact this
theorem aYY(a b:Int)(cs:LC)(ns os:LB)(fs:List Off)(ls:List Line)(ks:List Cla): aB Tryz.prog G0 73 [net cs ns os fs ls ks,.dat I a,.dat I b] [] ⟨aQw (cs,ns,os,fs,ls,ks) a b,.dat R (nM (cs,ns,os,fs,ls,ks) a b),[]⟩:=by
 refine aA (c:=mkc KQ0) bAs bD hm (aTO a b cs ns os fs ls ks ⟨rfl,λhp=>?_⟩)
 have hp:uF (cs,ns,os,fs,ls,ks) a b=true:=hp;obtain⟨_,hs⟩:=aEi.1 hp;have l40:=(aCG cs ns os fs ls ks (dP cs ns os fs ls ks hs)).2;simp only[qc,Di,Es,Dk,qd,Dt,Ea,Eb,Dp,Ei,Eh,Ed,Ew,Df,Et,Dl,Dn,Eo,Dy,Dw,Dh,Dq,Ee,Fg,Dc,Dx,Dj,Dz,Ej,Du,Eu,Ez,En,Ef,Fe,Fj,Fh,Ep,Em,Ey,Fb,aB2 cs ns os fs ls ks]
 have lf:∀x:Int,fs.getD (bJ (cs,ns,os,fs,ls,ks) x).2.2.1.toNat (⟨#[]⟩,0,0,0,0,0,[])=aFi (cs,ns,os,fs,ls,ks) (bJ (cs,ns,os,fs,ls,ks) x).2.2.1:=λ_=>rfl
 refine⟨by omega,by omega,by omega,⟨0,⟨hp,by omega,by omega⟩,rfl,by simp[oM]⟩,λx hx=>⟨λhlt=>?_,λhge=>?_⟩⟩
 .obtain⟨_,x0,x1⟩:=hx;have hl:=aFU cs ns os fs ls ks (a:=a) (b:=b) ⟨x0,x1⟩;obtain⟨l0,l1,l2,l3,l4,l5,l6⟩:=tZ cs ns os fs ls ks hs x0 hlt;obtain⟨o0,o1⟩:=aIY cs ns os fs ls ks hs l2 l3;refine⟨x0,hlt,λhw=>?_,λhw=>?_⟩
  .refine⟨hl,x0,by omega,hl,dJ (by omega),x+1,⟨hp,by omega,(by show x+1<=(ls.length:Int);omega)⟩,⟨rfl,aDZ cs ns os fs ls ks x0 hlt ?_⟩,by omega⟩
   unfold aIp;rw[if_neg hw];rfl
  .rcases aO9 cs ns os fs ls ks hp x0 hlt with⟨e,_,w0,w1⟩ | ⟨e,_⟩
   .refine⟨l2,l3,dJ (by omega),dJ (by rw[lf];omega),dJ (by rw[lf];omega),hl,x0,by omega,hl,dJ (by omega),x+1,⟨hp,by omega,(by show x+1<=(ls.length:Int);omega)⟩,⟨rfl,aDZ cs ns os fs ls ks x0 hlt ?_⟩,by omega⟩
    unfold aIp;rw[if_pos e];rfl
   .exfalso;omega
 .obtain⟨_,x0,x1⟩:=hx;have x1:x<=ls.length:=x1;have e:x.toNat=ls.length:=by omega
  refine⟨aFU cs ns os fs ls ks ⟨x0,x1⟩,?_⟩;unfold oM;rw[e,qO (by rw[uV];exact qK _)]
  show _++List.replicate (ls.length-ls.length) 0=_;simp
theorem aPV(preT:Int->Int->Prop)(g:Int->Int->Int)(cs:LC)(ns os:LB)(fs:List Off)(ls:List Line)(ks:List Cla): aB Tryz.prog G0 75 [net cs ns os fs ls ks,.clo2 I I I preT g] [] ⟨eH (Df fs) preT,.dat M (bI g (Df fs)),[]⟩:=by
 refine aA (c:=mkc KQ0) bAs bD hm (aTb preT g cs ns os fs ls ks ⟨rfl,λhp=>?_⟩)
 obtain⟨p1,p2,p3⟩:=hp;simp only[qc,Di,Es,Dk,qd,Dt,Ea,Eb,Dp,Ei,Eh,Ed,Ew,Df,Et,Dl,Dn,Eo,Dy,Dw,Dh,Dq,Ee,Fg,Dc,Dx,Dj,Dz,Ej,Du,Eu,Ez,En,Ef,Fe,Fj,Fh,Ep,Em,Ey,Fb]at p1 p2 p3 ⊢;have en:(fs.length:Int).toNat=fs.length:=vO _;refine⟨by omega,by omega,by omega,by simp,⟨0,⟨by omega,.inr rfl⟩,by simp,by rw[Mp.aBp];simp⟩,λx hx=>⟨λhlt=>?_,λhge=>?_⟩⟩
 .have h0:=hx.1;have hl:=Mp.aAU g fs.length x hx;rw[en]at hl;refine⟨by omega,by omega,by omega,hl,h0,by omega,hl,by simp,hl,h0,by omega,hl,by simp,⟨0,⟨by omega,.inr rfl⟩,by simp,by rw[Mp.aE0];simp⟩,λy hy=>⟨λhlt2=>?_,λhge=>?_⟩⟩
  .have h2:=hy.1;have hl2:=Mp.aBq g fs.length x y hy;rw[en]at hl2;refine⟨hl,h0,by omega,hl,p3 x y h0 hlt h2 hlt2,hl2,h2,by omega,hl2,dJ (by omega),y+1,⟨by omega,.inl (by omega)⟩,⟨rfl,?_⟩,by omega⟩
   exact Mp.aE1 g fs.length x y h2 hlt2
  .have hl2:=Mp.aBq g fs.length x y hy;rw[en]at hl2;refine⟨dJ (by omega),x+1,⟨by omega,.inl (by omega)⟩,⟨rfl,hl2,?_⟩,by omega⟩
   exact Mp.aDb g fs.length x y h0 hlt hy hge
 .have hl:=Mp.aAU g fs.length x hx;rw[en]at hl;exact⟨hl,Mp.aEZ g fs.length x hx hge⟩
theorem aUe(preT:Int->Int->Prop)(g:Int->Int->Int)(cs:LC)(ns os:LB)(fs:List Off)(ls:List Line)(ks:List Cla): aB Tryz.prog G0 75 [net cs ns os fs ls ks,.clo2 I I I preT g] [] ⟨eH (Df fs) preT,.buf 0 (Dj (bI g (Df fs))),[(0,.mat 36 3 I (bI g (Df fs)) [])]⟩:=by
 refine aA (c:=mkc KQ0) bAs bD hm (aPe preT g cs ns os fs ls ks ⟨rfl,λhp=>?_⟩)
 obtain⟨p1,p2,p3⟩:=hp;simp only[qc,Di,Es,Dk,qd,Dt,Ea,Eb,Dp,Ei,Eh,Ed,Ew,Df,Et,Dl,Dn,Eo,Dy,Dw,Dh,Dq,Ee,Fg,Dc,Dx,Dj,Dz,Ej,Du,Eu,Ez,En,Ef,Fe,Fj,Fh,Ep,Em,Ey,Fb]at p1 p2 p3 ⊢;have en:(fs.length:Int).toNat=fs.length:=vO _;refine⟨by omega,by omega,by omega,by simp,⟨0,⟨by omega,.inr rfl⟩,by simp,by rw[Mp.aBp];simp,?_⟩,λx hx=>⟨λhlt=>?_,λhge=>?_⟩⟩
 .rw[Mp.aBp];intro r hr;exact kN hr
 .have h0:=hx.1;have hl:=Mp.aAU g fs.length x hx;rw[en]at hl;refine⟨by omega,by omega,by omega,hl,h0,by omega,hl,by simp,hl,h0,by omega,hl,by simp,⟨0,⟨by omega,.inr rfl⟩,by simp,by rw[Mp.aE0];simp⟩,λy hy=>⟨λhlt2=>?_,λhge=>?_⟩⟩
  .have h2:=hy.1;have hl2:=Mp.aBq g fs.length x y hy;rw[en]at hl2;refine⟨hl,h0,by omega,hl,p3 x y h0 hlt h2 hlt2,hl2,h2,by omega,hl2,dJ (by omega),y+1,⟨by omega,.inl (by omega)⟩,⟨rfl,?_⟩,by omega⟩
   exact Mp.aE1 g fs.length x y h2 hlt2
  .have hl2:=Mp.aBq g fs.length x y hy;rw[en]at hl2;refine⟨dJ (by omega),x+1,⟨by omega,.inl (by omega)⟩,⟨rfl,hl2,?_⟩,by omega⟩
   exact Mp.aDb g fs.length x y h0 hlt hy hge
 .have e:=Mp.aEZ g fs.length x hx hge;refine⟨?_,e⟩;rw[Mp.nD,en]
theorem aQa(o d:Int): aB Tryz.prog G0 144 [.dat I o,.dat I d] [] ⟨bCX o d,.dat I (aLh o d),[]⟩:=
 aA (c:=mkc KQ0) bAs bD hm (aNO o d ⟨rfl,λ_=>⟨rfl,trivial⟩⟩)
theorem aP9(e:Int)(s:List (List Int))(o d:Int): aB Tryz.prog G0 146 [.dat I o,.dat I d,.ip I e,.ip M s] [] ⟨aL1 e s o d,.dat I (aSO e s o d),[]⟩:=by
 refine aA (c:=mkc KQ0) bAs bD hm (aNN e s o d ⟨rfl,λhp=>?_⟩)
 have hat:(s.getD o.toNat []).getD d.toNat 0=at2 s o d:=rfl;simp only[qc,Di,Es,Dk,qd,Dt,Ea,Eb,Dp,Ei,Eh,Ed,Ew,Df,Et,Dl,Dn,Eo,Dy,Dw,Dh,Dq,Ee,Fg,Dc,Dx,Dj,Dz,Ej,Du,Eu,Ez,En,Ef,Fe,Fj,Fh,Ep,Em,Ey,Fb,hat];refine⟨λh=>(hp h).1.1,λh=>(hp h).1.2.1,λh=>(hp h).1.2.2.1,λh=>(hp h).1.2.2.2,λh=>?_,λh=>?_⟩
 .unfold aSO;rcases h with h | h
  .rw[if_neg h]
  .split
   .exact(if_pos h).symm
   .rfl
 .obtain⟨⟨q1,q2,q3,q4⟩,q5⟩:=hp h.1;refine⟨q1,q2,q3,q4,?_,?_⟩
  .rcases q5 with q5 | q5
   .exact(h.2 q5).elim
   .unfold inR;simp only;omega
  .unfold aSO;rw[if_pos h.1];exact(if_neg h.2).symm
theorem nO{P:Program}{C:Ctx}{a x x':AV}{us:List Value}(h:AV.relL P C [a,x] us)(hx:∀v,x.rel P C v->x'.rel P C v): AV.relL P C [a,x'] us:=by
 obtain⟨u,us,rfl,h1,u2,us,rfl,h2,h3⟩:=h;exact⟨_,_,rfl,h1,_,_,rfl,hx _ h2,h3⟩
theorem aPM: ∀args m c,aPN args m=some c->aB Tryz.prog G0 75 args m c:=by
 intro args m c hc;unfold aPN at hc;split at hc
 .rename_i cs ns os fs ls ks;cases hc;exact(aUe _ _ cs ns os fs ls ks).args λC us hG hu=>nO hu λv hv=>uX (by kernel_rfl) rfl (λx y=>aQa x y) hG hv
 .rename_i cs ns os fs ls ks e s;cases hc;exact(aPV _ _ cs ns os fs ls ks).args λC us hG hu=>nO hu λv hv=>uX (by kernel_rfl) rfl (λx y=>aP9 e s x y) hG hv
 .cases hc
theorem aD2{g g':Int->Int->Int}{m:Nat}(h:∀i j:Int,0<=i->i<m->0<=j->j<m->g i j=g' i j): bI g m=bI g' m:=by
 unfold bI;simp only[vO];refine yE λi hi=>yE λj hj=>?_
 have:=vN.1 hi;have:=vN.1 hj;exact h _ _ (by omega) (by omega) (by omega) (by omega)
theorem aOT{g:Int->Int->Int}{m:Nat}{a b v:Int}(a0:0<=a)(a1:a<m)(b0:0<=b)(b1:b<m):
  (bI g m).set a.toNat (((bI g m).getD a.toNat []).set b.toNat v)=bI (λo d=>if o=a/\d=b then v else g o d) m:=by
 rw[Mp.aDv g m a a0 a1];unfold bI;simp only[vO];refine qDd (by simp) λi h1 h2=>?_
 rw[vF,vK]at h2;rw[List.getElem_set];by_cases e:a.toNat=i
 .rw[if_pos e];rw[qAx,qBh];refine qDd (by simp) λj h3 h4=>?_
  rw[vF,vK]at h4;rw[List.getElem_set,qAx,qBh,qAx,qBh];have ei:(i:Int)=a:=by omega
  by_cases e2:b.toNat=j
  .rw[if_pos e2,if_pos ⟨ei,by omega⟩]
  .rw[if_neg e2,if_neg (λq=>e2 (by omega)),ei]
 .rw[if_neg e];rw[qAx,qAx,qBh];refine yE λj hj=>?_
  rw[if_neg (λq=>e (by omega))]
theorem aTX{m:List (List Int)}(sq:Mp.Sq m.length m)(hl:m.length<=40)(h:∀i j:Int,0<=i->i<m.length->0<=j->j<m.length->Mp.aDs (at2 m i j)=true): Mp.aO m=true:=by
 unfold Mp.aO;rw[qC,zJ,zJ,wF,qBm];refine⟨by omega,λr hr=>?_⟩
 obtain⟨i,hi,rfl⟩:=List.getElem_of_mem hr;have e:m[i]=m.getD (i:Int).toNat []:=by rw[vO,qA,qB hi,qQ]
 have hrow:=sq.row i (by omega) (by omega)
 rw[e];unfold Mp.aBK;rw[xI,qAz,wF,Mp.aDy];refine⟨by omega,λk k0 k1=>?_⟩
 rw[hrow]at k1;exact h i k (by omega) (by omega) k0 k1
theorem aB4(ls:List Line)(c:List Int)(k:Nat)(o d:Int): uK ls c (k+1) o d=if c.getD k 0≠aBF/\(ls.getD k (⟨#[]⟩,0,0,0,0,0)).2.1=o/\(ls.getD k (⟨#[]⟩,0,0,0,0,0)).2.2.1=d then max (uK ls c k o d) (-(c.getD k 0))else uK ls c k o d:=rfl
theorem aDQ{n:Net}{c:List Int}(h:nS n c)(ls:List Line)(o d:Int): ∀k:Nat,k<=c.length->uK ls c k o d=aBF\/(-1000000<=uK ls c k o d/\uK ls c k o d<=-1)
 | 0,_=>.inl rfl
 | k+1,hk=>by
  have ih:=aDQ h ls o d k (by omega)
  have hc:=h.2.2 k (by omega) (by omega)
  rw[vO]at hc;rw[aB4];split
  .rename_i g;rcases hc with hc | hc
   .exact(g.1 hc).elim
   .right
    rcases ih with ih | ih
    .rw[ih];unfold aBF;omega
    .omega
  .exact ih
theorem aDj(cs:LC)(ns os:LB)(fs:List Off)(ls:List Line)(ks:List Cla)(c:List Int)(k:Int): Mp.Sq fs.length (bY (cs,ns,os,fs,ls,ks) c k):=Mp.aFZ _ _
theorem aG0(cs:LC)(ns os:LB)(fs:List Off)(ls:List Line)(ks:List Cla)(c:List Int)(k:Int){o d:Int}(o0:0<=o)(o1:o<fs.length)(d0:0<=d)(d1:d<fs.length): at2 (bY (cs,ns,os,fs,ls,ks) c k) o d=uK ls c k.toNat o d:=Mp.aC0 _ _ o d o0 o1 d0 d1
theorem aH0(cs:LC)(ns os:LB)(fs:List Off)(ls:List Line)(ks:List Cla){c:List Int}{k:Int}(h:nS (cs,ns,os,fs,ls,ks) c)(k0:0<=k)(k1:k<=ls.length): Mp.aO (bY (cs,ns,os,fs,ls,ks) c k)=true:=by
 have sq:=aDj cs ns os fs ls ks c k;have l12:=(pG cs ns os fs ls ks (dP cs ns os fs ls ks h.1)).1;have hcl:c.length=ls.length:=h.2.1;refine aTX (by rw[sq.len];exact sq) (by rw[sq.len];omega) λi j i0 i1 j0 j1=>?_
 rw[sq.len]at i1 j1;rw[aG0 cs ns os fs ls ks c k i0 i1 j0 j1];unfold Mp.aDs Mp.nH;rcases aDQ h ls i j k.toNat (by omega)with g | g
 .rw[g];rfl
 .simp only[yP,qC,qE];right;omega
theorem bCr{m:List (List Int)}(h:Mp.aO m=true)(he:aAF m=0): aAE m=Mp.rQ m m.length:=by
 unfold aAF aAE Mp.aKT at *;rw[h]at he ⊢;simp only[qCj]at he ⊢;cases hb:Mp.aEM m with
 | true=>rw[hb]at he;simp only[qCj]at he;omega
 | false=>rfl
theorem aRl(cs:LC)(ns os:LB)(fs:List Off)(ls:List Line)(ks:List Cla){c:List Int}(h:nS (cs,ns,os,fs,ls,ks) c){o d:Int}(o0:0<=o)(o1:o<fs.length)(d0:0<=d)(d1:d<fs.length): aL1 (aAF (uM (cs,ns,os,fs,ls,ks) c)) (aAE (uM (cs,ns,os,fs,ls,ks) c)) o d:=by
 intro he;have hv:Mp.aO (uM (cs,ns,os,fs,ls,ks) c)=true:=aH0 cs ns os fs ls ks h (by omega) (qL _)
 have sq:Mp.Sq fs.length (uM (cs,ns,os,fs,ls,ks) c):=aDj cs ns os fs ls ks c _;have l12:=(pG cs ns os fs ls ks (dP cs ns os fs ls ks h.1)).1;rw[bCr hv he];have sN:=Mp.aHw (uM (cs,ns,os,fs,ls,ks) c) (uM (cs,ns,os,fs,ls,ks) c).length;have b1:=Mp.aBl hv (uM (cs,ns,os,fs,ls,ks) c).length (qK _) o d o0 (by rw[sq.len];exact o1) d0 (by rw[sq.len];exact d1)
 have b3:=Mp.aXp (k:=(uM (cs,ns,os,fs,ls,ks) c).length) (by rw[sq.len];omega)
 refine⟨sN.aDn o0 (by rw[sq.len];exact o1) d0 (by rw[sq.len];exact d1),.inr ?_⟩
 omega
theorem aOs(cs:LC)(ns os:LB)(fs:List Off)(ls:List Line)(ks:List Cla){c:List Int}{k:Int}(h:nS (cs,ns,os,fs,ls,ks) c)(k0:0<=k)(k1:k<ls.length)(hc:c.getD k.toNat 0≠aBF):
  (bY (cs,ns,os,fs,ls,ks) c k).set (bJ (cs,ns,os,fs,ls,ks) k).2.1.toNat (((bY (cs,ns,os,fs,ls,ks) c k).getD (bJ (cs,ns,os,fs,ls,ks) k).2.1.toNat []).set (bJ (cs,ns,os,fs,ls,ks) k).2.2.1.toNat (max (((bY (cs,ns,os,fs,ls,ks) c k).getD (bJ (cs,ns,os,fs,ls,ks) k).2.1.toNat []).getD (bJ (cs,ns,os,fs,ls,ks) k).2.2.1.toNat 0) (-(c.getD k.toNat 0))))=bY (cs,ns,os,fs,ls,ks) c (k+1):=by
 obtain⟨l0,l1,l2,l3,_⟩:=tZ cs ns os fs ls ks h.1 k0 k1;have e1:(k+1).toNat=k.toNat+1:=by omega
 have ha:=aG0 cs ns os fs ls ks c k l0 l1 l2 l3;have ha':((bY (cs,ns,os,fs,ls,ks) c k).getD (bJ (cs,ns,os,fs,ls,ks) k).2.1.toNat []).getD (bJ (cs,ns,os,fs,ls,ks) k).2.2.1.toNat 0=uK ls c k.toNat (bJ (cs,ns,os,fs,ls,ks) k).2.1 (bJ (cs,ns,os,fs,ls,ks) k).2.2.1:=ha;rw[ha'];unfold bY;rw[e1];show(bI _ (fs.length:Int)).set _ (((bI _ (fs.length:Int)).getD _ _).set _ _)=bI _ (fs.length:Int)
 rw[aOT l0 l1 l2 l3];refine aD2 λi j i0 i1 j0 j1=>?_
 show _=uK ls c (k.toNat+1) i j;rw[aB4];by_cases g:i=(bJ (cs,ns,os,fs,ls,ks) k).2.1/\j=(bJ (cs,ns,os,fs,ls,ks) k).2.2.1
 .rw[if_pos g,if_pos ⟨hc,g.1.symm,g.2.symm⟩,g.1,g.2]
 .rw[if_neg g,if_neg (λq=>g ⟨q.2.1.symm,q.2.2.symm⟩)]
theorem aOr(cs:LC)(ns os:LB)(fs:List Off)(ls:List Line)(ks:List Cla){c:List Int}{k:Int}(k0:0<=k)(hc:c.getD k.toNat 0=aBF): bY (cs,ns,os,fs,ls,ks) c k=bY (cs,ns,os,fs,ls,ks) c (k+1):=by
 have e1:(k+1).toNat=k.toNat+1:=by omega
 unfold bY;rw[e1];refine aD2 λi j i0 i1 j0 j1=>?_
 show _=uK ls c (k.toNat+1) i j;rw[aB4,if_neg (λq=>q.1 hc)]
theorem bGe: aI Tryz.prog G0 KQ1:=aH aPM<|aH (aC λ((cs,ns,os,fs,ls,ks),a,b,_)=>bB5 a b cs ns os fs ls ks)<|aH (aC λ((cs,ns,os,fs,ls,ks),a,b,_)=>aYY a b cs ns os fs ls ks) bAs
theorem aPX(c:List Int)(cs:LC)(ns os:LB)(fs:List Off)(ls:List Line)(ks:List Cla): aB Tryz.prog G0 74 [net cs ns os fs ls ks,.dat R c] [] ⟨nS (cs,ns,os,fs,ls,ks) c,.dat M (rM (cs,ns,os,fs,ls,ks) c),[]⟩:=by
 refine aA (c:=mkc KQ1) bGe bD hm (aNA c cs ns os fs ls ks ⟨rfl,λhp=>?_⟩)
 have hno:=dP cs ns os fs ls ks hp.1;have l40:=(aCG cs ns os fs ls ks hno).2;have l12:=(pG cs ns os fs ls ks hno).1;have hcl:c.length=ls.length:=hp.2.1;simp only[qc,Di,Es,Dk,qd,Dt,Ea,Eb,Dp,Ei,Eh,Ed,Ew,Df,Et,Dl,Dn,Eo,Dy,Dw,Dh,Dq,Ee,Fg,Dc,Dx,Dj,Dz,Ej,Du,Eu,Ez,En,Ef,Fe,Fj,Fh,Ep,Em,Ey,Fb,aB2 cs ns os fs ls ks];have en:(fs.length:Int).toNat=fs.length:=vO _
 have bl:∀g:Int->Int->Int,(bI g fs.length).length=fs.length:=λg=>by rw[Mp.nD,en]
 have ll:∀x,(bY (cs,ns,os,fs,ls,ks) c x).length=fs.length:=λx=>bl _
 refine⟨⟨by omega,by omega,λ_ _ _ _ _ _=>trivial⟩,⟨0,⟨hp,by omega,by omega⟩,rfl,rfl⟩,λx hx=>⟨λhlt=>?_,λhge=>?_⟩⟩
 .obtain⟨_,x0,x1⟩:=hx;obtain⟨l0,l1,l2,l3,_⟩:=tZ cs ns os fs ls ks hp.1 x0 hlt;have hrow:=(aDj cs ns os fs ls ks c x).row _ l0 l1;have hc:=hp.2.2 x x0 (by omega)
  have hx1:x+1<=(((cs,ns,os,fs,ls,ks):Net).2.2.2.2.1.length:Int):=(by show x+1<=(ls.length:Int);omega)
  refine⟨x0,hlt,x0,by omega,λhn=>?_,λhn=>?_⟩
  .have hl:(bY (cs,ns,os,fs,ls,ks) c x).length=(bI aLh fs.length).length:=by rw[ll,bl]
   have hb:(bJ (cs,ns,os,fs,ls,ks) x).2.1<((bY (cs,ns,os,fs,ls,ks) c x).length:Int):=by rw[ll];exact l1
   have hr:(bJ (cs,ns,os,fs,ls,ks) x).2.2.1<(((bY (cs,ns,os,fs,ls,ks) c x).getD (bJ (cs,ns,os,fs,ls,ks) x).2.1.toNat []).length:Int):=by rw[hrow];exact l3
   refine⟨hl,l0,hb,hl,hl,l0,hb,hl,hl,l2,hr,hl,x0,by omega,?_,hl,l2,hr,hl,dJ (by omega),x+1,⟨hp,by omega,hx1⟩,⟨rfl,aOs cs ns os fs ls ks hp x0 hlt hn⟩,by omega⟩
   rcases hc with hc | hc
   .exact(hn hc).elim
   .exact dJ (by omega)
  .exact⟨dJ (by omega),x+1,⟨hp,by omega,hx1⟩,⟨rfl,aOr cs ns os fs ls ks x0 hn⟩,by omega⟩
 .obtain⟨_,x0,x1⟩:=hx;have x1:x<=ls.length:=x1;have e:x=ls.length:=by omega
  have el:bY (cs,ns,os,fs,ls,ks) c x=uM (cs,ns,os,fs,ls,ks) c:=by rw[e];rfl
  rw[el];refine⟨?_,?_,?_,?_⟩
  all_goals first
   | (rw[<- el,ll,bl])
   | (show List.length _<=20;rw[<- el,ll];omega)
   | exact⟨by omega,by omega,λi j i0 i1 j0 j1=>aRl cs ns os fs ls ks hp i0 i1 j0 j1⟩
   | rfl
theorem find_range{m:Nat}{p:Nat->Bool}{i:Nat}(hi:i<m)(hp:p i=true)(h:(List.range i).all (λj=>!p j)=true): (List.range m).find? p=some i:=by
 have e:m=i+(m-i-1+1):=by omega
 rw[e,List.range_add,List.find?_append];have:(List.range i).find? p=none:=by
  rw[qCk];intro x hx;have:=qM.1 h x hx;simpa using this
 rw[this,List.range_succ_eq_map,zG,qBe];simp[hp]
theorem aIc{m:Nat}{p:Nat->Bool}(h:(List.range m).all (λj=>!p j)=true): (List.range m).find? p=none:=by
 rw[qCk];intro x hx;have:=qM.1 h x hx;simpa using this
theorem aF0{n:Net}{c:List Int}{b:List (List Int)}{o d x:Int}(hx:aF1 n c b o d x)(x1:x<n.2.2.2.2.1.length)(h:aDT n c b o d x=false): aF1 n c b o d (x+1):=by
 obtain⟨hp,x0,_,ha⟩:=hx;refine⟨hp,by omega,by omega,?_⟩
 rw[show(x+1).toNat=x.toNat+1 by omega,zT,kX,ha,qAi,vC x0,h];rfl
theorem aG5{n:Net}{c:List Int}{b:List (List Int)}{o d i:Int}: aDT n c b o d i=true↔(bJ n i).2.1=o/\c.getD i.toNat 0≠aBF/\0<=at2 b (bJ n i).2.2.1 d/\c.getD i.toNat 0+at2 b (bJ n i).2.2.1 d=at2 b o d:=by
 unfold aDT;simp only[qC,qE,qDi]
theorem aJT{n:Net}{c:List Int}{b:List (List Int)}{o d i:Int}(h:¬((bJ n i).2.1=o/\c.getD i.toNat 0≠aBF/\0<=at2 b (bJ n i).2.2.1 d/\c.getD i.toNat 0+at2 b (bJ n i).2.2.1 d=at2 b o d)): aDT n c b o d i=false:=by
 rw[<- xI,aG5];exact h
theorem bCp(c:List Int)(b:List (List Int))(o d:Int)(cs:LC)(ns os:LB)(fs:List Off)(ls:List Line)(ks:List Cla): aB Tryz.prog G0 77 [net cs ns os fs ls ks,.dat R c,.dat M b,.dat I o,.dat I d] [] ⟨aF2 (cs,ns,os,fs,ls,ks) c b o d,.dat I (aGq (cs,ns,os,fs,ls,ks) c b o d),[]⟩:=by
 refine aA (c:=mkc KQ1) bGe bD hm (aYg c b o d cs ns os fs ls ks ⟨rfl,λhp=>?_⟩)
 obtain⟨hc,hb,o0,o1,d0,d1⟩:=hp;have hno:=dP cs ns os fs ls ks hc.1;have l40:=(aCG cs ns os fs ls ks hno).2;have hcl:c.length=ls.length:=hc.2.1;have hat:∀i j:Int,(b.getD i.toNat []).getD j.toNat 0=at2 b i j:=λ_ _=>rfl
 simp only[qc,Di,Es,Dk,qd,Dt,Ea,Eb,Dp,Ei,Eh,Ed,Ew,Df,Et,Dl,Dn,Eo,Dy,Dw,Dh,Dq,Ee,Fg,Dc,Dx,Dj,Dz,Ej,Du,Eu,Ez,En,Ef,Fe,Fj,Fh,Ep,Em,Ey,Fb,aB2 cs ns os fs ls ks,hat];refine⟨⟨⟨hc,hb,o0,o1,d0,d1⟩,by omega,by omega,rfl⟩,λx hx=>⟨λhlt=>?_,λhge=>?_⟩⟩
 .obtain⟨hp,x0,x1,ha⟩:=id hx;obtain⟨l0,l1,l2,l3,_⟩:=tZ cs ns os fs ls ks hc.1 x0 hlt;obtain⟨⟨i1,i2,i3,i4⟩,i5,i6⟩:=hb _ _ l2 l3 d0 d1;obtain⟨⟨j1,j2,j3,j4⟩,j5,j6⟩:=hb _ _ o0 o1 d0 d1;have hcx:=hc.2.2 x x0 (by omega)
  have hx1:x+1<=(((cs,ns,os,fs,ls,ks):Net).2.2.2.2.1.length:Int):=(by show x+1<=(ls.length:Int);omega)
  refine⟨x0,hlt,λ_=>x0,λ_=>by omega,λ_=>l2,λ_=>i2,λ_=>d0,λ_=>i4,λh=>⟨dJ (by omega),x+1,aF0 hx hlt (aJT λq=>?_),rfl,by omega⟩,λh=>⟨x0,by omega,l2,i2,d0,i4,?_,o0,j2,d0,j4,λh2=>?_,λh2=>⟨dJ (by omega),x+1,aF0 hx hlt (aJT λq=>h2 q.2.2.2),rfl,by omega⟩⟩⟩
  .rcases h with(h | h) | h
   .exact h q.1
   .exact q.2.1 h
   .omega
  .rcases hcx with hcx | hcx
   .exact(h.1.2 hcx).elim
   .unfold inR;simp only;omega
  .have hbst:aDT (cs,ns,os,fs,ls,ks) c b o d x=true:=aG5.2 ⟨by first | exact h.1.1 | exact qBn.1 h.1.1,h.1.2,by omega,h2⟩
   unfold aGq;rw[find_range (i:=x.toNat) (by show x.toNat<ls.length;omega) (by rw[vC x0];exact hbst) ha]
   show x=((x.toNat:Nat):Int);omega
 .obtain⟨hp,x0,x1,ha⟩:=hx;have x1:x<=ls.length:=x1;have e:x.toNat=ls.length:=by omega
  rw[e]at ha;unfold aGq;rw[aIc (show(List.range ((cs,ns,os,fs,ls,ks):Net).2.2.2.2.1.length).all _=true from ha)]
theorem bGX: aI Tryz.prog G0 KQ2:=aH (aC λ((cs,ns,os,fs,ls,ks),c,_)=>aPX c cs ns os fs ls ks)<|aH (aC λ((cs,ns,os,fs,ls,ks),c,b,o,d,_)=>bCp c b o d cs ns os fs ls ks) bGe
theorem aYI(b:List (List Int))(c:List Int)(o d:Int)(cs:LC)(ns os:LB)(fs:List Off)(ls:List Line)(ks:List Cla): aB Tryz.prog G0 76 [.dat I o,.dat I d,.ip M b,.ip N (cs,ns,os,fs,ls,ks),.ip R c] [] ⟨aF2 (cs,ns,os,fs,ls,ks) c b o d,.dat I (aFo (cs,ns,os,fs,ls,ks) c b o d),[]⟩:=by
 refine aA (c:=mkc KQ2) bGX bD hm (aTt b c o d cs ns os fs ls ks ⟨rfl,λhp=>?_⟩)
 obtain⟨⟨j1,j2,j3,j4⟩,j5,j6⟩:=hp.2.1 o d hp.2.2.1 hp.2.2.2.1 hp.2.2.2.2.1 hp.2.2.2.2.2;have hat:∀i j:Int,(b.getD i.toNat []).getD j.toNat 0=at2 b i j:=λ_ _=>rfl
 simp only[qc,Di,Es,Dk,qd,Dt,Ea,Eb,Dp,Ei,Eh,Ed,Ew,Df,Et,Dl,Dn,Eo,Dy,Dw,Dh,Dq,Ee,Fg,Dc,Dx,Dj,Dz,Ej,Du,Eu,Ez,En,Ef,Fe,Fj,Fh,Ep,Em,Ey,Fb,hat];refine⟨λ_=>j1,λ_=>j2,λ_=>j3,λ_=>j4,λh=>?_,λh=>⟨hp,?_⟩⟩
 .unfold aFo;exact(if_pos h).symm
 .unfold aFo;exact(if_neg (by omega)).symm
theorem bGW: aI Tryz.prog G0 KQ3:=aH (λargs m c hc=>by
 split at hc
 .rename_i cs ns os fs ls ks b n c;cases hc;exact(aPV _ _ cs ns os fs ls ks).args λC us hG hu=>nO hu λv hv=>uX (by kernel_rfl) rfl (λx y=>by obtain⟨a1,a2,a3,a4,a5,a6⟩:=n;exact aYI b c x y a1 a2 a3 a4 a5 a6) hG hv
 .cases hc) bGX
theorem bDA(cs:LC)(ns os:LB)(fs:List Off)(ls:List Line)(ks:List Cla){c:List Int}(h:nS (cs,ns,os,fs,ls,ks) c): aSj (cs,ns,os,fs,ls,ks) (rM (cs,ns,os,fs,ls,ks) c):=by
 intro o d o0 o1 d0 d1;have sq:Mp.Sq fs.length (rM (cs,ns,os,fs,ls,ks) c):=Mp.aFZ _ _;refine⟨sq.aDn o0 o1 d0 d1,?_⟩;have ha:at2 (rM (cs,ns,os,fs,ls,ks) c) o d=aSO (aAF (uM (cs,ns,os,fs,ls,ks) c)) (aAE (uM (cs,ns,os,fs,ls,ks) c)) o d:=Mp.aC0 _ _ o d o0 o1 d0 d1;have hp:=aRl cs ns os fs ls ks h o0 o1 d0 d1;rw[ha];unfold aL1 at hp;unfold aSO;split
 .rename_i he;obtain⟨_,hp⟩:=hp he;split
  .omega
  .rcases hp with hp | hp
   .contradiction
   .omega
 .omega
theorem aYz(a b:Int)(cs:LC)(ns os:LB)(fs:List Off)(ls:List Line)(ks:List Cla): aB Tryz.prog G0 23 [net cs ns os fs ls ks,.dat I a,.dat I b] [] ⟨True,.dat M (aAW (cs,ns,os,fs,ls,ks) a b),[]⟩:=by
 refine aA (c:=mkc KQ3) bGW bD hm (aTi a b cs ns os fs ls ks ⟨rfl,λ_=>?_⟩)
 simp only[qc,Di,Es,Dk,qd,Dt,Ea,Eb,Dp,Ei,Eh,Ed,Ew,Df,Et,Dl,Dn,Eo,Dy,Dw,Dh,Dq,Ee,Fg,Dc,Dx,Dj,Dz,Ej,Du,Eu,Ez,En,Ef,Fe,Fj,Fh,Ep,Em,Ey,Fb];refine⟨λh=>?_,λh=>?_⟩
 .unfold aAW;rw[h];rfl
 .have hc:=aV2 cs ns os fs ls ks h;have l12:=(pG cs ns os fs ls ks (dP cs ns os fs ls ks hc.1)).1;refine⟨h,hc,⟨by omega,by omega,λi j i0 i1 j0 j1=>⟨hc,bDA cs ns os fs ls ks hc,i0,i1,j0,j1⟩⟩,?_⟩
  unfold aAW;rw[h];rfl
end Go.Eng.Sv
set_option maxRecDepth 100000
noncomputable section
namespace Go.Eng.Sv
open Go.Proofs
def aUX(n:Net)(nx:List (List Int))(k o a b:Int): List Int:=(List.range n.2.2.2.1.length).map λd:Nat=>uI n nx k o d a b
def aSG(n:Net)(nx:List (List Int))(k a b:Int): List (List Int):=(List.range n.2.2.2.1.length).map λo:Nat=>aUX n nx k o a b
def aPL(n:Net)(nx:List (List Int))(a b:Int): Bool:=decide (0<=a/\a<b/\b<=600/\b-a<=60)&&(bZ n&&aBk n nx)
def aEE(n:Net)(nx:List (List Int))(a b:Int): List (List (List Int)):=if aPL n nx a b=true then(List.range n.2.2.2.2.2.length).map λk:Nat=>aSG n nx k a b else[]
def upF{α:Type}(g:Int->α)(z:α)(l k:Int): List α:=((List.range k.toNat).map λi:Nat=>g i)++List.replicate (l-k).toNat z
def upI(g:Int->Int)(l k:Int): List Int:=upF g 0 l k
def aO3(g:Int->List Int)(l k:Int): List (List Int):=upF g [] l k
def upM(g:Int->List (List Int))(l k:Int): List (List (List Int)):=upF g [] l k
def aBW(l:Int)(p:Int->Prop): Prop:=(0<=l/\l<=1000000)/\∀i,0<=i->i<l->p i
def toI(l k:Int): Prop:=0<=k/\k<=l
def aQ8(n:Net)(nx:List (List Int))(k o a b d:Int): Prop:=cellP n nx k o d a b
def aQ9(n:Net)(nx:List (List Int))(k o a b d:Int): Int:=uI n nx k o d a b
def aQJ(n:Net)(nx:List (List Int))(k a b o:Int): Prop:=bEK n nx a b/\aIq n k/\bFJ n o
def aN4(n:Net)(nx:List (List Int))(k a b o:Int): List Int:=aUX n nx k o a b
def aPP(n:Net)(nx:List (List Int))(a b k:Int): Prop:=bEK n nx a b/\aIq n k
def aKQ(n:Net)(nx:List (List Int))(a b k:Int): List (List Int):=aSG n nx k a b
def bCK(l:Int)(g:Int->Int): Ann:=⟨λid s=>match id with
 | 3=>match s.sig.T 5 with
  | .buf nm _=>some {α:=Int,inv:=λk=>toI l k,st:=λk=>pX (put s [(11,.dat I k)]) nm (.buf 3 I (upI g l k) []),μ:=λk=>Dc (Dh l k)}
  | _=>none
 | _=>none,λ_ _=>none,λ_ _=>none⟩
def bCI(l:Int)(g:Int->List Int): Ann:=⟨λid s=>match id with
 | 3=>match s.sig.T 5 with
  | .buf nm _=>some {α:=Int,inv:=λk=>toI l k,st:=λk=>pX (put s [(11,.dat I k)]) nm (.buf 36 R (aO3 g l k) []),μ:=λk=>Dc (Dh l k)}
  | _=>none
 | _=>none,λ_ _=>none,λ_ _=>none⟩
def bCJ(l:Int)(g:Int->List (List Int)): Ann:=⟨λid s=>match id with
 | 3=>match s.sig.T 5 with
  | .buf nm _=>some {α:=Int,inv:=λk=>toI l k,st:=λk=>pX (put s [(11,.dat I k)]) nm (.buf 32 M (upM g l k) []),μ:=λk=>Dc (Dh l k)}
  | _=>none
 | _=>none,λ_ _=>none,λ_ _=>none⟩
theorem aTh(l:Int)(p:Int->Prop)(g:Int->Int)(hvc:
 let c1:=Ep l (0:Int);true/\(aBW l p->0<=l/\(Dx (8)*l)<=281474976710656/\l<=9223372036854775807/\Dj c1=Dc l/\(∃x,toI l x/\AV.clo1 (Ty.int IntKind.i64) (Ty.int IntKind.i64) p g=AV.clo1 (Ty.int IntKind.i64) (Ty.int IntKind.i64) p g/\Value.slice none (0) (0)=Value.slice none (0) (0)/\Dc l=Dc l/\Int.ofNat (Dc l)=Int.ofNat (Dc l)/\0=x/\c1=upI g l x/\True)/\∀(x:Int),let c2:=Dp x (Int.ofNat (Dc l));let c3:=Dj (upI g l x);let c4:=x+1;toI l x->(c2->p x/\c3=Dc l/\0<=x/\x<Dx c3/\c3=Dc l/\inR IntKind.i64 c4/\∃y,toI l y/\(AV.clo1 (Ty.int IntKind.i64) (Ty.int IntKind.i64) p g=AV.clo1 (Ty.int IntKind.i64) (Ty.int IntKind.i64) p g/\Value.slice none (0) (0)=Value.slice none (0) (0)/\Dc l=Dc l/\Int.ofNat (Dc l)=Int.ofNat (Dc l)/\c4=y/\En (upI g l x) (Dc x) (g x)=upI g l y/\True)/\Dc (l-y)<Dc (l-x))/\(c2=false->c3=Dc l/\upI g l x=upI g l l/\True))):
  evF (mkc KC1) (lvA [(3,[1,4,5,6,10,11])] (bCK l g)) 53 [.dat I l,.clo1 I I p g] [] ⟨aBW l p,.dat R (upI g l l),[]⟩:=@of_eq _ _ (by kernel_rfl) hvc
theorem aTf(l:Int)(p:Int->Prop)(g:Int->List Int)(hvc:
 let c1:=Ep l (Dt Int);true/\(aBW l p->0<=l/\(Dx (24)*l)<=281474976710656/\l<=9223372036854775807/\Dj c1=Dc l/\(∃x,toI l x/\AV.clo1 (Ty.int IntKind.i64) (Ty.int IntKind.i64).sl p g=AV.clo1 (Ty.int IntKind.i64) (Ty.int IntKind.i64).sl p g/\Value.slice none (0) (0)=Value.slice none (0) (0)/\Dc l=Dc l/\Int.ofNat (Dc l)=Int.ofNat (Dc l)/\0=x/\c1=aO3 g l x/\True)/\∀(x:Int),let c2:=Dp x (Int.ofNat (Dc l));let c3:=Dj (aO3 g l x);let c4:=x+1;toI l x->(c2->p x/\c3=Dc l/\0<=x/\x<Dx c3/\c3=Dc l/\inR IntKind.i64 c4/\∃y,toI l y/\(AV.clo1 (Ty.int IntKind.i64) (Ty.int IntKind.i64).sl p g=AV.clo1 (Ty.int IntKind.i64) (Ty.int IntKind.i64).sl p g/\Value.slice none (0) (0)=Value.slice none (0) (0)/\Dc l=Dc l/\Int.ofNat (Dc l)=Int.ofNat (Dc l)/\c4=y/\En (aO3 g l x) (Dc x) (g x)=aO3 g l y/\True)/\Dc (l-y)<Dc (l-x))/\(c2=false->c3=Dc l/\aO3 g l x=aO3 g l l/\True))):
  evF (mkc KC1) (lvA [(3,[1,4,5,6,10,11])] (bCI l g)) 51 [.dat I l,.clo1 I R p g] [] ⟨aBW l p,.dat M (aO3 g l l),[]⟩:=@of_eq _ _ (by kernel_rfl) hvc
theorem aTg(l:Int)(p:Int->Prop)(g:Int->List (List Int))(hvc:
 let c1:=Ep l (Dt (List Int));true/\(aBW l p->0<=l/\(Dx (24)*l)<=281474976710656/\l<=9223372036854775807/\Dj c1=Dc l/\(∃x,toI l x/\AV.clo1 (Ty.int IntKind.i64) (Ty.int IntKind.i64).sl.sl p g=AV.clo1 (Ty.int IntKind.i64) (Ty.int IntKind.i64).sl.sl p g/\Value.slice none (0) (0)=Value.slice none (0) (0)/\Dc l=Dc l/\Int.ofNat (Dc l)=Int.ofNat (Dc l)/\0=x/\c1=upM g l x/\True)/\∀(x:Int),let c2:=Dp x (Int.ofNat (Dc l));let c3:=Dj (upM g l x);let c4:=x+1;toI l x->(c2->p x/\c3=Dc l/\0<=x/\x<Dx c3/\c3=Dc l/\inR IntKind.i64 c4/\∃y,toI l y/\(AV.clo1 (Ty.int IntKind.i64) (Ty.int IntKind.i64).sl.sl p g=AV.clo1 (Ty.int IntKind.i64) (Ty.int IntKind.i64).sl.sl p g/\Value.slice none (0) (0)=Value.slice none (0) (0)/\Dc l=Dc l/\Int.ofNat (Dc l)=Int.ofNat (Dc l)/\c4=y/\En (upM g l x) (Dc x) (g x)=upM g l y/\True)/\Dc (l-y)<Dc (l-x))/\(c2=false->c3=Dc l/\upM g l x=upM g l l/\True))):
  evF (mkc KC1) (lvA [(3,[1,4,5,6,10,11])] (bCJ l g)) 49 [.dat I l,.clo1 I M p g] [] ⟨aBW l p,.dat (.sl M) (upM g l l),[]⟩:=@of_eq _ _ (by kernel_rfl) hvc
def KC2: Kt:=kOr 55 (aP [.ptr N,.val M,.val I,.val I,.val I,.val I,.val I] (λ(n,nx,k,o,d,a,b,_)=>cellP n nx k o d a b) λ(n,nx,k,o,d,a,b,_)=>.dat I (uI n nx k o d a b)) KC1
theorem aXJ(d k o a b:Int)(nx:List (List Int))(n:Net)(hvc:
 true/\(aQ8 n nx k o a b d->cellP n nx k o d a b/\uI n nx k o d a b=aQ9 n nx k o a b d/\True)):
  evF (mkc KC2) aQ 54 [.dat I d,.ip N n,.ip M nx,.ip I k,.ip I o,.ip I a,.ip I b] [] ⟨aQ8 n nx k o a b d,.dat I (aQ9 n nx k o a b d),[]⟩:=@of_eq _ _ (by kernel_rfl) hvc
def aQF(args:List AV)(m:Mem): Option aAb:=match m,args with
 | [],[.dat (.int .i64) l,.fn f caps]=>if f=54 then match ofK [.ptr N,.ptr M,.ptr I,.ptr I,.ptr I,.ptr I] caps with
  | some (n,nx,k,o,a,b,_)=>some ⟨aBW l (aQ8 n nx k o a b),.dat R (upI (aQ9 n nx k o a b) l l),[]⟩
  | none=>none
  else none
 | _,_=>none
def KC3: Kt:=kOr 53 aQF KC2
theorem aXK(o k a b:Int)(nx:List (List Int))(n:Net)(hvc:
 let c1:=Df n.2.2.2.1;true/\(aQJ n nx k a b o->aBW c1 (aQ8 n nx k o a b)/\upI (aQ9 n nx k o a b) c1 c1=aN4 n nx k a b o/\True)):
  evF (mkc KC3) aQ 52 [.dat I o,.ip N n,.ip M nx,.ip I k,.ip I a,.ip I b] [] ⟨aQJ n nx k a b o,.dat R (aN4 n nx k a b o),[]⟩:=@of_eq _ _ (by kernel_rfl) hvc
def aQB(args:List AV)(m:Mem): Option aAb:=match m,args with
 | [],[.dat (.int .i64) l,.fn f caps]=>if f=52 then match ofK [.ptr N,.ptr M,.ptr I,.ptr I,.ptr I] caps with
  | some (n,nx,k,a,b,_)=>some ⟨aBW l (aQJ n nx k a b),.dat M (aO3 (aN4 n nx k a b) l l),[]⟩
  | none=>none
  else none
 | _,_=>none
def KC4: Kt:=kOr 51 aQB KC3
theorem aXL(k a b:Int)(nx:List (List Int))(n:Net)(hvc:
 let c1:=Df n.2.2.2.1;true/\(aPP n nx a b k->aBW c1 (aQJ n nx k a b)/\aO3 (aN4 n nx k a b) c1 c1=aKQ n nx a b k/\True)):
  evF (mkc KC4) aQ 50 [.dat I k,.ip N n,.ip M nx,.ip I a,.ip I b] [] ⟨aPP n nx a b k,.dat M (aKQ n nx a b k),[]⟩:=@of_eq _ _ (by kernel_rfl) hvc
def aQD(args:List AV)(m:Mem): Option aAb:=match m,args with
 | [],[.dat (.int .i64) l,.fn f caps]=>if f=50 then match ofK [.ptr N,.ptr M,.ptr I,.ptr I] caps with
  | some (n,nx,a,b,_)=>some ⟨aBW l (aPP n nx a b),.dat (.sl M) (upM (aKQ n nx a b) l l),[]⟩
  | none=>none
  else none
 | _,_=>none
def KC5: Kt:=kOr 49 aQD KC4
theorem aPi(nx:List (List Int))(a b:Int)(cs:LC)(ns os:LB)(fs:List Off)(ls:List Line)(ks:List Cla)(hvc:
 let c1:=Dp a 0;let c2:=Dk c1;let c3:=Ec c1 true (Eh b a);let c4:=Dk c3;let c5:=Ec c3 true (Ei b 600);let c6:=Dk c5;let c7:=Ec c5 true (Ei (b-a) 60);let c8:=(cs,ns,os,fs,ls,ks);let c9:=aEE c8 nx a b;let c10:=Dk (bZ c8);let c11:=Dk c10;let c12:=Ec c10 true (Dk (aBk c8 nx));let c13:=Df ks;true/\(gZ nx->(c2->c2->c2)/\(c2->c2->c2)/\(Di true c2->c2)/\(c4->c4->c4)/\(Di true c4->c4)/\(c6->c6->c6)/\(c6->c6->c6)/\(c6->inR IntKind.i64 (b-a))/\(c6->c6->c6)/\(Di true c6->c6)/\(c7->c9=Dt (List (List Int))/\True)/\(c7=false->True/\(c11->c11->c11)/\(c11->gZ nx)/\(c11->c11->c11)/\(Di true c11->c11)/\(c12->c9=Dt (List (List Int))/\True)/\(c12=false->aBW c13 (aPP c8 nx a b)/\upM (aKQ c8 nx a b) c13 c13=c9/\True)))):
  evF (mkc KC5) aQ 13 [net cs ns os fs ls ks,.dat M nx,.dat I a,.dat I b] [] ⟨gZ nx,.dat (.sl M) (aEE (cs,ns,os,fs,ls,ks) nx a b),[]⟩:=@of_eq _ _ (by kernel_rfl) hvc
theorem aEB{α:Type}{g:Int->α}{z:α}{l k:Int}(h:toI l k): (upF g z l k).length=l.toNat:=by
 obtain⟨h1,h2⟩:=h;unfold upF;rw[qF,vF,vK,wJ];omega
theorem aCk{α:Type}{g:Int->α}{z:α}{l:Int}: List.replicate l.toNat z=upF g z l 0:=by
 unfold upF;simp
theorem aDa{α:Type}{g:Int->α}{z:α}{l:Int}: upF g z l l=(List.range l.toNat).map λi:Nat=>g i:=by
 unfold upF;simp
theorem aHp{α:Type}{g:Int->α}{z:α}{l k:Int}(k0:0<=k)(k1:k<l): (upF g z l k).set k.toNat (g k)=upF g z l (k+1):=by
 unfold upF;have e:(k+1).toNat=k.toNat+1:=by omega
 have e2:(l-k).toNat=(l-(k+1)).toNat+1:=by omega
 rw[e,e2,zT,yG,qBc,List.set_append,if_neg (by simp)]
 rw[vF,vK,qBz,List.set_cons_zero,List.map_singleton,wG];have e3:((k.toNat:Nat):Int)=k:=by omega
 rw[e3];rfl
theorem rows_ok{α:Type}{g:Int->α}{z:α}{l:Int}{p:Int->Prop}(l0:0<=l)(l1:l<=1000000)(hp:∀i,0<=i->i<l->p i){q:Int->Prop}{m:Int}(hm:m<=100)(m0:0<=m)(hq:∀x,0<=x/\x<=1000001->q x):
  0<=l/\m*l<=281474976710656/\l<=9223372036854775807/\(List.replicate l.toNat z).length=l.toNat/\(∃x,toI l x/\0=x/\List.replicate l.toNat z=upF g z l x)/\
  ∀x,toI l x->(x<((l.toNat:Nat):Int)->p x/\(upF g z l x).length=l.toNat/\0<=x/\x<((upF g z l x).length:Int)/\(upF g z l x).length=l.toNat/\q (x+1)/\∃y,toI l y/\(x+1=y/\(upF g z l x).set x.toNat (g x)=upF g z l y)/\(l-y).toNat<(l-x).toNat)/\
   (¬x<((l.toNat:Nat):Int)->(upF g z l x).length=l.toNat/\upF g z l x=upF g z l l):=by
 have hml:m*l<=100*1000000:=xK hm l1 l0 (by omega)
 refine⟨l0,by omega,by omega,by simp,⟨0,⟨by omega,l0⟩,rfl,aCk⟩,λx hx=>⟨λhlt=>?_,λhge=>?_⟩⟩
 .have hl:=aEB (g:=g) (z:=z) hx;have h0:=hx.1;exact⟨hp x h0 (by omega),hl,h0,by omega,hl,hq _ (by omega),x+1,⟨by omega,by omega⟩,⟨rfl,aHp h0 (by omega)⟩,by omega⟩
 .have hl:=aEB (g:=g) (z:=z) hx;obtain⟨h0,h1⟩:=hx;exact⟨hl,by rw[show x=l by omega]⟩
theorem aYy(l:Int)(p:Int->Prop)(g:Int->Int): aB Tryz.prog G0 53 [.dat I l,.clo1 I I p g] [] ⟨aBW l p,.dat R (upI g l l),[]⟩:=by
 refine aA (c:=mkc KC1) bDK bD hm (aTh l p g ⟨rfl,λhp=>?_⟩)
 obtain⟨⟨l0,l1⟩,hp⟩:=hp;simp only[qc,Di,Es,Dk,qd,Dt,Ea,Eb,Dp,Ei,Eh,Ed,Ew,Df,Et,Dl,Dn,Eo,Dy,Dw,Dh,Dq,Ee,Fg,Dc,Dx,Dj,Dz,Ej,Du,Eu,Ez,En,Ef,Fe,Fj,Fh,Ep,Em,Ey,Fb];exact rows_ok l0 l1 hp (by omega) (by omega) (λx hx=>bC (by omega))
theorem aYw(l:Int)(p:Int->Prop)(g:Int->List Int): aB Tryz.prog G0 51 [.dat I l,.clo1 I R p g] [] ⟨aBW l p,.dat M (aO3 g l l),[]⟩:=by
 refine aA (c:=mkc KC1) bDK bD hm (aTf l p g ⟨rfl,λhp=>?_⟩)
 obtain⟨⟨l0,l1⟩,hp⟩:=hp;simp only[qc,Di,Es,Dk,qd,Dt,Ea,Eb,Dp,Ei,Eh,Ed,Ew,Df,Et,Dl,Dn,Eo,Dy,Dw,Dh,Dq,Ee,Fg,Dc,Dx,Dj,Dz,Ej,Du,Eu,Ez,En,Ef,Fe,Fj,Fh,Ep,Em,Ey,Fb];exact rows_ok l0 l1 hp (by omega) (by omega) (λx hx=>bC (by omega))
theorem aYx(l:Int)(p:Int->Prop)(g:Int->List (List Int)): aB Tryz.prog G0 49 [.dat I l,.clo1 I M p g] [] ⟨aBW l p,.dat (.sl M) (upM g l l),[]⟩:=by
 refine aA (c:=mkc KC1) bDK bD hm (aTg l p g ⟨rfl,λhp=>?_⟩)
 obtain⟨⟨l0,l1⟩,hp⟩:=hp;simp only[qc,Di,Es,Dk,qd,Dt,Ea,Eb,Dp,Ei,Eh,Ed,Ew,Df,Et,Dl,Dn,Eo,Dy,Dw,Dh,Dq,Ee,Fg,Dc,Dx,Dj,Dz,Ej,Du,Eu,Ez,En,Ef,Fe,Fj,Fh,Ep,Em,Ey,Fb];exact rows_ok l0 l1 hp (by omega) (by omega) (λx hx=>bC (by omega))
theorem bG4: aI Tryz.prog G0 KC2:=aH (aC λ(n,nx,k,o,d,a,b,_)=>aYC k o d a b nx n) bDK
theorem bB0(d k o a b:Int)(nx:List (List Int))(n:Net): aB Tryz.prog G0 54 [.dat I d,.ip N n,.ip M nx,.ip I k,.ip I o,.ip I a,.ip I b] [] ⟨aQ8 n nx k o a b d,.dat I (aQ9 n nx k o a b d),[]⟩:=
 aA (c:=mkc KC2) bG4 bD hm (aXJ d k o a b nx n ⟨rfl,λhp=>⟨hp,rfl,trivial⟩⟩)
theorem aFN{P:Program}{C:Ctx}{f:FuncId}{l:List AK}{caps:List AV}{x:AKs l}{v:Value}(h:ofK l caps=some x)(hv:(AV.fn f caps).rel P C v): (AV.fn f (avK l x)).rel P C v:=by
 obtain⟨us,rfl,hc⟩:=hv;exact⟨us,rfl,lQ h hc⟩
theorem aQE: ∀args m c,aQF args m=some c->aB Tryz.prog G0 53 args m c:=by
 intro args m c hc;unfold aQF at hc;split at hc
 case h_2=>cases hc
 rename_i l f caps;split at hc
 case isFalse=>cases hc
 rename_i hf;subst hf;split at hc
 case h_2=>cases hc
 rename_i n nx k o a b _ hx;cases hc;exact(aYy _ _ _).args λC us hG hu=>nO hu λv hv=>uY (by kernel_rfl) rfl (λx=>bB0 x k o a b nx n) hG (aFN hx hv)
theorem bG3: aI Tryz.prog G0 KC3:=aH aQE bG4
theorem bAe(cs:LC)(ns os:LB)(fs:List Off)(ls:List Line)(ks:List Cla)(h:noF (cs,ns,os,fs,ls,ks)=true): (ks.length:Int)<=4:=by
 have:=((aEn (by decide)).1 (rZ cs ns os fs ls ks h).2.2.2.2.2).1
 simpa[aX]using this
theorem aAZ(cs:LC)(ns os:LB)(fs:List Off)(ls:List Line)(ks:List Cla)(h:bZ (cs,ns,os,fs,ls,ks)=true): (fs.length:Int)<=12/\(ks.length:Int)<=1000000:=by
 have hno:=dP cs ns os fs ls ks h;exact⟨(pG cs ns os fs ls ks hno).1,by have:=bAe cs ns os fs ls ks hno;omega⟩
theorem bB3(o k a b:Int)(nx:List (List Int))(n:Net): aB Tryz.prog G0 52 [.dat I o,.ip N n,.ip M nx,.ip I k,.ip I a,.ip I b] [] ⟨aQJ n nx k a b o,.dat R (aN4 n nx k a b o),[]⟩:=by
 refine aA (c:=mkc KC3) bG3 bD hm (aXK o k a b nx n ⟨rfl,λ⟨ht,hk,ho⟩=>?_⟩)
 simp only[qc,Di,Es,Dk,qd,Dt,Ea,Eb,Dp,Ei,Eh,Ed,Ew,Df,Et,Dl,Dn,Eo,Dy,Dw,Dh,Dq,Ee,Fg,Dc,Dx,Dj,Dz,Ej,Du,Eu,Ez,En,Ef,Fe,Fj,Fh,Ep,Em,Ey,Fb];obtain⟨q1,q2⟩:=aAZ n.1 n.2.1 n.2.2.1 n.2.2.2.1 n.2.2.2.2.1 n.2.2.2.2.2 ht.1;have q1:(n.2.2.2.1.length:Int)<=12:=q1;refine⟨⟨⟨by omega,by omega⟩,λd d0 d1=>⟨ht,hk,ho,d0,d1⟩⟩,?_⟩
 unfold upI aN4 aUX;rw[aDa,vO];rfl
theorem aQA: ∀args m c,aQB args m=some c->aB Tryz.prog G0 51 args m c:=by
 intro args m c hc;unfold aQB at hc;split at hc
 case h_2=>cases hc
 rename_i l f caps;split at hc
 case isFalse=>cases hc
 rename_i hf;subst hf;split at hc
 case h_2=>cases hc
 rename_i n nx k a b _ hx;cases hc;exact(aYw _ _ _).args λC us hG hu=>nO hu λv hv=>uY (by kernel_rfl) rfl (λx=>bB3 x k a b nx n) hG (aFN hx hv)
theorem bG2: aI Tryz.prog G0 KC4:=aH aQA bG3
theorem bB4(k a b:Int)(nx:List (List Int))(n:Net): aB Tryz.prog G0 50 [.dat I k,.ip N n,.ip M nx,.ip I a,.ip I b] [] ⟨aPP n nx a b k,.dat M (aKQ n nx a b k),[]⟩:=by
 refine aA (c:=mkc KC4) bG2 bD hm (aXL k a b nx n ⟨rfl,λ⟨ht,hk⟩=>?_⟩)
 simp only[qc,Di,Es,Dk,qd,Dt,Ea,Eb,Dp,Ei,Eh,Ed,Ew,Df,Et,Dl,Dn,Eo,Dy,Dw,Dh,Dq,Ee,Fg,Dc,Dx,Dj,Dz,Ej,Du,Eu,Ez,En,Ef,Fe,Fj,Fh,Ep,Em,Ey,Fb];obtain⟨q1,q2⟩:=aAZ n.1 n.2.1 n.2.2.1 n.2.2.2.1 n.2.2.2.2.1 n.2.2.2.2.2 ht.1;have q1:(n.2.2.2.1.length:Int)<=12:=q1;refine⟨⟨⟨by omega,by omega⟩,λo o0 o1=>⟨ht,hk,o0,o1⟩⟩,?_⟩
 unfold aO3 aKQ aSG;rw[aDa,vO];rfl
theorem aQC: ∀args m c,aQD args m=some c->aB Tryz.prog G0 49 args m c:=by
 intro args m c hc;unfold aQD at hc;split at hc
 case h_2=>cases hc
 rename_i l f caps;split at hc
 case isFalse=>cases hc
 rename_i hf;subst hf;split at hc
 case h_2=>cases hc
 rename_i n nx a b _ hx;cases hc;exact(aYx _ _ _).args λC us hG hu=>nO hu λv hv=>uY (by kernel_rfl) rfl (λx=>bB4 x a b nx n) hG (aFN hx hv)
theorem bHE: aI Tryz.prog G0 KC5:=aH aQC bG2
theorem aUg(nx:List (List Int))(a b:Int)(cs:LC)(ns os:LB)(fs:List Off)(ls:List Line)(ks:List Cla): aB Tryz.prog G0 13 [net cs ns os fs ls ks,.dat M nx,.dat I a,.dat I b] [] ⟨gZ nx,.dat (.sl M) (aEE (cs,ns,os,fs,ls,ks) nx a b),[]⟩:=by
 refine aA (c:=mkc KC5) bHE bD hm (aPi nx a b cs ns os fs ls ks ⟨rfl,λhp=>?_⟩)
 simp only[qc,Di,Es,Dk,qd,Dt,Ea,Eb,Dp,Ei,Eh,Ed,Ew,Df,Et,Dl,Dn,Eo,Dy,Dw,Dh,Dq,Ee,Fg,Dc,Dx,Dj,Dz,Ej,Du,Eu,Ez,En,Ef,Fe,Fj,Fh,Ep,Em,Ey,Fb];have no:¬aPL (cs,ns,os,fs,ls,ks) nx a b=true->aEE (cs,ns,os,fs,ls,ks) nx a b=[]:=λh=>if_neg h
 have iff:aPL (cs,ns,os,fs,ls,ks) nx a b=true↔(0<=a/\a<b/\b<=600/\b-a<=60)/\bZ (cs,ns,os,fs,ls,ks)=true/\aBk (cs,ns,os,fs,ls,ks) nx=true:=by
  unfold aPL;rw[qC,qC,qE]
 refine⟨λh=>bC (by omega),λh=>no (λg=>by have:=(iff.1 g).1;omega),λh=>⟨λ_=>hp,λg=>no (λq=>?_),λ⟨g1,g2⟩=>?_⟩⟩
 .have:=(iff.1 q).2;rcases g with g | g<;>simp[g]at this
 .obtain⟨q1,q2⟩:=aAZ cs ns os fs ls ks g1;refine⟨⟨⟨by omega,by omega⟩,λk k0 k1=>⟨⟨g1,g2,by omega,by omega,by omega,by omega⟩,k0,k1⟩⟩,?_⟩
  unfold aEE;rw[if_pos (iff.2 ⟨by omega,g1,g2⟩)]
  unfold upM aKQ;rw[aDa,vO]
end Go.Eng.Sv
set_option maxRecDepth 100000
noncomputable section
namespace Go.Eng.Sv
open Go.Proofs
open Go.Eng.Mp (bI iG aEj upto at2 aDn)
def aCF(p:Int): Bool:=decide (2<=p)&&decide (p<=64)
def aDJ(b e:Int): Int:=b ^ e.toNat
def aZw(b e:Int): Prop:=0<=b/\b<=64/\e<=4
def aU2(b e k:Int): Prop:=aZw b e/\0<=k/\(k<=e\/k=0)
def aQl(p q n:Int): Bool:=(((aCF p&&decide (1<=q))&&decide (q<=4))&&decide (0<=n))&&decide (n<=2000)
def aKX(p q n:Int): Int:=if aQl p q n=true then if aDJ p q<n then 140 else 0 else 1
def bD2(p k d:Int): Int:=Int.tmod (Int.tdiv d (aDJ p k)) p
def aWR(p q n:Int): List (List Int):=if aKX p q n=0 then(List.range q.toNat).map λk:Nat=>(List.range n.toNat).map λd:Nat=>bD2 p k d else[]
def aZb(p q n k:Int): List (List Int):=((List.range k.toNat).map λj:Nat=>(List.range n.toNat).map λd:Nat=>bD2 p j d)++List.replicate (q-k).toNat []
def bAG(p n j k:Int): List Int:=upF (bD2 p j) 0 n k
def aQk(p q n k:Int): Prop:=aKX p q n=0/\0<=k/\k<=q
def aUF(p q n j k:Int): Prop:=aQk p q n j/\j<q/\0<=k/\k<=n
def aAC(a b:Int): Bool:=((decide (0<=a)&&decide (a<b))&&decide (b<=600))&&decide (b-a<=60)
def KC6: Kt:=kOr 20 (aP [.row N,.row Pl] (λ(_,p,_)=>mZ p) λ(n,p,_)=>.tup [.agg [.dat R (wrN n p),.dat I (wrS n p)],.dat I (wrE n p)]) <|
 kOr 13 (aP [.row N,.val M,.val I,.val I] (λ(_,nx,_,_,_)=>gZ nx) λ(n,nx,a,b,_)=>.dat (.sl M) (aEE n nx a b)) <|
 kOr 23 (aP [.row N,.val I,.val I] (λ_=>True) λ(n,a,b,_)=>.dat M (aAW n a b)) KQ3
theorem aXV(p:Int)(hvc:
 let c1:=Ed p 2;true/\(True->(c1->c1->c1)/\(Di true c1->c1)/\Ec c1 (Eh p 64) false=aCF p/\True)):
  evF (mkc KC6) aQ 84 [.dat I p] [] ⟨True,.dat .bool (aCF p),[]⟩:=@of_eq _ _ (by kernel_rfl) hvc
def bHk(b e:Int): Ann:=⟨λid s=>match id with
 | 3=>some {α:=Int,inv:=λk=>aU2 b e k,st:=λk=>put s [(7,.dat I k),(5,.dat I (aDJ b k))],μ:=λk=>Dc (Dh e k)}
 | _=>none,λ_ _=>none,λ_ _=>none⟩
theorem bBq(b e:Int)(hvc:
 true/\(aZw b e->(∃x,aU2 b e x/\b=b/\(0:Int)=(0:Int)/\1=aDJ b x/\e=e/\0=x/\True)/\∀(x:Int),let c1:=aDJ b x*b;let c2:=x+1;aU2 b e x->(Dp x e->inR IntKind.i64 c1/\inR IntKind.i64 c2/\∃y,aU2 b e y/\(b=b/\(0:Int)=(0:Int)/\c1=aDJ b y/\e=e/\c2=y/\True)/\Dc (e-y)<Dc (e-x))/\(Dp x e=false->aDJ b x=aDJ b e/\True))):
  evF (mkc KC6) (lvA [(3,[0,4,5,6,7])] (bHk b e)) 85 [.dat I b,.dat I e] [] ⟨aZw b e,.dat I (aDJ b e),[]⟩:=@of_eq _ _ (by kernel_rfl) hvc
def KC7: Kt:=kOr 84 (aP [.val I] (λ_=>True) λ(p,_)=>.dat .bool (aCF p)) <|
 kOr 85 (aP [.val I,.val I] (λ(b,e,_)=>aZw b e) λ(b,e,_)=>.dat I (aDJ b e)) KC6
def bHi(p q n:Int): Ann:=⟨λid s=>match id with
 | 7=>match s.sig.T 8 with
  | .buf nm _=>some {α:=Int,inv:=λk=>aQk p q n k,st:=λk=>pX (put s [(38,.dat I k)]) nm (.mat 36 3 I (aZb p q n k) []),μ:=λk=>Dc (Dh q k)}
  | _=>none
 | 11=>match s.sig.T 9,s.sig.T 8,s.sig.T 44 with
  | .dat (.int .i64) j,.buf nm _,.buf nm2 n2=>some {α:=Int,inv:=λk=>aUF p q n j k,st:=λk=>pX (pX (put s [(47,.dat I k)]) nm (.mat 36 3 I (aZb p q n j) [(Dc j,.buf nm2 n2)])) nm2 (.buf 3 I (bAG p n j k) []),μ:=λk=>Dc (Dh n k)}
  | _,_,_=>none
 | _=>none,λ_ _=>none,λ_ _=>none⟩
theorem bA7(p q n:Int)(hvc:
 let c1:=Ec (Dk (aCF p)) true (Dp q 1);let c2:=Dk c1;let c3:=Ec c1 true (Ei q 4);let c4:=Dk c3;let c5:=Ec c3 true (Dp n 0);let c6:=Dk c5;let c7:=Ec c5 true (Ei n 2000);let c8:=Dp (aDJ p q) n;let c9:=Ep n (0:Int);true/\(True->True/\(Dk (Dk (aCF p))->Dk (Dk (aCF p))->Dk (Dk (aCF p)))/\(Di true (Dk (Dk (aCF p)))->Dk (Dk (aCF p)))/\(c2->c2->c2)/\(Di true c2->c2)/\(c4->c4->c4)/\(Di true c4->c4)/\(c6->c6->c6)/\(Di true c6->c6)/\(c7->aWR p q n=Dt (List Int)/\1=aKX p q n/\True)/\(c7=false->aZw p q/\(c8->aWR p q n=Dt (List Int)/\140=aKX p q n/\True)/\(c8=false->0<=q/\(Dx (24)*q)<=281474976710656/\q<=9223372036854775807/\(∃x,let c10:=aZb p q n x;aQk p q n x/\p=p/\n=n/\Value.slice none (0) (0)=Value.slice none (0) (0)/\(0:Int)=(0:Int)/\Dc q=Dc q/\q=q/\0=x/\Ep q (Dt Int)=c10/\Fb c10/\True)/\∀(x:Int),let c11:=aZb p q n x;let c12:=Dj c11;let c13:=x+1;aQk p q n x->(Dp x q->0<=n/\(Dx (8)*n)<=281474976710656/\n<=9223372036854775807/\c12=Dc q/\0<=x/\x<Dx c12/\c12=Dc q/\Dj c9=Dc n/\(∃x_3,aUF p q n x x_3/\p=p/\n=n/\Value.slice none (0) (0)=Value.slice none (0) (0)/\(0:Int)=(0:Int)/\Dc q=Dc q/\x=x/\q=q/\x=x/\n=n/\0=x_3/\c11=c11/\Dc x=Dc x/\Dc n=Dc n/\c9=bAG p n x x_3/\True)/\∀(x_3:Int),let c14:=Gf x_3 (aDJ p x);let c15:=bAG p n x x_3;let c16:=Dj c15;let c17:=x_3+1;
 aUF p q n x x_3->(Dp x_3 n->c12=Dc q/\0<=x/\x<Dx c12/\c12=Dc q/\Dc x=Dc x/\aZw p x/\aDJ p x≠0/\inR IntKind.i64 c14/\p≠0/\c16=Dc n/\0<=x_3/\x_3<Dx c16/\c16=Dc n/\inR IntKind.i64 c17/\∃y,aUF p q n x y/\(p=p/\n=n/\Value.slice none (0) (0)=Value.slice none (0) (0)/\(0:Int)=(0:Int)/\Dc q=Dc q/\x=x/\q=q/\x=x/\n=n/\c17=y/\c11=c11/\Dc x=Dc x/\Dc n=Dc n/\En c15 (Dc x_3) (Fp c14 p)=bAG p n x y/\True)/\Dc (n-y)<Dc (n-x_3))/\(Dp x_3 n=false->inR IntKind.i64 c13/\∃y,aQk p q n y/\(p=p/\n=n/\Value.slice none (0) (0)=Value.slice none (0) (0)/\(0:Int)=(0:Int)/\Dc q=Dc q/\q=q/\c13=y/\Dj c15=Dc n/\En c11 (Dc x) c15=aZb p q n y/\True)/\Dc (q-y)<Dc (q-x)))/\(Dp x q=false->Dj c11=Dc q/\c11=aWR p q n/\0=aKX p q n/\True))))):
  evF (mkc KC7) (lvA [(7,[0,2,6,7,8,9,10,37,38,46,47]),(11,[0,2,6,7,8,9,10,37,38,46,47])] (bHi p q n)) 28 [.dat I p,.dat I q,.dat I n] [] ⟨True,.tup [.dat M (aWR p q n),.dat I (aKX p q n)],[]⟩:=@of_eq _ _ (by kernel_rfl) hvc
theorem aTR(a b:Int)(hvc:
 let c1:=Ed a 0;let c2:=Ec c1 (Ei b a) false;let c3:=Ec c2 (Eh b 600) false;true/\(True->(c1->c1->c1)/\(c1->c1->c1)/\(Di true c1->c1)/\(c2->c2->c2)/\(Di true c2->c2)/\(c3->c3->c3)/\(c3->c3->c3)/\(c3->inR IntKind.i64 (b-a))/\(c3->c3->c3)/\(Di true c3->c3)/\Ec c3 (Eh (b-a) 60) false=aAC a b/\True)):
  evF (mkc KC7) aQ 105 [.dat I a,.dat I b] [] ⟨True,.dat .bool (aAC a b),[]⟩:=@of_eq _ _ (by kernel_rfl) hvc
theorem aPz(cs:LC)(ns os:LB)(fs:List Off)(ls:List Line)(ks:List Cla)(hvc:
 let c1:=(cs,ns,os,fs,ls,ks);true/\(True->True/\Ea (Df (mD c1)) 0=bZ c1/\True)):
  evF (mkc KC7) aQ 43 [net cs ns os fs ls ks] [] ⟨True,.dat .bool (bZ (cs,ns,os,fs,ls,ks)),[]⟩:=@of_eq _ _ (by kernel_rfl) hvc
theorem bGj: aI Tryz.prog G0 KC6:=aH (aC λ((cs,ns,os,fs,ls,ks),(p1,p2,nx,dy),_)=>aYp cs ns os fs ls ks p1 p2 nx dy)<|aH (aC λ((cs,ns,os,fs,ls,ks),nx,a,b,_)=>aUg nx a b cs ns os fs ls ks)<|aH (aC λ((cs,ns,os,fs,ls,ks),a,b,_)=>aYz a b cs ns os fs ls ks) bGW
theorem bB9(p:Int): aB Tryz.prog G0 84 [.dat I p] [] ⟨True,.dat .bool (aCF p),[]⟩:=by
 refine aA (c:=mkc KC6) bGj bD hm (aXV p ⟨rfl,λ_=>?_⟩)
 refine⟨λh _=>h,λh=>h,?_,trivial⟩
 unfold aCF;cases e:decide (2<=p)<;>simp[Ec,Ed,Eh,e]<;>simpa using e
theorem aK9{b:Int}(h0:0<=b)(h1:b<=64): ∀k:Nat,0<=b ^ k/\b ^ k<=64 ^ k
 | 0=>by simp
 | k+1=>by
  obtain⟨i0,i1⟩:=aK9 h0 h1 k;rw[Int.pow_succ,Int.pow_succ];exact⟨gJ i0 h0,xK i1 h1 h0 (qCc i0 i1)⟩
theorem bCQ{b e:Int}(h0:0<=b)(h1:b<=64)(he:e<=4): 0<=aDJ b e/\aDJ b e<=16777216:=by
 unfold aDJ;obtain⟨i0,i1⟩:=aK9 h0 h1 e.toNat;have:e.toNat<=4:=by omega
 refine⟨i0,qCc i1 ?_⟩;rcases(by omega:e.toNat=0\/e.toNat=1\/e.toNat=2\/e.toNat=3\/e.toNat=4)with h | h | h | h | h<;>rw[h]<;>decide
theorem aMF{b k:Int}(h:0<=k): aDJ b (k+1)=aDJ b k*b:=by
 unfold aDJ;rw[show(k+1).toNat=k.toNat+1 by omega,Int.pow_succ]
theorem bE8(b e:Int): aB Tryz.prog G0 85 [.dat I b,.dat I e] [] ⟨aZw b e,.dat I (aDJ b e),[]⟩:=by
 refine aA (c:=mkc KC6) bGj bD hm (bBq b e ⟨rfl,λhp=>?_⟩)
 simp only[qc,Di,Es,Dk,qd,Dt,Ea,Eb,Dp,Ei,Eh,Ed,Ew,Df,Et,Dl,Dn,Eo,Dy,Dw,Dh,Dq,Ee,Fg,Dc,Dx,Dj,Dz,Ej,Du,Eu,Ez,En,Ef,Fe,Fj,Fh,Ep,Em,Ey,Fb];obtain⟨b0,b1,e1⟩:=id hp;refine⟨⟨0,⟨hp,by omega,.inr rfl⟩,by unfold aDJ;simp,rfl⟩,λx ⟨_,x0,x1⟩=>⟨λhlt=>?_,λhge=>?_⟩⟩
 .obtain⟨q0,q1⟩:=bCQ b0 b1 (e:=x+1) (by omega)
  rw[aMF x0]at q0 q1;exact⟨bC (by omega),bC (by omega),x+1,⟨hp,by omega,by omega⟩,⟨(aMF x0).symm,rfl⟩,by omega⟩
 .unfold aDJ;rw[show x.toNat=e.toNat by omega]
theorem bAt: aI Tryz.prog G0 KC7:=aH (aC λ(p,_)=>bB9 p)<|aH (aC λ(b,e,_)=>bE8 b e) bGj
def bGB(p n j:Int): List Int:=(List.range n.toNat).map λd:Nat=>bD2 p j d
theorem aES(p q n k:Int): aZb p q n k=upF (bGB p n) [] q k:=rfl
theorem aUE(p n j:Int): bAG p n j n=bGB p n j:=aDa
theorem bER(p q n:Int): aB Tryz.prog G0 28 [.dat I p,.dat I q,.dat I n] [] ⟨True,.tup [.dat M (aWR p q n),.dat I (aKX p q n)],[]⟩:=by
 refine aA (c:=mkc KC7) bAt bD hm (bA7 p q n ⟨rfl,λ_=>?_⟩)
 simp only[qc,Di,Es,Dk,qd,Dt,Ea,Eb,Dp,Ei,Eh,Ed,Ew,Df,Et,Dl,Dn,Eo,Dy,Dw,Dh,Dq,Ee,Fg,Dc,Dx,Dj,Dz,Ej,Du,Eu,Ez,En,Ef,Fe,Fj,Fh,Ep,Em,Ey,Fb];have no:aKX p q n≠0->aWR p q n=[]:=λh=>if_neg h
 have hM:aCF p=true↔2<=p/\p<=64:=by unfold aCF;rw[qC,qE,qE]
 have eO:aQl p q n=true↔((((2<=p/\p<=64)/\1<=q)/\q<=4)/\0<=n)/\n<=2000:=by
  unfold aQl;simp only[qC,qE,hM]
 refine⟨λh=>?_,λ⟨⟨⟨⟨h1,h2⟩,h3⟩,h4⟩,h5⟩=>?_⟩
 .have hO:¬aQl p q n=true:=λg=>by
   have g:=eO.1 g;rcases h with(((h | h) | h) | h) | h
   .rw[hM.2 ⟨by omega,by omega⟩]at h;cases h
   all_goals omega
  have:aKX p q n=1:=if_neg hO;exact⟨no (by rw[this];decide),this.symm⟩
 obtain⟨m0,m1⟩:=hM.1 h1;have hO:aQl p q n=true:=eO.2 (by omega)
 have hEd:aKX p q n=if aDJ p q<n then 140 else 0:=if_pos hO
 refine⟨⟨by omega,by omega,by omega⟩,λh=>?_,λh=>?_⟩
 .have:aKX p q n=140:=by rw[hEd,if_pos h]
  exact⟨no (by rw[this];decide),this.symm⟩
 have hE:aKX p q n=0:=by rw[hEd,if_neg h]
 have l1:∀{x:Int},0<=x->x<=q->(aZb p q n x).length=q.toNat:=λa b=>by rw[aES];exact aEB ⟨a,b⟩
 have l2:∀{j x:Int},0<=x->x<=n->(bAG p n j x).length=n.toNat:=λa b=>aEB ⟨a,b⟩
 refine⟨by omega,by omega,by omega,⟨0,⟨hE,by omega,by omega⟩,rfl,by rw[aES,<- aCk],?_⟩,λx ⟨_,x0,x1⟩=>⟨λhlt=>?_,λhge=>?_⟩⟩
 .rw[aES,<- aCk];exact λr hr=>kN hr
 .have hl:=l1 x0 x1;refine⟨by omega,by omega,by omega,hl,x0,by omega,hl,by simp,⟨0,⟨⟨hE,x0,x1⟩,hlt,by omega,by omega⟩,rfl,aCk⟩,λy ⟨_,_,y0,y1⟩=>⟨λhlt2=>?_,λhge=>?_⟩⟩
  .have hl2:=l2 (j:=x) y0 y1;obtain⟨w0,w1⟩:=aK9 (b:=p) (by omega) (by omega) x.toNat
   have wne:aDJ p x≠0:=λe=>by
    have:p ^ x.toNat≠0:=Int.pow_ne_zero (by omega)
    exact this e
   have hq:0<=Gf y (aDJ p x)/\Gf y (aDJ p x)<=y:=⟨Int.tdiv_nonneg y0 w0,Int.tdiv_le_self _ y0⟩;exact⟨hl,x0,by omega,hl,⟨by omega,by omega,by omega⟩,wne,bC (by omega),by omega,hl2,y0,by omega,hl2,bC (by omega),y+1,⟨⟨hE,x0,x1⟩,hlt,by omega,by omega⟩,⟨rfl,aHp y0 hlt2⟩,by omega⟩
  .have hy:y=n:=by omega
   subst hy;exact⟨bC (by omega),x+1,⟨hE,by omega,by omega⟩,⟨rfl,l2 y0 y1,by rw[aUE,aES];exact aHp x0 hlt⟩,by omega⟩
 .have hx:x=q:=by omega
  subst hx;refine⟨l1 x0 x1,?_,hE.symm⟩;unfold aWR;rw[if_pos hE,aES,aDa];rfl
theorem aY1(a b:Int): aB Tryz.prog G0 105 [.dat I a,.dat I b] [] ⟨True,.dat .bool (aAC a b),[]⟩:=by
 refine aA (c:=mkc KC7) bAt bD hm (aTR a b ⟨rfl,λ_=>?_⟩)
 simp only[qc,Di,Es,Dk,qd,Dt,Ea,Eb,Dp,Ei,Eh,Ed,Ew,Df,Et,Dl,Dn,Eo,Dy,Dw,Dh,Dq,Ee,Fg,Dc,Dx,Dj,Dz,Ej,Du,Eu,Ez,En,Ef,Fe,Fj,Fh,Ep,Em,Ey,Fb];exact⟨λh=>bC (by omega),rfl⟩
theorem aUr(cs:LC)(ns os:LB)(fs:List Off)(ls:List Line)(ks:List Cla): aB Tryz.prog G0 43 [net cs ns os fs ls ks] [] ⟨True,.dat .bool (bZ (cs,ns,os,fs,ls,ks)),[]⟩:=by
 refine aA (c:=mkc KC7) bAt bD hm (aPz cs ns os fs ls ks ⟨rfl,λ_=>⟨trivial,?_,trivial⟩⟩)
 rw[aI1];rfl
end Go.Eng.Sv
set_option maxRecDepth 100000
noncomputable section
namespace Go.Eng.Sv
open Go.Proofs
def aNj(n:Net)(p:Plan): Int:=if(aAC p.1 p.2.1&&bZ n)=true then 0 else 1
def aZ8(n:Net)(p:Plan): Plan:=(p.1,p.2.1,aAW n (1440*p.1) (1440*p.2.1),p.2.2.2)
def aZ9(n:Net)(p:Plan): Plan:=(p.1,p.2.1,p.2.2.1,aEE n p.2.2.1 p.1 p.2.1)
def bDn(p:Plan): Prop:=0<=p.1/\p.1<=1000/\0<=p.2.1/\p.2.1<=1000
abbrev tN:=List Int×Int
def aSe(n:Net)(p:Plan)(c:tN): List AV:=[.dat (.sl C) n.1,.dat (.sl S) n.2.1,.dat (.sl S) n.2.2.1,.dat (.sl Of) n.2.2.2.1,.dat (.sl Ln) n.2.2.2.2.1,.dat (.sl Kl) n.2.2.2.2.2,.dat I p.1,.dat I p.2.1,.dat M p.2.2.1,.dat (.sl M) p.2.2.2,.dat R c.1,.dat I c.2]
def aEv(n:Net)(p:Plan)(c:tN): Mem:=[(2,.var (aSe n p c))]
def asC: Mem->Option (Net×Plan×tN)
 | [(2,.var [a1,a2,a3,a4,a5,a6,a7,a8,a9,a10,a11,a12])]=>match oL (.sl C) a1,oL (.sl S) a2,oL (.sl S) a3,oL (.sl Of) a4,oL (.sl Ln) a5,oL (.sl Kl) a6,oL I a7,oL I a8,oL M a9,oL (.sl M) a10,oL R a11,oL I a12 with
  | some cs,some ns,some os,some fs,some ls,some ks,some p1,some p2,some p3,some p4,some c1,some c2=>some ((cs,ns,os,fs,ls,ks),(p1,p2,p3,p4),(c1,c2))
  | _,_,_,_,_,_,_,_,_,_,_,_=>none
 | _=>none
def cK(pre:Net->Plan->Prop)(ret:Net->Plan->Int)(nxt:Net->Plan->tN->Plan×tN)(args:List AV)(m:Mem): Option aAb:=match asC m,args with
 | some (n,p,c),[.ptr 2 1 0 0]=>some ⟨pre n p,.dat I (ret n p),aEv n (nxt n p c).1 (nxt n p c).2⟩
 | _,_=>none
def KC8: Kt:=kOr 105 (aP [.val I,.val I] (λ_=>True) λ(a,b,_)=>.dat .bool (aAC a b)) <|
 kOr 43 (aP [.row N] (λ_=>True) λ(n,_)=>.dat .bool (bZ n)) <|
 kOr 28 (aP [.val I,.val I,.val I] (λ_=>True) λ(p,q,n,_)=>.tup [.dat M (aWR p q n),.dat I (aKX p q n)]) KC7
theorem aPB(n:Net)(p:Plan)(c:tN)(hvc:
 let c6:=p.2.1;let c3:=n.2.2.1;let c2:=p.2.2;let c1:=n.2.2.2;let c4:=Dk (aAC p.1 c6);let c5:=Dk c4;let c16:=Ec c4 true (Dk (bZ n));true/\(True->1=1/\1=1/\1=1/\1=1/\1=1/\0=0/\1=1/\1=1/\1=1/\1=1/\0=0/\True/\(c5->c5->c5)/\(c5->1=1)/\(c5->c5->c5)/\(c5->1=1)/\(c5->c5->c5)/\(c5->1=1)/\(c5->0=0)/\(c5->c5->c5)/\(c5->True)/\(c5->c5->c5)/\(Di true c5->c5)/\(c16->1=aNj n p/\n.1=n.1/\n.2.1=n.2.1/\c3=c3/\c1.1=c1.1/\c1.2.1=c1.2.1/\c1.2.2=c1.2.2/\p.1=p.1/\c6=c6/\c2.1=c2.1/\c2.2=c2.2/\c.1=c.1/\c.2=c.2/\1=1/\True)/\(c16=false->0=aNj n p/\n.1=n.1/\n.2.1=n.2.1/\c3=c3/\c1.1=c1.1/\c1.2.1=c1.2.1/\c1.2.2=c1.2.2/\p.1=p.1/\c6=c6/\c2.1=c2.1/\c2.2=c2.2/\c.1=c.1/\c.2=c.2/\1=1/\True))):
  evF (mkc KC8) aQ 38 [.ptr 2 1 0 0] (aEv n p c) ⟨True,.dat I (aNj n p),aEv n p c⟩:=@of_eq _ _ (by kernel_rfl) hvc
theorem aPA(n:Net)(p:Plan)(c:tN)(hvc:
 let c1:=n.2.2.2;let c2:=1440*p.1;let c5:=1440*p.2.1;let c16:=(aZ8 n p).2;true/\(bDn p->1=1/\1=1/\1=1/\1=1/\0=0/\1=1/\1=1/\1=1/\1=1/\0=0/\inR IntKind.i64 c2/\1=1/\1=1/\1=1/\1=1/\0=0/\inR IntKind.i64 c5/\True/\1=1/\1=1/\1=1/\1=1/\0=0/\(0:Int)=(0:Int)/\n.1=n.1/\n.2.1=n.2.1/\n.2.2.1=n.2.2.1/\c1.1=c1.1/\c1.2.1=c1.2.1/\c1.2.2=c1.2.2/\p.1=(aZ8 n p).1/\p.2.1=c16.1/\aAW n c2 c5=c16.2.1/\p.2.2.2=c16.2.2/\c.1=c.1/\c.2=c.2/\1=1/\True)):
  evF (mkc KC7) aQ 39 [.ptr 2 1 0 0] (aEv n p c) ⟨bDn p,.dat I 0,aEv n (aZ8 n p) c⟩:=@of_eq _ _ (by kernel_rfl) hvc
theorem aTM(n:Net)(p:Plan)(c:tN)(hvc:
 let c2:=p.2.2.1;let c1:=n.2.2.2;let c15:=(aZ9 n p).2;true/\(gZ c2->1=1/\1=1/\1=1/\1=1/\0=0/\1=1/\1=1/\1=1/\1=1/\0=0/\1=1/\1=1/\1=1/\1=1/\0=0/\1=1/\1=1/\1=1/\1=1/\0=0/\gZ c2/\1=1/\1=1/\1=1/\1=1/\0=0/\(0:Int)=(0:Int)/\n.1=n.1/\n.2.1=n.2.1/\n.2.2.1=n.2.2.1/\c1.1=c1.1/\c1.2.1=c1.2.1/\c1.2.2=c1.2.2/\p.1=(aZ9 n p).1/\p.2.1=c15.1/\c2=c15.2.1/\aEE n c2 p.1 p.2.1=c15.2.2/\c.1=c.1/\c.2=c.2/\1=1/\True)):
  evF (mkc KC7) aQ 41 [.ptr 2 1 0 0] (aEv n p c) ⟨gZ p.2.2.1,.dat I 0,aEv n (aZ9 n p) c⟩:=@of_eq _ _ (by kernel_rfl) hvc
theorem aTS(n:Net)(p:Plan)(c:tN)(hvc:
 let c1:=n.2.2.2;true/\(mZ p->1=1/\1=1/\1=1/\1=1/\0=0/\1=1/\1=1/\1=1/\0=0/\mZ p/\1=1/\1=1/\1=1/\0=0/\wrE n p=wrE n p/\n.1=n.1/\n.2.1=n.2.1/\n.2.2.1=n.2.2.1/\c1.1=c1.1/\c1.2.1=c1.2.1/\c1.2.2=c1.2.2/\p.1=p.1/\p.2.1=p.2.1/\p.2.2.1=p.2.2.1/\p.2.2.2=p.2.2.2/\wrN n p=wrN n p/\wrS n p=wrS n p/\1=1/\True)):
  evF (mkc KC7) aQ 42 [.ptr 2 1 0 0] (aEv n p c) ⟨mZ p,.dat I (wrE n p),aEv n p (wrN n p,wrS n p)⟩:=@of_eq _ _ (by kernel_rfl) hvc
theorem aST: aI Tryz.prog G0 KC8:=aH (aC λ(a,b,_)=>aY1 a b)<|aH (aC λ((cs,ns,os,fs,ls,ks),_)=>aUr cs ns os fs ls ks)<|aH (aC λ(p,q,n,_)=>bER p q n) bAt
theorem bDE{m:Mem}{n:Net}{p:Plan}{c:tN}(h:asC m=some (n,p,c)): m=aEv n p c:=by
 unfold asC at h;split at h
 case h_2=>cases h
 split at h
 case h_2=>cases h
 rename_i h1 h2 h3 h4 h5 h6 h7 h8 h9 h10 h11 h12;cases h;rw[dR h1,dR h2,dR h3,dR h4,dR h5,dR h6,dR h7,dR h8,dR h9,dR h10,dR h11,dR h12];rfl
theorem aSd{f:FuncId}{pre:Net->Plan->Prop}{ret:Net->Plan->Int}{nxt:Net->Plan->tN->Plan×tN}
  (h:∀n p c,aB Tryz.prog G0 f [.ptr 2 1 0 0] (aEv n p c) ⟨pre n p,.dat I (ret n p),aEv n (nxt n p c).1 (nxt n p c).2⟩):∀args m c,cK pre ret nxt args m=some c->aB Tryz.prog G0 f args m c:=by
 intro args m c hc;unfold cK at hc;split at hc
 case h_2=>cases hc
 rename_i n p c h1;cases hc;rw[bDE h1];exact h n p c
theorem aUt(n:Net)(p:Plan)(c:tN): aB Tryz.prog G0 38 [.ptr 2 1 0 0] (aEv n p c) ⟨True,.dat I (aNj n p),aEv n p c⟩:=by
 refine aA (c:=mkc KC8) aST bD hm (aPB n p c ⟨rfl,λ_=>?_⟩)
 have eN:(n.1,n.2.1,n.2.2.1,n.2.2.2.1,n.2.2.2.2.1,n.2.2.2.2.2)=n:=rfl;simp only[qc,Di,Es,Dk,qd,Dt,Ea,Eb,Dp,Ei,Eh,Ed,Ew,Df,Et,Dl,Dn,Eo,Dy,Dw,Dh,Dq,Ee,Fg,Dc,Dx,Dj,Dz,Ej,Du,Eu,Ez,En,Ef,Fe,Fj,Fh,Ep,Em,Ey,Fb,eN];refine⟨λh=>?_,λ⟨h1,h2⟩=>?_⟩
 .have:¬(aAC p.1 p.2.1&&bZ n)=true:=λg=>by
   rw[qC]at g;rcases h with h | h
   .rw[g.1]at h;cases h
   .rw[g.2]at h;cases h
  exact(if_neg this).symm
 .exact(if_pos (by rw[h1,h2];rfl)).symm
theorem aUs(n:Net)(p:Plan)(c:tN): aB Tryz.prog G0 39 [.ptr 2 1 0 0] (aEv n p c) ⟨bDn p,.dat I 0,aEv n (aZ8 n p) c⟩:=by
 refine aA (c:=mkc KC7) bAt bD hm (aPA n p c ⟨rfl,λ⟨h1,h2,h3,h4⟩=>?_⟩)
 simp only[qc,Di,Es,Dk,qd,Dt,Ea,Eb,Dp,Ei,Eh,Ed,Ew,Df,Et,Dl,Dn,Eo,Dy,Dw,Dh,Dq,Ee,Fg,Dc,Dx,Dj,Dz,Ej,Du,Eu,Ez,En,Ef,Fe,Fj,Fh,Ep,Em,Ey,Fb];exact⟨bC (by omega),bC (by omega),rfl,rfl,rfl,rfl⟩
theorem aYX(n:Net)(p:Plan)(c:tN): aB Tryz.prog G0 41 [.ptr 2 1 0 0] (aEv n p c) ⟨gZ p.2.2.1,.dat I 0,aEv n (aZ9 n p) c⟩:=by
 refine aA (c:=mkc KC7) bAt bD hm (aTM n p c ⟨rfl,λh=>?_⟩)
 simp only[qc,Di,Es,Dk,qd,Dt,Ea,Eb,Dp,Ei,Eh,Ed,Ew,Df,Et,Dl,Dn,Eo,Dy,Dw,Dh,Dq,Ee,Fg,Dc,Dx,Dj,Dz,Ej,Du,Eu,Ez,En,Ef,Fe,Fj,Fh,Ep,Em,Ey,Fb];exact⟨h,rfl,rfl,rfl,rfl⟩
theorem aY2(n:Net)(p:Plan)(c:tN): aB Tryz.prog G0 42 [.ptr 2 1 0 0] (aEv n p c) ⟨mZ p,.dat I (wrE n p),aEv n p (wrN n p,wrS n p)⟩:=by
 refine aA (c:=mkc KC7) bAt bD hm (aTS n p c ⟨rfl,λh=>?_⟩)
 simp only[qc,Di,Es,Dk,qd,Dt,Ea,Eb,Dp,Ei,Eh,Ed,Ew,Df,Et,Dl,Dn,Eo,Dy,Dw,Dh,Dq,Ee,Fg,Dc,Dx,Dj,Dz,Ej,Du,Eu,Ez,En,Ef,Fe,Fj,Fh,Ep,Em,Ey,Fb];exact h
end Go.Eng.Sv
set_option maxRecDepth 100000
noncomputable section
namespace Go.Eng.Sv
open Go.Proofs
def aFt(n:Net): List (Int×Off):=(List.range n.2.2.2.1.length).map λi:Nat=>((i:Int),fV n i)
def aJI(n:Net)(k:Int): Prop:=0<=k/\k<=n.2.2.2.1.length
def aEP(n:Net): Prop:=(n.2.2.2.1.length:Int)<=1000000
def nI(p:Plan)(o:Int): List Int:=p.2.2.1.getD o.toNat []
def aYi(p:Plan)(o:Int): List Int:=((List.range (nI p o).length).filter λd:Nat=>decide ((d:Int)≠o)).map λd=>(nI p o).getD d 0
def wfR(l:List Int): Prop:=∀j:Nat,-1<=l.getD j 0/\l.getD j 0<=1000000
def aT0(p:Plan)(o:Int): Prop:=0<=o/\o<p.2.2.1.length/\((nI p o).length:Int)<=1000000/\wfR (nI p o)
def aOv(x:Int): List Int->List Int
 | []=>[x]
 | a::l=>if x<a then x::a::l else if x=a then a::l else a::aOv x l
def aJ0(p:Plan)(o:Int): List Int:=((aYi p o).filter λl=>decide (l≠-1)).foldr aOv []
def aY7(n:Net)(p:Plan)(o:Int): Int:=aKX (fV n o).2.2.2.1 (fV n o).2.2.2.2.1 (1+(aJ0 p o).length)
def aCs(n:Net)(p:Plan): Int:=if(List.range n.2.2.2.1.length).all (λo:Nat=>decide (aY7 n p o=0))then 0 else 140
def aGD(n:Net)(p:Plan): Prop:=bZ n=true/\aBk n p.2.2.1=true
def aI2(n:Net)(p:Plan)(j:Nat): Prop:=aGD n p/\j<=(aFt n).length/\∀i:Nat,i<j->aY7 n p i=0
theorem aTv(n:Net)(hvc:
 true/\(True->n=n/\True)):
  evF (mkc KC8) aQ 106 [.agg [.dat (.sl C) n.1,.dat (.sl S) n.2.1,.dat (.sl S) n.2.2.1,.dat (.sl Of) n.2.2.2.1,.dat (.sl Ln) n.2.2.2.2.1,.dat (.sl Kl) n.2.2.2.2.2]] [] ⟨True,.fn 169 [.ip N n],[]⟩:=@of_eq _ _ (by kernel_rfl) hvc
def bC4(n:Net): aL9:=⟨λid y=>match id with
 | 1=>some {α:=Int,inv:=λk=>aJI n k,st:=λk=>⟨put y.s [(8,.dat I k)],Dc k,true⟩,μ:=λk=>Dc (Dh (Df n.2.2.2.1) k)}
 | _=>none,λid s=>match id,s.sig.T 8 with
 | 3,.dat (.int .i64) k=>some (put {s with mem:=[]} [(4,.ip Of (fV n k))])
 | _,_=>none,λid=>id==3⟩
theorem aTu(n:Net)(hvc:
 let c1:=n.2.2.2;let c3:=Df c1.1;let c4:=Dj (aFt n);true/\true/\true/\false=false/\∀(l:Nat),aEP n->(∃x,aJI n x/\(l=l/\n=n/\c1=c1/\c1.1=c1.1/\c3=c3/\0=x/\True)/\0=Dc x/\true)/\∀(x:Int),let c5:=Du c1.1 (Dc x) (ByteArray.mk #[],(0:Int),(0:Int),(0:Int),(0:Int),(0:Int),Dt ByteArray);let c18:=(fV n x).2;let c23:=x+1;aJI n x->(Dp x c3->0<=x/\x<c3/\1=1/\0=0/\l=l/\n=n/\x=x/\1=1/\0=0/\c5=fV n x/\c1=c1/\c1.1=c1.1/\c3=c3/\x=x/\Dp x c3=Dp x c3/\x=x/\c5=c5/\c5.1=c5.1/\c5.2.1=c5.2.1/\c5.2.2.1=c5.2.2.1/\c5.2.2.2.1=c5.2.2.2.1/\c5.2.2.2.2.1=c5.2.2.2.2.1/\c5.2.2.2.2.2.1=c5.2.2.2.2.2.1/\c5.2.2.2.2.2.2=c5.2.2.2.2.2.2/\(true->l=l/\true/\aA7 (aFt n) (Dc x) (x,(fV n x).1,c18.1,c18.2.1,c18.2.2.1,c18.2.2.2.1,c18.2.2.2.2.1,c18.2.2.2.2.2)/\∀(b:Bool),(Dk b->b->Dc x+(1)=c4)/\(Dk b=false->inR IntKind.i64 c23/\∃y,aJI n y/\((l=l/\n=n/\c1=c1/\c1.1=c1.1/\c3=c3/\c23=y/\True)/\Dc x+(1)=Dc y/\b)/\Dc (c3-y)<Dc (c3-x)))/\(true=false->(true->true)/\(Dk false->true->Dc x=c4)/\(Dk false=false->inR IntKind.i64 c23/\∃y,aJI n y/\((l=l/\n=n/\c1=c1/\c1.1=c1.1/\c3=c3/\c23=y/\True)/\Dc x=Dc y/\true)/\Dc (c3-y)<Dc (c3-x))))/\(Dp x c3=false->true->Dc x=c4)):
  evI (mkc KC8) (bC4 n) 169 [.ip N n] ⟨aEP n,.pair I Of,aFt n⟩:=@of_eq _ _ (by kernel_rfl) hvc
def KC9: Kt:=kOr 45 (aP [.row Pl,.val I] (λ(p,o,_)=>aT0 p o) λ(p,o,_)=>.dat R (aJ0 p o)) <|
 kOr 106 (aP [.row N] (λ_=>True) λ(n,_)=>.fn 169 [.ip N n]) KC8
def KIM: FuncId->List AV->Option sV:=λf caps=>if f=169 then match ofK [.ptr N] caps with
 | some (n,_)=>some ⟨aEP n,.pair I Of,aFt n⟩
 | none=>none
 else none
noncomputable def cSort: Cfg:=⟨Tryz.prog,G0,KC9,λ_=>false,KIM,true,Go.Eng.noP,λ_=>false⟩
def sortA(n:Net)(p:Plan)(c:tN): Ann:=⟨λid s=>match id with
 | 2=>some {α:=Nat,inv:=λj=>aI2 n p j,st:=λj=>pX (pX (flat s) 2 (.var (aSe n p c))) 3 (.var [.dat I 0]),μ:=λj=>j}
 | _=>none,λ_ _=>none,λ_ _=>none⟩
theorem aTL(n:Net)(p:Plan)(c:tN)(hvc:
 let c5:=p.2.1;let c4:=n.2.1;let c3:=p.2.2;let c2:=n.2.2.1;let c1:=n.2.2.2;let c20:=aFt n;true/\(aGD n p->1=1/\1=1/\1=1/\1=1/\0=0/\True/\aEP n/\(∃x,aI2 n p x/\x=0/\1=1/\0=0/\0=0/\1=1/\0=0/\0=0/\1=1/\0=0/\0=0/\1=1/\0=0/\0=0/\1=1/\0=0/\0=0/\1=1/\0=0/\0=0/\n.1=n.1/\c4=c4/\c2=c2/\c1.1=c1.1/\c1.2.1=c1.2.1/\c1.2.2=c1.2.2/\n=n/\n.1=n.1/\c4=c4/\c2=c2/\c1.1=c1.1/\c1.2.1=c1.2.1/\c1.2.2=c1.2.2/\p.1=p.1/\c5=c5/\c3.1=c3.1/\c3.2=c3.2/\c.1=c.1/\c.2=c.2/\(0:Int)=(0:Int)/\1=1/\True)/\(∀(x:Nat) (y:Int×ByteArray×Int×Int×Int×Int×Int×List ByteArray),let c23:=1+Df (aJ0 p y.1);let c25:=Eb (aKX y.2.2.2.2.1 y.2.2.2.2.2.1 c23) 0;aI2 n p x->aA7 c20 x y->1=1/\0=0/\1=1/\1=1/\1=1/\0=0/\aT0 p y.1/\inR IntKind.i64 c23/\1=1/\1=1/\0=0/\1=1/\1=1/\0=0/\True/\(c25->1=1/\0=0/\1=1/\0=0/\140=aCs n p/\n.1=n.1/\c4=c4/\c2=c2/\c1.1=c1.1/\c1.2.1=c1.2.1/\c1.2.2=c1.2.2/\p.1=p.1/\c5=c5/\c3.1=c3.1/\c3.2=c3.2/\c.1=c.1/\c.2=c.2/\1=1/\True)/\(c25=false->∃z,aI2 n p z/\z=x+(1)/\1=1/\0=0/\0=0/\1=1/\0=0/\0=0/\1=1/\0=0/\0=0/\1=1/\0=0/\0=0/\1=1/\0=0/\0=0/\1=1/\0=0/\0=0/\n.1=n.1/\c4=c4/\c2=c2/\c1.1=c1.1/\c1.2.1=c1.2.1/\c1.2.2=c1.2.2/\n=n/\n.1=n.1/\c4=c4/\c2=c2/\c1.1=c1.1/\c1.2.1=c1.2.1/\c1.2.2=c1.2.2/\p.1=p.1/\c5=c5/\c3.1=c3.1/\c3.2=c3.2/\c.1=c.1/\c.2=c.2/\(0:Int)=(0:Int)/\1=1/\True))/\∀(x:Nat),aI2 n p x->x=Dj c20->1=1/\0=0/\1=1/\0=0/\0=aCs n p/\n.1=n.1/\c4=c4/\c2=c2/\c1.1=c1.1/\c1.2.1=c1.2.1/\c1.2.2=c1.2.2/\p.1=p.1/\c5=c5/\c3.1=c3.1/\c3.2=c3.2/\c.1=c.1/\c.2=c.2/\1=1/\True)):
  evF cSort (sortA n p c) 40 [.ptr 2 1 0 0] (aEv n p c) ⟨aGD n p,.dat I (aCs n p),aEv n p c⟩:=@of_eq _ _ (by kernel_rfl) hvc
theorem aYK(n:Net): aB Tryz.prog G0 106 [.agg [.dat (.sl C) n.1,.dat (.sl S) n.2.1,.dat (.sl S) n.2.2.1,.dat (.sl Of) n.2.2.2.1,.dat (.sl Ln) n.2.2.2.2.1,.dat (.sl Kl) n.2.2.2.2.2]] [] ⟨True,.fn 169 [.ip N n],[]⟩:=
 aA (c:=mkc KC8) aST bD hm (aTv n ⟨rfl,λ_=>⟨rfl,trivial⟩⟩)
theorem aZF{n:Net}{x:Int}(h0:0<=x)(h1:x<n.2.2.2.1.length): aA7 (aFt n) x.toNat (x,fV n x):=by
 show((List.range n.2.2.2.1.length).map λi:Nat=>((i:Int),fV n i))[x.toNat]?=_
 have e:((x.toNat:Nat):Int)=x:=by omega
 rw[qP,vX (by omega),zK,e]
theorem aHV(n:Net): (aFt n).length=n.2.2.2.1.length:=by unfold aFt;simp
theorem aYJ(n:Net): aBG Tryz.prog G0 169 [.ip N n] ⟨aEP n,.pair I Of,aFt n⟩:=by
 refine uO (c:=mkc KC8) (A:=bC4 n) aST bD hm (aTu n ⟨rfl,rfl,rfl,rfl,λl hs=>?_⟩)
 have eO:∀x:Int,n.2.2.2.1.getD x.toNat (⟨#[]⟩,0,0,0,0,0,[])=fV n x:=λ_=>rfl
 have eP:∀q:Off,(q.1,q.2.1,q.2.2.1,q.2.2.2.1,q.2.2.2.2.1,q.2.2.2.2.2.1,q.2.2.2.2.2.2)=q:=λ_=>rfl
 simp only[qc,Di,Es,Dk,qd,Dt,Ea,Eb,Dp,Ei,Eh,Ed,Ew,Df,Et,Dl,Dn,Eo,Dy,Dw,Dh,Dq,Ee,Fg,Dc,Dx,Dj,Dz,Ej,Du,Eu,Ez,En,Ef,Fe,Fj,Fh,Ep,Em,Ey,Fb,aHV];unfold aEP at hs;refine⟨⟨0,⟨by omega,by omega⟩,rfl,rfl⟩,λx ⟨x0,x1⟩=>⟨λhlt=>⟨x0,hlt,rfl,⟨aZF x0 hlt,λb=>⟨λh1 h2=>(by rw[h1]at h2;cases h2),λhb=>⟨bC (by omega),x+1,⟨by omega,by omega⟩,⟨rfl,by omega,hb⟩,by omega⟩⟩⟩,λh=>(by cases h)⟩,λhge=>(by omega)⟩⟩
def aB1: Prop:=∀(p:Plan) (o:Int),aB Tryz.prog G0 45 [.agg [.dat I p.1,.dat I p.2.1,.dat M p.2.2.1,.dat (.sl M) p.2.2.2],.dat I o] [] ⟨aT0 p o,.dat R (aJ0 p o),[]⟩
theorem bG1(h:aB1): aI Tryz.prog G0 KC9:=aH (aC λ(p,o,_)=>h p o)<|aH (aC λ(n,_)=>aYK n) aST
theorem bDU: dI Tryz.prog G0 KIM:=by
 intro f caps it h;unfold KIM at h;split at h
 case isFalse=>cases h
 rename_i hf;subst hf;split at h
 case h_2=>cases h
 rename_i n _ hx;cases h;exact λhp l J JX JP w D us hD hG hu=>aYJ n hp l J JX JP w D us hD hG (lQ hx hu)
theorem aLC{x y:Int}: ∀{l:List Int},y∈aOv x l↔y=x\/y∈l
 | []=>by simp[aOv]
 | a::l=>by
  unfold aOv;split
  .simp
  .split
   .rename_i h;subst h;simp
   .rw[zL,aLC (l:=l),zL];constructor
    .rintro(h | h | h)
     .exact .inr (.inl h)
     .exact .inl h
     .exact .inr (.inr h)
    .rintro(h | h | h)
     .exact .inr (.inl h)
     .exact .inl h
     .exact .inr (.inr h)
theorem aG6{x:Int}: ∀{l:List Int},l.Pairwise (· < ·)->(aOv x l).Pairwise (· < ·)
 | [],_=>qAf _ _
 | a::l,h=>by
  obtain⟨h1,h2⟩:=kG.1 h;unfold aOv;split
  .rename_i hx;refine kG.2 ⟨λb hb=>?_,h⟩
   rcases zL.1 hb with rfl | hb
   .exact hx
   .have:=h1 b hb;omega
  .split
   .exact h
   .refine kG.2 ⟨λb hb=>?_,aG6 h2⟩
    rcases aLC.1 hb with rfl | hb
    .omega
    .exact h1 b hb
theorem aRt{x:Int}: ∀{l:List Int},(aOv x l).length<=l.length+1
 | []=>qK _
 | a::l=>by
  have:=aRt (x:=x) (l:=l);unfold aOv;split
  .simp
  .split
   .simp
   .simp only[wW];omega
theorem aM3{y:Int}: ∀{l:List Int},y∈l.foldr aOv []↔y∈l
 | []=>by simp
 | a::l=>by rw[qDk,aLC,aM3,zL]
theorem aFL: ∀(l:List Int),(l.foldr aOv []).Pairwise (· < ·)
 | []=>yL
 | _::l=>aG6 (aFL l)
theorem aM4: ∀(l:List Int),(l.foldr aOv []).length<=l.length
 | []=>qK _
 | a::l=>by
  have:=aM4 l;have:=aRt (x:=a) (l:=l.foldr aOv []);rw[qDk,wW];omega
theorem aRD(p:Plan)(o:Int): (aJ0 p o).length<=(nI p o).length:=by
 unfold aJ0;refine wC (aM4 _) (wC (yM _ _) ?_);unfold aYi;rw[vF];exact wC (yM _ _) (by rw[vK];exact qK _)
theorem aWI(cs:LC)(ns os:LB)(fs:List Off)(ls:List Line)(ks:List Cla){nx:List (List Int)}(hs:bZ (cs,ns,os,fs,ls,ks)=true)(ht:aBk (cs,ns,os,fs,ls,ks) nx=true){o:Int}(o0:0<=o)(o1:o<fs.length): wfR (nx.getD o.toNat []):=λj=>by
 have h1:=(aA1 cs ns os fs ls ks (dP cs ns os fs ls ks hs)).1;by_cases hj:(j:Int)<fs.length
 .obtain⟨_,_,h⟩:=aAd cs ns os fs ls ks ht o0 o1 (d:=j) (by omega) hj
  have e:nxt nx o j=(nx.getD o.toNat []).getD j 0:=by unfold nxt;rw[vO]
  rw[<- e];by_cases hn:nxt nx o j=-1
  .omega
  .have:=(h hn).1;omega
 .obtain⟨_,h,_⟩:=aAd cs ns os fs ls ks ht o0 o1 o0 o1;rw[qA,zD (by omega)]
  exact⟨by decide,by decide⟩
theorem aYW(h:aB1)(n:Net)(p:Plan)(c:tN): aB Tryz.prog G0 40 [.ptr 2 1 0 0] (aEv n p c) ⟨aGD n p,.dat I (aCs n p),aEv n p c⟩:=by
 refine aA (c:=cSort) (bG1 h) bDU hm (aTL n p c ⟨rfl,λhp=>?_⟩)
 have eN:(n.1,n.2.1,n.2.2.1,n.2.2.2.1,n.2.2.2.2.1,n.2.2.2.2.2)=n:=rfl;have eP:(p.1,p.2.1,p.2.2.1,p.2.2.2)=p:=rfl;simp only[qc,Di,Es,Dk,qd,Dt,Ea,Eb,Dp,Ei,Eh,Ed,Ew,Df,Et,Dl,Dn,Eo,Dy,Dw,Dh,Dq,Ee,Fg,Dc,Dx,Dj,Dz,Ej,Du,Eu,Ez,En,Ef,Fe,Fj,Fh,Ep,Em,Ey,Fb,eN,eP];obtain⟨hs,ht⟩:=id hp;obtain⟨q1,_⟩:=aAZ n.1 n.2.1 n.2.2.1 n.2.2.2.1 n.2.2.2.2.1 n.2.2.2.2.2 hs;have q1:(n.2.2.2.1.length:Int)<=12:=q1
 have row:∀o:Int,0<=o->o<n.2.2.2.1.length->(p.2.2.1.length:Int)=n.2.2.2.1.length/\((nI p o).length:Int)=n.2.2.2.1.length:=λo o0 o1=>by
  obtain⟨g1,g2,_⟩:=aAd n.1 n.2.1 n.2.2.1 n.2.2.2.1 n.2.2.2.2.1 n.2.2.2.2.2 ht o0 o1 o0 o1;exact⟨g1,g2⟩
 have at_:∀{x:Nat} {y:Int×Off},aA7 (aFt n) x y->x<n.2.2.2.1.length/\y=((x:Int),fV n x):=λ{x y} h=>by
  have h:((List.range n.2.2.2.1.length).map λi:Nat=>((i:Int),fV n i))[x]?=some y:=h
  rw[qP]at h;by_cases hx:x<n.2.2.2.1.length
  .rw[vX hx]at h;exact⟨hx,(wU h).symm⟩
  .rw[zD (by rw[vK];omega)]at h;cases h
 have fail:∀o:Nat,o<n.2.2.2.1.length->aY7 n p o≠0->aCs n p=140:=λo ho hne=>by
  unfold aCs;rw[if_neg];intro h;have:=qM.1 h o (vN.2 ho);exact hne (wM this)
 refine⟨by unfold aEP;omega,⟨hp,wX _,λi hi=>by omega⟩,λx y hx hy=>?_,λx hx hl=>?_⟩
 .obtain⟨hxl,rfl⟩:=at_ hy;obtain⟨r1,r2⟩:=row x (by omega) (by omega)
  have gl:=aRD p x;have r1':(p.2.2.1.length:Int)=n.2.2.2.1.length:=r1;refine⟨⟨by show(0:Int)<=(x:Int);omega,by show(x:Int)<_;omega,by show((nI p (x:Int)).length:Int)<=1000000;omega,aWI n.1 n.2.1 n.2.2.1 n.2.2.2.1 n.2.2.2.2.1 n.2.2.2.2.2 hs ht (by omega) (by omega)⟩,bC (by simp only;omega),λh=>(fail x hxl h).symm,λh=>⟨hp,by rw[aHV];omega,λi hi=>?_⟩⟩
  by_cases h3:i<x
  .exact hx.2.2 i h3
  .have:i=x:=by omega
   rw[this];exact h
 .rw[aHV]at hl;unfold aCs;rw[if_pos];rw[qM];intro o ho;exact qW (hx.2.2 o (by rw[hl];exact vN.1 ho))
end Go.Eng.Sv
set_option maxRecDepth 100000
namespace Go.Eng.Sv
open Go.Proofs
open Go.RowKit
theorem aSW{x:Int}(h:-1<=x/\x<=1000000): (Lit.int .i64 x).wf=true:=by
 have e1:IntKind.min .i64=-9223372036854775808:=by decide
 have e2:IntKind.max .i64=9223372036854775807:=by decide
 simp only[Lit.wf,e1,e2,qC,qE];omega
theorem aGY: aB1:=by
 rintro p o ⟨o0,o1,o2,o3⟩ w D E us hD hG hargs hH;obtain⟨u1,us,rfl,⟨ps,rfl,hps⟩,u2,us,rfl,h2,rfl⟩:=hargs;obtain⟨v1,_,rfl,_,v2,_,rfl,_,v3,_,rfl,h3,v4,_,rfl,_,rfl⟩:=hps;have h2:[u2]=[Value.int .i64 o]:=h2;cases h2;obtain⟨ao,cap,e3,_,_,hsp,hrow⟩:=h3;cases e3;have at_:(p.2.2.1)[o.toNat]?=some (nI p o):=by
  unfold nI;rw[qA,qB (by omega),qQ]
 obtain⟨a,ue,rfl,ha,hca,bo,cp2,rfl,_,_,hsp2,hin⟩:=hrow o.toNat (nI p o) at_;have sp:=hsp a rfl (by omega)
 have hw:∀j:Nat,(Lit.int .i64 ((nI p o)[j]?.getD 0)).wf=true:=λj=>by
  have:=o3 j;rw[qA]at this;exact aSW this
 have eo:((o.toNat:Nat):Int)=o:=by omega
 have mem:∀y,y∈aJ0 p o↔y≠-1/\y∈(aBS (nI p o) hw o.toNat (nI p o).length).map Subtype.val:=λy=>by
  unfold aJ0 aYi aBS;rw[aM3,xR,qE,and_comm,List.map_map];have e:((List.range (nI p o).length).filter λd:Nat=>decide ((d:Int)≠o))=(List.range (nI p o).length).filter λd=>decide (d≠o.toNat):=by
   congr 1;funext d
   rw[qAt];omega
  rw[e];have f:(λd:Nat=>(nI p o).getD d 0)=Subtype.val∘bDs (nI p o) hw:=by
   funext d
   exact qA
  rw[f]
 have hc:=aWb #[v1,v2,.slice (some a) p.2.2.1.length cap,v4] o.toNat (nI p o) hw (by omega) (aJ0 p o) (aFL _) mem w λw1 hw1=>by
  have hB:Go.RowKit.Below w.heap.size w w1:=by rw[hw1];exact((Go.RowKit.Below.refl _ w).alloc (qK _) _).alloc (by simp) _
  have s1:w1.heap.size=w.heap.size+1+1:=by rw[hw1];simp
  have c1:w1.heap[w.heap.size]?=some (.cells #[v1,v2,.slice (some a) p.2.2.1.length cap,v4] 35 (0,0)):=by
   rw[hw1];exact(Go.RowKit.Below.heap_alloc _ _ _ (by simp)).trans (World.alloc_heap_new w _)
  have c2:w1.heap[w.heap.size+1]?=some (.cells #[.int .i64 o] 3 (0,0)):=by
   have:=World.alloc_heap_new (w.alloc (.cells #[v1,v2,.slice (some a) p.2.2.1.length cap,v4] 35)) (.cells #[.int .i64 ((o.toNat:Nat):Int)] 3);rw[zO,eo]at this;rw[hw1,eo];exact this
  refine⟨by omega,by omega,by rw[eo];simp[World.cell?,c2],a.block,a.off,p.2.2.1.length,cap,bo,cp2,?_,by omega,by have:=hD _ ha;omega,?_,?_⟩
  .obtain⟨b,f,s⟩:=a;have sp:s=none:=sp;subst sp;simp[World.cell?,c1]
  .have:=hca 0 _ rfl;exact(hB.cell (p:=⟨a.block,a.off+o.toNat*1+0,none⟩) (hD _ ha)).trans this |> λh=>by
    rw[show a.off+o.toNat*1+0=a.off+o.toNat by omega]at h;exact h
  .by_cases hz:(nI p o).length=0
   .exact .inl hz
   .have at0:(nI p o)[0]?=some ((nI p o).getD 0 0):=by
     rw[qA,qB (by omega),qQ]
    obtain⟨a2,_,e2,hb2,_⟩:=hin 0 _ at0;subst e2;have sp2:=hsp2 a2 rfl (by omega)
    refine .inr ⟨a2.block,a2.off,?_,by have:=hD _ hb2;omega,λj hj=>?_⟩
    .obtain⟨b,f,s⟩:=a2;have sp2:s=none:=sp2;subst sp2;rfl
    .have atj:(nI p o)[j]?=some ((nI p o)[j]?.getD 0):=by
      rw[qB hj,qQ]
     obtain⟨a3,ue3,e3,hb3,hc3,hr3⟩:=hin j _ atj;cases e3;have hr3:ue3=[Value.int .i64 ((nI p o)[j]?.getD 0)]:=hr3;subst hr3;have:=hc3 0 _ rfl;have h:=(hB.cell (p:=⟨a2.block,a2.off+j*1+0,none⟩) (hD _ hb3)).trans this;rw[show a2.off+j*1+0=a2.off+j by omega]at h;exact h
 rw[eo]at hc;refine hc.mono ?_;rintro e w' ⟨v,rfl,hrow,hnil,hB⟩;refine⟨v,λb=>D b\/nU w w' b,E,rfl,⟨(Chg.refl _ _).below hB,λ_ h=>.inl h,λb h=>h.imp id λh=>.inl h.1,λb h=>h.elim (λh=>qN (hD b h) hB.size) λh=>h.2,Held.none _ _ _ _,λnm b b' g=>(by cases g),λnm b b' g=>(by cases g),λnm b _ g=>(by cases g),λnm i b g=>(aAj g).elim⟩,?_⟩
 show ∃(ao:Option Addr) (cap:Nat),[v]=[.slice ao (aJ0 p o).length cap]/\_;obtain⟨_,⟨rfl,h0⟩ | ⟨g,cap,cur,rfl,hg,hb,hcap,_,hsz,htk⟩⟩:=hrow
 .have h0:aJ0 p o=[]:=vT h0;rw[h0];exact⟨none,0,rfl,qK _,λ_=>rfl,λ_ h=>(by cases h),λi y h=>(by cases h)⟩
 .refine⟨_,cap,rfl,hcap,λh=>(by cases h),λa h _=>(by cases h;rfl),λi y hy=>⟨_,[Value.int .i64 y],rfl,.inr ⟨hg,(vJ.1 hb).1⟩,λj u hj=>?_,rfl⟩⟩
  cases j with
  | succ j=>cases hj
  | zero=>
   have hj:some (Value.int .i64 y)=some u:=hj;cases hj;show w'.cell? ⟨g,0+i*1+0,none⟩=_;have hi:i<(aJ0 p o).length:=(qG.1 hy).1;have e:(cur.toList.take ((aJ0 p o).length*1))[i]?=some (Value.int .i64 y):=by
    rw[htk,qP,hy];rfl
   rw[List.getElem?_take_of_lt (by omega),zX]at e
   have hi2:0+i*1+0<cur.size:=by omega
   rw[show 0+i*1+0=i by omega]at hi2 ⊢
   simp[World.cell?,hb,e]
end Go.Eng.Sv
set_option maxRecDepth 100000
noncomputable section
namespace Go.Eng.In
open Go.Proofs
abbrev Of: Ty:=.pair S (.pair I (.pair I (.pair I (.pair I (.pair I (.sl S))))))
abbrev Ln: Ty:=.pair S (.pair I (.pair I (.pair I (.pair I I))))
abbrev Kl: Ty:=.pair S (.pair I I)
abbrev N: Ty:=.pair (.sl C) (.pair (.sl S) (.pair (.sl S) (.pair (.sl Of) (.pair (.sl Ln) (.sl Kl)))))
abbrev Cal:=Int×List Bool×List Int
abbrev Off:=ByteArray×Int×Int×Int×Int×Int×List ByteArray
abbrev Line:=ByteArray×Int×Int×Int×Int×Int
abbrev Cla:=ByteArray×Int×Int
abbrev Net:=List Cal×List ByteArray×List ByteArray×List Off×List Line×List Cla
def aCc(c:Cal): Bool:=jR c.1 c.2.1 c.2.2
def aA0(n:Net)(o:Off): Bool:=(btw o.2.2.1 0 ((n.1.length:Int)-1)&&btw o.2.2.2.2.1 1 1000)&&btw o.2.2.2.2.2.1 1 1000
def aAl(n:Net)(x:Int): Bool:=btw x 0 ((n.2.2.2.1.length:Int)-1)
def aA4(n:Net)(l:Line): Bool:=((aAl n l.2.1&&aAl n l.2.2.1)&&btw l.2.2.2.1 0 1439)&&btw l.2.2.2.2.1 1 100000
def aBd(k:Cla): Bool:=btw k.2.1 0 1439&&btw k.2.2 0 1439
def usF(n:Net): Bool:=((n.1.all aCc&&n.2.2.2.1.all (aA0 n))&&n.2.2.2.2.1.all (aA4 n))&&n.2.2.2.2.2.all aBd
def aEa(n:Net): Prop:=((n.1.length<=2000000000000000/\n.2.2.2.1.length<=2000000000000000)/\n.2.2.2.2.1.length<=2000000000000000)/\n.2.2.2.2.2.length<=2000000000000000
def aWk(n:Net)(k:Int): Prop:=0<=k/\k<=n.1.length/\(n.1.take k.toNat).all aCc=true
def aVe(n:Net)(k:Int): Prop:=0<=k/\k<=n.2.2.2.1.length/\(n.2.2.2.1.take k.toNat).all (aA0 n)=true
def aVu(n:Net)(k:Int): Prop:=0<=k/\k<=n.2.2.2.2.1.length/\(n.2.2.2.2.1.take k.toNat).all (aA4 n)=true
def aWe(n:Net)(k:Int): Prop:=0<=k/\k<=n.2.2.2.2.2.length/\(n.2.2.2.2.2.take k.toNat).all aBd=true
def jZ(n:Net)(l:Int): Line:=n.2.2.2.2.1.getD l.toNat (⟨#[]⟩,0,0,0,0,0)
def aAv(n:Net)(o l:Int): Bool:=decide (l=-1)||(decide (l<n.2.2.2.2.1.length)&&decide ((jZ n l).2.1=o))
def aBX(n:Net)(o:Int)(r:List Int): Bool:=r.all (aAv n o)
def aKD(n:Net)(p:Plan): Bool:=(decide (p.2.2.1.length=n.2.2.2.1.length)&&decide (p.2.2.2.length=n.2.2.2.2.2.length))&&(List.range p.2.2.1.length).all λi=>aBX n i (p.2.2.1.getD i [])
def nxP(p:Plan): Prop:=p.2.2.1.length<=2000000000000000/\∀r∈p.2.2.1,r.length<=2000000000000000/\∀x∈r,-1<=x
def bD8(n:Net)(p:Plan)(k:Int): Prop:=0<=k/\k<=p.2.2.1.length/\∀i:Nat,(i:Int)<k->aBX n i (p.2.2.1.getD i [])=true
def aVg(n:Net)(o:Int)(r:List Int)(k:Int): Prop:=0<=k/\k<=r.length/\(r.take k.toNat).all (aAv n o)=true
def uH(c:List Int×Int): Bool:=jX c.1 c.2&&aCg c.1
def aHS(c:List Int×Int): Int:=if jX c.1 c.2 then 190 else 180
def aJs(c:List Int×Int): Prop:=aMT c.1
def aLT(args:List AV)(m:Mem): Option aAb:=match args,m with
 | [.ifc t (.dat (.int .i64) e)],[]=>if t=39 then some ⟨True,.dat I e,[]⟩else none
 | _,_=>none
def bAA: Kt:=kOr 70 aLT bHd
def c9: Cfg:=aOh bAA (λt=>t==12) KP8 (λf=>f==79||f==142)
theorem aXR(s:Int)(l:List Int)(hvc:
 let c1:=(l,s);let c2:=uH c1;let c3:=chainOf (Value.iface (39) (Value.int IntKind.i64 (aHS c1)));let c4:=(aN l).1;let c5:=(aN l).2;let bK:=c5.1;let c7:=c5.2;let c8:=c7.1;let c9:=c7.2;true/\(aJs c1->aMT l/\(true->True/\(jX l s=false->c2=false/\true/\chainOf (Value.iface (39) (Value.int IntKind.i64 (180:Int)))=c3))/\((true->jX l s)->(True/\jX l s)/\(true->jJ l/\(aCg l=false->c2=false/\true/\chainOf (Value.iface (39) (Value.int IntKind.i64 (190:Int)))=c3))/\((true->aCg l)->(jJ l/\aCg l)/\1=1/\1=1/\0=0/\1=1/\0=0/\1=1/\0=0/\c2/\1=1/\0=0/\c4=c4/\bK=bK/\c8=c8/\c9=c9/\1=1/\0=0/\0=0/\fD l=fD l/\True)))):
  evM c9 aQ 71 [.agg [.dat R l,.dat I s]] [] (.tup [.agg [.dat I (aN l).1,.dat I (aN l).2.1,.dat M (aN l).2.2.1,.dat (.sl M) (aN l).2.2.2],.ptr 1 1 0 0]) [(1,.var [.dat R (fD l)])] ⟨aJs (l,s),uH (l,s),jC 39 (aHS (l,s))⟩:=@of_eq _ _ (by kernel_rfl) hvc
theorem bA4(x:Int)(hvc:
 let c1:=btw x 0 1439;true/\(True->True/\c1=c1/\True)):
  evF (mkc bAA) aQ 147 [.dat I x] [] ⟨True,.dat .bool (btw x 0 1439),[]⟩:=@of_eq _ _ (by kernel_rfl) hvc
theorem bA3(x:Int)(n:Net)(hvc:
 let c1:=Df n.2.2.2.1-1;true/\(aEa n->inR IntKind.i64 c1/\True/\btw x 0 c1=aAl n x/\True)):
  evF (mkc bAA) aQ 149 [.dat I x,.ipv (.ip N n)] [] ⟨aEa n,.dat .bool (aAl n x),[]⟩:=@of_eq _ _ (by kernel_rfl) hvc
def aEf: Kt:=kOr 147 (aP [.val I] (λ_=>True) λ(x,_)=>.dat .bool (btw x 0 1439))<|kOr 149 (aP [.val I,.bp N] (λ(_,n,_)=>aEa n) λ(x,n,_)=>.dat .bool (aAl n x)) bAA
def usA(n:Net): Ann:=⟨λid s=>match id with
 | 4=>some {α:=Int,inv:=λk=>aWk n k,st:=λk=>put {mY s with mem:=[]} [(19,.dat I k),(6,.top)],μ:=λk=>Dc (Dh (Df n.1) k)}
 | 10=>some {α:=Int,inv:=λk=>aVe n k,st:=λk=>put {mY s with mem:=[]} [(32,.dat I k),(8,.top)],μ:=λk=>Dc (Dh (Df n.2.2.2.1) k)}
 | 16=>some {α:=Int,inv:=λk=>aVu n k,st:=λk=>put {mY s with mem:=[]} [(64,.dat I k),(10,.top)],μ:=λk=>Dc (Dh (Df n.2.2.2.2.1) k)}
 | 22=>some {α:=Int,inv:=λk=>aWe n k,st:=λk=>put {mY s with mem:=[]} [(99,.dat I k),(12,.top)],μ:=λk=>Dc (Dh (Df n.2.2.2.2.2) k)}
 | _=>none,λ_ _=>none,λ_ _=>none⟩
theorem bEG(n:Net)(hvc:
 let c1:=n.2.2.2;let c2:=Df n.1;let c5:=Df c1.1;let bK:=c2-1;let c10:=Df c1.2.1;let c11:=((0:Int),(0:Int));let c14:=Df c1.2.2;true/\(aEa n->(∃x,aWk n x/\n=n/\n=n/\n.1=n.1/\c2=c2/\0=x/\True)/\∀(x:Int),let c16:=Du n.1 (Dc x) ((0:Int),Dt Bool,Dt Int);let c18:=Dk (jR c16.1 c16.2.1 c16.2.2);let c19:=x+1;aWk n x->(Dp x c2->0<=x/\x<c2/\1=1/\0=0/\1=1/\0=0/\True/\(c18->false=usF n/\True)/\(c18=false->inR IntKind.i64 c19/\∃y,aWk n y/\(n=n/\n=n/\n.1=n.1/\c2=c2/\c19=y/\True)/\Dc (c2-y)<Dc (c2-x)))/\(Dp x c2=false->(∃x,aVe n x/\n=n/\n=n/\c1.1=c1.1/\c5=c5/\0=x/\True)/\∀(x:Int),let c20:=(Du c1.1 (Dc x) (ByteArray.mk #[],(0:Int),(0:Int),(0:Int),(0:Int),(0:Int),Dt ByteArray)).2.2;let c21:=Dk (btw c20.1 0 bK);let c22:=Dk c21;let c24:=Ec c21 true (Dk (btw c20.2.2.1 1 1000));let c25:=Dk c24;let c26:=Ec c24 true (Dk (btw c20.2.2.2.1 1 1000));let c27:=x+1;aVe n x->(Dp x c5->0<=x/\x<c5/\1=1/\0=0/\1=1/\1=1/\0=0/\inR IntKind.i64 bK/\True/\(c22->1=1)/\(c22->c22->c22)/\(c22->1=1)/\(c22->0=0)/\(c22->c22->c22)/\(c22->True)/\(c22->c22->c22)/\(Di true c22->c22)/\(c25->1=1)/\(c25->c25->c25)/\(c25->1=1)/\(c25->0=0)/\(c25->c25->c25)/\(c25->True)/\(c25->c25->c25)/\(Di true c25->c25)/\(c26->false=usF n/\True)/\(c26=false->inR IntKind.i64 c27/\∃y,aVe n y/\(n=n/\n=n/\c1.1=c1.1/\c5=c5/\c27=y/\True)/\Dc (c5-y)<Dc (c5-x)))/\(Dp x c5=false->(∃x,aVu n x/\n=n/\n=n/\c1.2.1=c1.2.1/\c10=c10/\0=x/\True)/\∀(x:Int),let c28:=(Du c1.2.1 (Dc x) (ByteArray.mk #[],(0:Int),(0:Int),(0:Int),c11)).2;let c29:=Dk (aAl n c28.1);let c30:=Dk c29;let c32:=Ec c29 true (Dk (aAl n c28.2.1));let c33:=Dk c32;
 let c35:=Ec c32 true (Dk (btw c28.2.2.1 0 1439));let c36:=Dk c35;let c37:=Ec c35 true (Dk (btw c28.2.2.2.1 1 100000));let c38:=x+1;aVu n x->(Dp x c10->0<=x/\x<c10/\1=1/\0=0/\1=1/\1=1/\0=0/\aEa n/\(c30->1=1)/\(c30->c30->c30)/\(c30->1=1)/\(c30->0=0)/\(c30->c30->c30)/\(c30->c30->c30)/\(c30->aEa n)/\(c30->c30->c30)/\(Di true c30->c30)/\(c33->1=1)/\(c33->c33->c33)/\(c33->1=1)/\(c33->0=0)/\(c33->c33->c33)/\(c33->c33->c33)/\(c33->True)/\(c33->c33->c33)/\(Di true c33->c33)/\(c36->1=1)/\(c36->c36->c36)/\(c36->1=1)/\(c36->0=0)/\(c36->c36->c36)/\(c36->True)/\(c36->c36->c36)/\(Di true c36->c36)/\(c37->false=usF n/\True)/\(c37=false->inR IntKind.i64 c38/\∃y,aVu n y/\(n=n/\n=n/\c1.2.1=c1.2.1/\c10=c10/\c38=y/\True)/\Dc (c10-y)<Dc (c10-x)))/\(Dp x c10=false->(∃x,aWe n x/\c1.2.2=c1.2.2/\c14=c14/\0=x/\True)/\∀(x:Int),let c39:=(Du c1.2.2 (Dc x) (ByteArray.mk #[],c11)).2;let c40:=Dk (btw c39.1 0 1439);let c41:=Dk c40;let c42:=Ec c40 true (Dk (btw c39.2 0 1439));let c43:=x+1;aWe n x->(Dp x c14->0<=x/\x<c14/\1=1/\0=0/\1=1/\1=1/\0=0/\True/\(c41->1=1)/\(c41->c41->c41)/\(c41->1=1)/\(c41->0=0)/\(c41->c41->c41)/\(c41->c41->c41)/\(c41->True)/\(c41->c41->c41)/\(Di true c41->c41)/\(c42->false=usF n/\True)/\(c42=false->inR IntKind.i64 c43/\∃y,aWe n y/\(c1.2.2=c1.2.2/\c14=c14/\c43=y/\True)/\Dc (c14-y)<Dc (c14-x)))/\(Dp x c14=false->true=usF n/\True)))))):
  evF (mkc aEf) (lvA [(4,[1,2,3,4,6,8,10,12,17,18,19,30,31,32,62,63,64,97,98,99]),(10,[1,2,3,4,8,10,12,30,31,32,62,63,64,97,98,99]),(16,[1,2,3,4,10,12,62,63,64,97,98,99]),(22,[2,3,12,97,98,99])] (usA n)) 80 [.ip N n] [] ⟨aEa n,.dat .bool (usF n),[]⟩:=@of_eq _ _ (by kernel_rfl) hvc
def bHt(n:Net)(p:Plan): Ann:=⟨λid s=>match id with
 | 4=>some {α:=Int,inv:=λk=>bD8 n p k,st:=λk=>put (mY s) [(38,.dat I k)],μ:=λk=>Dc (Dh (Df p.2.2.1) k)}
 | 7=>match s.sig.T 5,s.sig.T 6 with
  | .dat (.int .i64) o,.dat (.sl (.int .i64)) r=>some {α:=Int,inv:=λk=>aVg n o r k,st:=λk=>put (mY s) [(45,.dat I k)],μ:=λk=>Dc (Dh (Df r) k)}
  | _,_=>none
 | _=>none,λ_ _=>none,λ_ _=>none⟩
theorem bBJ(n:Net)(p:Plan)(hvc:
 let c2:=n.2.2.2;let c1:=p.2.2.1;let c3:=Df c1;let c5:=Eb c3 (Df c2.1);let bK:=Dk c5;let c8:=Ec c5 true (Eb (Df p.2.2.2) (Df c2.2.2));let c10:=Df c2.2.1;true/\(aEa n/\nxP p->(bK->bK->bK)/\(bK->bK->bK)/\(bK->bK->bK)/\(bK->bK->bK)/\(bK->bK->bK)/\(bK->bK->bK)/\(bK->bK->bK)/\(bK->bK->bK)/\(bK->bK->bK)/\(bK->bK->bK)/\(Di true bK->bK)/\(c8->false=aKD n p/\True)/\(c8=false->(∃x,bD8 n p x/\n=n/\c1=c1/\c3=c3/\0=x/\True)/\∀(x:Int),let c11:=Du c1 (Dc x) [];let c12:=Df c11;let c13:=x+1;bD8 n p x->(Dp x c3->0<=x/\x<c3/\(∃x_3,aVg n x c11 x_3/\n=n/\x=x/\c11=c11/\c1=c1/\c3=c3/\x=x/\c11=c11/\c12=c12/\0=x_3/\True)/\∀(x_3:Int),let c14:=Du c11 (Dc x_3) 0;let c15:=Eb c14 (-1);let c16:=Ed c14 c10;let c17:=Ec c15 (Ec c16 true (Eb (Du c2.2.1 (Dc c14) (ByteArray.mk #[],(0:Int),(0:Int),(0:Int),(0:Int),(0:Int))).2.1 x)) false;let c18:=x_3+1;
 aVg n x c11 x_3->(Dp x_3 c12->0<=x_3/\x_3<c12/\(c15->c15->c15)/\(c15->c15->c15)/\(c15->c15->c15)/\(c15->c15->c15)/\(c15->c15->c15)/\(c15->c15->c15)/\(c15->c15->c15)/\(Di c15 (Dk c16)->Di c15 (Dk c16)->Di c15 (Dk c16))/\(Di c15 (Dk c16)->Di c15 (Dk c16)->Di c15 (Dk c16))/\(Di c15 (Dk c16)->Di c15 (Dk c16)->Di c15 (Dk c16))/\(Di c15 (Dk c16)->Di c15 (Dk c16)->Di c15 (Dk c16))/\(Di c15 (Dk c16)->Di c15 (Dk c16)->Di c15 (Dk c16))/\(Di c15 (Dk c16)->0<=c14)/\(Di c15 (Dk c16)->c14<c10)/\(Di c15 (Dk c16)->Di c15 (Dk c16)->Di c15 (Dk c16))/\(Di c15 (Dk c16)->Di c15 (Dk c16)->Di c15 (Dk c16))/\(Di c15 (Dk c16)->Di c15 (Dk c16)->Di c15 (Dk c16))/\(Di c15 (Dk c16)->Di c15 (Dk c16)->Di c15 (Dk c16))/\(c15->c15->c15)/\(c15->Di c15 (Dk c16)->Di c15 (Dk c16))/\(Di true c15->c15)/\(c17->false=aKD n p/\True)/\(c17=false->inR IntKind.i64 c18/\∃y,aVg n x c11 y/\(n=n/\x=x/\c11=c11/\c1=c1/\c3=c3/\x=x/\c11=c11/\c12=c12/\c18=y/\True)/\Dc (c12-y)<Dc (c12-x_3)))/\(Dp x_3 c12=false->inR IntKind.i64 c13/\∃y,bD8 n p y/\(n=n/\c1=c1/\c3=c3/\c13=y/\True)/\Dc (c3-y)<Dc (c3-x)))/\(Dp x c3=false->true=aKD n p/\True)))):
  evF (mkc aEf) (lvA [(4,[0,4,5,6,8,36,37,38,43,44,45]),(7,[0,4,5,6,8,36,37,38,43,44,45])] (bHt n p)) 81 [.ip N n,.ip Pl p] [] ⟨aEa n/\nxP p,.dat .bool (aKD n p),[]⟩:=@of_eq _ _ (by kernel_rfl) hvc
theorem aOM: ∀args m c,aLT args m=some c->aB Tryz.prog jW 70 args m c:=by
 intro args m c h;unfold aLT at h;split at h
 .split at h
  .rename_i e;subst e;cases h;exact bCm _
  .cases h
 .cases h
theorem KS9: aI Tryz.prog jW bAA:=aH aOM bGm
theorem aWM(s:Int)(l:List Int): aB Tryz.prog jW 71 [.agg [.dat R l,.dat I s]] [] ⟨aJs (l,s)/\uH (l,s)=true,.tup [.agg [.dat I (aN l).1,.dat I (aN l).2.1,.dat M (aN l).2.2.1,.dat (.sl M) (aN l).2.2.2],.ptr 1 1 0 0],[(1,.var [.dat R (fD l)])]⟩/\
  iT Tryz.prog jW 71 [.agg [.dat R l,.dat I s]] [] ⟨aJs (l,s),uH (l,s),jC 39 (aHS (l,s))⟩:=by
 refine gX (c:=c9) KS9 bD hm bDQ (aXR s l ⟨rfl,λhp=>?_⟩)
 simp only[qc,Di,Es,Dk,qd,Dt,Ea,Eb,Dp,Ei,Eh,Ed,Ew,Df,Et,Dl,Dn,Eo,Dy,Dw,Dh,Dq,Ee,Fg,Dc,Dx,Dj,Dz,Ej,Du,Eu,Ez,En,Ef,Fe,Fj,Fh,Ep,Em,Ey,Fb];refine⟨hp,λh=>⟨?_,?_⟩,λh=>⟨h,⟨?_,λh2=>⟨?_,?_⟩⟩,λh2=>⟨⟨?_,h2⟩,?_⟩⟩⟩
 .unfold uH;rw[h];rfl
 .unfold aHS;rw[h];rfl
 .exact⟨by unfold jX at h;rw[qC]at h;exact h.1,hp⟩
 .unfold uH;rw[h2];simp
 .unfold aHS;rw[h];rfl
 .exact⟨by unfold jX at h;rw[qC]at h;exact h.1,hp⟩
 .unfold uH;rw[h,h2];rfl
theorem bEO(x:Int): aB Tryz.prog jW 147 [.dat I x] [] ⟨True,.dat .bool (btw x 0 1439),[]⟩:=
 aA (c:=mkc bAA) KS9 bD hm (bA4 x ⟨rfl,λ_=>⟨trivial,rfl,trivial⟩⟩)
theorem bEN(x:Int)(n:Net): aB Tryz.prog jW 149 [.dat I x,.ipv (.ip N n)] [] ⟨aEa n,.dat .bool (aAl n x),[]⟩:=by
 refine aA (c:=mkc bAA) KS9 bD hm (bA3 x n ⟨rfl,λhp=>⟨aT ?_,trivial,rfl,trivial⟩⟩)
 have:=hp.1.1.2;simp only[Dh,Df];omega
theorem bAT: aI Tryz.prog jW aEf:=aH (aC λ(x,_)=>bEO x)<|aH (aC λ(x,n,_)=>bEN x n) KS9
theorem aC5{α:Type}{p:α->Bool}{l:List α}{k:Int}(d:α)(h0:0<=k)(hk:k<l.length)(ha:(l.take k.toNat).all p=true)(hp:p (l.getD k.toNat d)=true): (l.take (k+1).toNat).all p=true:=by
 rw[show(k+1).toNat=k.toNat+1 by omega,wV,kX,ha]
 rw[qA,qB (by omega:k.toNat<l.length)]at hp
 rw[qB (by omega:k.toNat<l.length)]
 simpa using hp
theorem aKv{α:Type}{p:α->Bool}{l:List α}{k:Int}(d:α)(h0:0<=k)(hk:k<l.length)(hp:p (l.getD k.toNat d)=false): l.all p=false:=by
 cases e:l.all p with
 | false=>rfl
 | true=>rw[qM.1 e _ (bT (d:=d) (by omega))]at hp;cases hp
theorem aF7{α:Type}{p:α->Bool}{l:List α}{k:Int}(ha:(l.take k.toNat).all p=true)(hk:¬k<l.length): l.all p=true:=by
 rwa [qO (by omega)]at ha
theorem bHg(n:Net): aB Tryz.prog jW 80 [.ip N n] [] ⟨aEa n,.dat .bool (usF n),[]⟩:=by
 refine aA (c:=mkc aEf) bAT bD hm (bEG n ⟨rfl,λhp=>?_⟩)
 obtain⟨⟨⟨l1,l2⟩,l3⟩,l4⟩:=id hp;obtain⟨cs,ns,os,fs,ls,ks⟩:=n;simp only at l1 l2 l3 l4;simp only[qc,Di,Es,Dk,qd,Dt,Ea,Eb,Dp,Ei,Eh,Ed,Ew,Df,Et,Dl,Dn,Eo,Dy,Dw,Dh,Dq,Ee,Fg,Dc,Dx,Dj,Dz,Ej,Du,Eu,Ez,En,Ef,Fe,Fj,Fh,Ep,Em,Ey,Fb];refine⟨⟨qL _,qR _,rfl⟩,λx hx=>?_⟩
 have hx0:0<=x:=hx.1;have hx1:x<=cs.length:=hx.2.1;refine⟨λhlt=>⟨hx0,hlt,λhb=>?_,λhb=>⟨aT (by omega),x+1,⟨by omega,by show x+1<=(cs.length:Int);omega,aC5 (0,[],[]) hx0 hlt hx.2.2 hb⟩,rfl,by omega⟩⟩,λhge=>?_⟩
 .unfold usF;rw[aKv (p:=aCc) (0,[],[]) hx0 hlt hb];rfl
 have e1:=aF7 hx.2.2 hge;refine⟨⟨qL _,qR _,rfl⟩,λy hy=>?_⟩
 have hy0:0<=y:=hy.1;have hy1:y<=fs.length:=hy.2.1;refine⟨λhlt=>⟨hy0,hlt,aT (by omega),λhb=>?_,λhb=>⟨aT (by omega),y+1,⟨by omega,by show y+1<=(fs.length:Int);omega,aC5 (⟨#[]⟩,0,0,0,0,0,[]) hy0 hlt hy.2.2 ?_⟩,rfl,by omega⟩⟩,λhge=>?_⟩
 .have:aA0 (cs,ns,os,fs,ls,ks) (fs.getD y.toNat (⟨#[]⟩,0,0,0,0,0,[]))=false:=by
   unfold aA0;rcases hb with(h | h) | h<;>rw[h]<;>simp
  unfold usF;rw[aKv (p:=aA0 (cs,ns,os,fs,ls,ks)) (⟨#[]⟩,0,0,0,0,0,[]) hy0 hlt this];simp
 .unfold aA0;rw[hb.1.1,hb.1.2,hb.2];rfl
 have e2:=aF7 hy.2.2 hge;refine⟨⟨qL _,qR _,rfl⟩,λz hz=>?_⟩
 have hz0:0<=z:=hz.1;have hz1:z<=ls.length:=hz.2.1;refine⟨λhlt=>⟨hz0,hlt,hp,λ_=>hp,λhb=>?_,λhb=>⟨aT (by omega),z+1,⟨by omega,by show z+1<=(ls.length:Int);omega,aC5 (⟨#[]⟩,0,0,0,0,0) hz0 hlt hz.2.2 ?_⟩,rfl,by omega⟩⟩,λhge=>?_⟩
 .have:aA4 (cs,ns,os,fs,ls,ks) (ls.getD z.toNat (⟨#[]⟩,0,0,0,0,0))=false:=by
   unfold aA4;rcases hb with((h | h) | h) | h<;>rw[h]<;>simp
  unfold usF;rw[aKv (p:=aA4 (cs,ns,os,fs,ls,ks)) (⟨#[]⟩,0,0,0,0,0) hz0 hlt this];simp
 .unfold aA4;rw[hb.1.1.1,hb.1.1.2,hb.1.2,hb.2];rfl
 have e3:=aF7 hz.2.2 hge;refine⟨⟨qL _,qR _,rfl⟩,λu hu=>?_⟩
 have hu0:0<=u:=hu.1;have hu1:u<=ks.length:=hu.2.1;refine⟨λhlt=>⟨hu0,hlt,λhb=>?_,λhb=>⟨aT (by omega),u+1,⟨by omega,by show u+1<=(ks.length:Int);omega,aC5 (⟨#[]⟩,0,0) hu0 hlt hu.2.2 ?_⟩,rfl,by omega⟩⟩,λhge=>?_⟩
 .have:aBd (ks.getD u.toNat (⟨#[]⟩,0,0))=false:=by
   unfold aBd;rcases hb with h | h<;>rw[h]<;>simp
  unfold usF;rw[aKv (p:=aBd) (⟨#[]⟩,0,0) hu0 hlt this];simp
 .unfold aBd;rw[hb.1,hb.2];rfl
 have e4:=aF7 hu.2.2 hge;unfold usF;rw[e1,e2,e3,e4];rfl
theorem bDd{n:Net}{p:Plan}{i:Nat}(hi:i<p.2.2.1.length)(h:aBX n i (p.2.2.1.getD i [])=false): aKD n p=false:=by
 cases e:aKD n p with
 | false=>rfl
 | true=>
  unfold aKD at e;rw[qC,qM]at e;rw[e.2 i (vN.2 hi)]at h;cases h
theorem bFr(n:Net)(p:Plan): aB Tryz.prog jW 81 [.ip N n,.ip Pl p] [] ⟨aEa n/\nxP p,.dat .bool (aKD n p),[]⟩:=by
 refine aA (c:=mkc aEf) bAT bD hm (bBJ n p ⟨rfl,λ⟨hn,hp⟩=>?_⟩)
 obtain⟨⟨⟨l1,l2⟩,l3⟩,l4⟩:=id hn;obtain⟨cs,ns,os,fs,ls,ks⟩:=n;obtain⟨p1,p2,nx,dy⟩:=p;simp only at l1 l2 l3 l4;simp only[qc,Di,Es,Dk,qd,Dt,Ea,Eb,Dp,Ei,Eh,Ed,Ew,Df,Et,Dl,Dn,Eo,Dy,Dw,Dh,Dq,Ee,Fg,Dc,Dx,Dj,Dz,Ej,Du,Eu,Ez,En,Ef,Fe,Fj,Fh,Ep,Em,Ey,Fb];obtain⟨q1,q2⟩:nx.length<=2000000000000000/\∀r∈nx,r.length<=2000000000000000/\∀x∈r,-1<=x:=hp;refine⟨λh=>?_,λ⟨h1,h2⟩=>⟨⟨qL _,qR _,λi hi=>by omega⟩,λx hx=>?_⟩⟩
 .unfold aKD;rcases h with h | h
  .rw[vG (p:=nx.length=fs.length) (by omega)];simp
  .rw[vG (p:=dy.length=ks.length) (by omega)];simp
 have hx0:0<=x:=hx.1;have hx1:x<=nx.length:=hx.2.1;refine⟨λhlt=>⟨hx0,hlt,⟨qL _,qR _,rfl⟩,λy hy=>?_⟩,λhge=>?_⟩
 .obtain⟨r1,r2⟩:=q2 _ (bT (l:=nx) (i:=x.toNat) (d:=[]) (by omega))
  obtain⟨r,hr⟩:∃r,r=nx.getD x.toNat []:=⟨_,rfl⟩;rw[<- hr]at r1 r2 hy ⊢;have hy0:0<=y:=hy.1;have hy1:y<=r.length:=hy.2.1;refine⟨λhlt2=>?_,λhge2=>?_⟩
  .have hv:=r2 _ (bT (l:=r) (i:=y.toNat) (d:=0) (by omega))
   obtain⟨v,hv2⟩:∃v,v=r.getD y.toNat 0:=⟨_,rfl⟩;rw[<- hv2]at hv ⊢;have cg:aAv (cs,ns,os,fs,ls,ks) x v=(decide (v=-1)||(decide (v<ls.length)&&decide ((ls.getD v.toNat (⟨#[]⟩,0,0,0,0,0)).2.1=x))):=rfl
   refine⟨hy0,hlt2,λh=>by omega,λh=>by omega,λh=>?_,λh=>⟨aT (by omega),y+1,⟨by omega,by omega,aC5 0 hy0 hlt2 hy.2.2 ?_⟩,rfl,by omega⟩⟩
   .have:aAv (cs,ns,os,fs,ls,ks) x v=false:=by
     rw[cg,vG h.1];rcases h.2 with h3 | h3
     .rw[vG (by omega)];rfl
     .rw[vG h3];simp
    refine(bDd (i:=x.toNat) (by show x.toNat<nx.length;omega) ?_).symm
    show aBX _ _ (nx.getD x.toNat [])=false;rw[<- hr];unfold aBX;rw[vC hx0];exact aKv 0 hy0 hlt2 (by rw[<- hv2];exact this)
   .rw[<- hv2,cg];by_cases hm:v=-1
    .rw[qW hm];rfl
    .obtain⟨g1,g2⟩:=h hm;rw[qW (p:=v<ls.length) (by omega),qW g2];simp
  .have e1:=aF7 hy.2.2 hge2;refine⟨aT (by omega),x+1,⟨by omega,by show x+1<=(nx.length:Int);omega,λi hi=>?_⟩,rfl,by omega⟩
   by_cases e:(i:Int)<x
   .exact hx.2.2 i e
   .have:(i:Int)=x:=by omega
    rw[this];show aBX _ _ (nx.getD i [])=true;have e2:i=x.toNat:=by omega
    rw[e2,<- hr];exact e1
 .unfold aKD;rw[qW (p:=nx.length=fs.length) (by omega),qW (p:=dy.length=ks.length) (by omega)]
  symm
  simp only[zQ];exact qM.2 λi hi=>hx.2.2 i (by have:i<nx.length:=vN.1 hi;omega)
end Go.Eng.In
set_option maxRecDepth 100000
noncomputable section
namespace Go.Eng.In
open Go.Proofs
def fM(n:Net)(o:Int): Off:=n.2.2.2.1.getD o.toNat (⟨#[]⟩,0,0,0,0,0,[])
def aK(n:Net)(o:Int): Cal:=n.1.getD (fM n o).2.2.1.toNat (0,[],[])
def lC(n:Net)(k:Int): Cla:=n.2.2.2.2.2.getD k.toNat (⟨#[]⟩,0,0)
def usP(n:Net): Prop:=usF n=true/\aEa n
def tH(n:Net)(o:Int): Prop:=0<=o/\o<n.2.2.2.1.length
def aWf(n:Net)(k:Int): Prop:=0<=k/\k<n.2.2.2.2.2.length
def tOk(t:Int): Prop:=-3000000000<=t/\t<=3000000000
def aFa(n:Net)(o t:Int): Int:=t+(fM n o).2.2.2.2.1*(fM n o).2.2.2.2.2.1
def aWZ(n:Net)(o t:Int): Prop:=usP n/\tH n o/\tOk t
def cellAt(p:Plan)(o d:Int): Int:=(p.2.2.1.getD o.toNat []).getD d.toNat 0
def sO(p:Plan)(k o d:Int): Int:=((p.2.2.2.getD k.toNat []).getD o.toNat []).getD d.toNat 0
def plP(n:Net)(p:Plan): Prop:=(0<=p.1/\p.1<=p.2.1/\p.2.1<=600)/\(p.2.2.1.length=n.2.2.2.1.length/\∀r∈p.2.2.1,r.length=n.2.2.2.1.length)/\(∀i j:Int,tH n i->tH n j->aAv n i (cellAt p i j)=true/\-1<=cellAt p i j)/\
 p.2.2.2.length=n.2.2.2.2.2.length/\∀t∈p.2.2.2,t.length=n.2.2.2.1.length/\∀r∈t,r.length=n.2.2.2.1.length
def aFh(n:Net)(o l:Int)(p:Plan)(x t:Int): Bool:=wkF (aK n o).2.1 (aK n o).2.2 (x-2+p.1)&&decide (aGW (aK n o).1 (x-2+p.1) (jZ n l).2.2.2.1≥aFa n o t)
def aLK(n:Net)(p:Plan)(d:Int): Nat->Int->Int->List Int->Bool×Int×List Int
 | 0,o,t,xs=>(decide (o=d),t,xs)
 | f+1,o,t,xs=>if o=d then(true,t,xs)else if cellAt p o d=-1 then(false,t,xs)else if fE xs=false then(false,t,xs)else
  if aFh n o (cellAt p o d) p (hd xs) t=true then aLK n p d f (jZ n (cellAt p o d)).2.2.1 (aGW (aK n o).1 (hd xs-2+p.1) (jZ n (cellAt p o d)).2.2.2.1+(jZ n (cellAt p o d)).2.2.2.2.1) (tl xs)else(false,t,tl xs)
def aGl(n:Net)(p:Plan)(o d t:Int)(xs:List Int): Bool:=(aLK n p d 19 o t xs).1
def aGk(n:Net)(p:Plan)(o d t:Int)(xs:List Int): Int:=(aLK n p d 19 o t xs).2.1
def aM5(n:Net)(p:Plan)(o d t:Int)(xs:List Int): List Int:=(aLK n p d 19 o t xs).2.2
def aM6(n:Net)(p:Plan)(o d t:Int)(xs:List Int): Prop:=((usP n/\plP n p)/\tH n o/\tH n d)/\tOk t/\jJ xs
def aVN(n:Net)(p:Plan)(d o0 t0:Int)(xs0:List Int)(k o t:Int)(xs:List Int): Prop:=(0<=k/\k<=19/\aM6 n p o d t xs)/\aLK n p d (19-k).toNat o t xs=aLK n p d 19 o0 t0 xs0
def aSP(c:Cal)(m t:Int): Int:=if m<iL c.1 t then dA c.1 t+1 else dA c.1 t
def bAP(c:Cal)(m t:Int): Option Int:=(oV c.2.1 c.2.2 (aSP c m t) (aSP c m t+59)).head?
def aB9(c:Cal)(m t:Int): Bool:=(bAP c m t).isSome
def aOD(c:Cal)(m t:Int): Int:=(bAP c m t).getD 0
def aVX(c:Cal)(t:Int): Prop:=aCc c=true/\big t
def aH3(k:Nat): Prop:=k=0
def aWo(n:Net)(d cut:Int): Int:=dA (aK n d).1 cut
def aOt(n:Net)(p:Plan)(k o d cut:Int)(xs:List Int): Int:=aOD (aK n d) (lC n k).2.2 (aFa n d (aGk n p o d cut xs))
def aVk(n:Net)(p:Plan)(k o d cut:Int)(xs:List Int): List Int:=oV (aK n d).2.1 (aK n d).2.2 (aWo n d cut+1) (aOt n p k o d cut xs)
def aGf(n:Net)(p:Plan)(k o d cut:Int)(xs:List Int): Bool:=aGl n p o d cut xs&&(aB9 (aK n d) (lC n k).2.2 (aFa n d (aGk n p o d cut xs))&&(decide (aOt n p k o d cut xs-aWo n d cut<=2000)&&decide (((aVk n p k o d cut xs).length:Int)<=sO p k o d)))
def aW1(n:Net)(p:Plan)(k o d cut:Int)(xs:List Int): Prop:=aM6 n p o d cut xs/\aWf n k
def aR8(k:Nat): Prop:=k<=4000000000000
def aFT(p:Plan)(t:Int): Bool:=decide (1440*p.1<=t)&&decide (t<1440*p.2.1)
def aOG(n:Net)(p:Plan)(o:Int): List Int:=oV (aK n o).2.1 (aK n o).2.2 (p.1-1) (p.2.1+1)
def aOF(n:Net)(k o d:Int): Int:=aGW (aK n o).1 d (lC n k).2.1
def uU(n:Net)(p:Plan)(k o:Int): List Int:=((aOG n p o).map λd=>aOF n k o d).filter (aFT p)
def aAB(n:Net)(p:Plan)(k o:Int)(j:Nat): Nat:=((((aOG n p o).take j).map λd=>aOF n k o d).filter (aFT p)).length
def bDl(n:Net)(p:Plan)(k o:Int): Prop:=(usP n/\plP n p)/\tH n o/\aWf n k
theorem aTk(n:Net)(p:Plan)(o t:Int)(hvc:
 let c2:=(Du n.2.2.2.1 (Dc o) (ByteArray.mk #[],(0:Int),(0:Int),(0:Int),(0:Int),(0:Int),Dt ByteArray)).2.2.2.2;let c3:=c2.1*c2.2.1;let c4:=t+c3;true/\(aWZ n o t->0<=o/\o<Df n.2.2.2.1/\inR IntKind.i64 c3/\inR IntKind.i64 c4/\c4=aFa n o t/\True)):
  evF (mkc aEf) aQ 157 [.ips [.ip N n,.ip Pl p,.top],.dat I o,.dat I t] [] ⟨aWZ n o t,.dat I (aFa n o t),[]⟩:=@of_eq _ _ (by kernel_rfl) hvc
theorem aNM(n:Net)(p:Plan)(o:Int)(hvc:
 let c2:=(Du n.2.2.2.1 (Dc o) (ByteArray.mk #[],(0:Int),(0:Int),(0:Int),(0:Int),(0:Int),Dt ByteArray)).2.2.1;true/\(usP n/\tH n o->0<=o/\o<Df n.2.2.2.1/\0<=c2/\c2<Df n.1/\Du n.1 (Dc c2) ((0:Int),Dt Bool,Dt Int)=aK n o/\True)):
  evF (mkc aEf) aQ 152 [.ips [.ip N n,.ip Pl p,.top],.dat I o] [] ⟨usP n/\tH n o,.ip C (aK n o),[]⟩:=@of_eq _ _ (by kernel_rfl) hvc
theorem aX9(n:Net)(p:Plan)(k o:Int)(hvc:
 true/\(True->n=n/\p=p/\o=o/\k=k/\True)):
  evF (mkc aEf) aQ 82 [.ips [.ip N n,.ip Pl p,.top],.dat I k,.dat I o] [] ⟨True,.fn 151 [.ipv (.ips [.ip N n,.ip Pl p,.top]),.ip I o,.ip I k],[]⟩:=@of_eq _ _ (by kernel_rfl) hvc
def aL6: Kt:=kOr 157 (aP [.pvf N Pl,.val I,.val I] (λ((n,_),o,t,_)=>aWZ n o t) λ((n,_),o,t,_)=>.dat I (aFa n o t)) <|
 kOr 152 (aP [.pvf N Pl,.val I] (λ((n,_),o,_)=>usP n/\tH n o) λ((n,_),o,_)=>.ip C (aK n o)) <|
 kOr 82 (aP [.pvf N Pl,.val I,.val I] (λ_=>True) λ((n,p),k,o,_)=>.fn 151 [.ipv (.ips [.ip N n,.ip Pl p,.top]),.ip I o,.ip I k]) aEf
def KI1: FuncId->List AV->Option sV:=λf caps=>if f=219 then match ofK [.ptr I,.ptr I,.bp C] caps with
 | some (a,b,c,_)=>some ⟨wdP c.2.1 c.2.2 a b,I,oV c.2.1 c.2.2 a b⟩
 | none=>none
 else none
noncomputable def aVq(K:Kt)(KI:FuncId->List AV->Option sV)(KP:KPt)(pf:FuncId->Bool): Cfg:=⟨Tryz.prog,jW,K,λ_=>false,KI,true,KP,pf⟩
def mki(K:Kt)(KI:FuncId->List AV->Option sV): Cfg:={mkc K with KI:=KI}
def bHx(n:Net)(p:Plan)(k o:Int): bAD:=⟨aQ,⟨λ_ _=>none,λ_ _=>none,λid=>id==6⟩,λs=>some (frz (allNames s) s),λj=>aAB n p k o j⟩
theorem aYa (n : Net) (p : Plan) (k o : Int) (hvc :
 let c1 := p.fst;
 let c2 := Ee (1440 : Int) c1;
 let c3 := p.snd;
 let c4 := c3.fst;
 let c5 := Ee (1440 : Int) c4;
 let bK := Dh c1 (1 : Int);
 let c7 := Dq c4 (1 : Int);
 let c8 := (aK n o).snd;
 let c9 := c8.fst;
 let c10 := c8.snd;
 let c11 := oV c9 c10 bK c7;
 let c12 := uU n p k o;
 let c13 := Dj c12;
 let c14 := n.snd.snd.snd.snd.snd;
 let c15 := (aK n o).fst;
 let c16 := (Du c14 (Dc k) (ByteArray.mk (Dt UInt8).toArray, (0 : Int), (0 : Int))).snd.fst; true = true ∧ true = true ∧ true = true ∧ false = false ∧ ∀
  (l : Nat), bDl n p k o → (usP n ∧ tH n o) ∧ 1 = 1 ∧ 0 = 0 ∧ inR IntKind.i64 c2 ∧ inR IntKind.i64 c5 ∧ 1 = 1 ∧ 0 = 0 ∧ 1 = 1 ∧ 0 = 0 ∧ 1 = 1 ∧ 0 = 0 ∧ inR
  IntKind.i64 bK ∧ inR IntKind.i64 c7 ∧ True ∧ l = l ∧ n = n ∧ p = p ∧ o = o ∧ k = k ∧ l = l ∧ 1 = 1 ∧ 0 = 0 ∧ AV.ip ((Ty.int IntKind.i64).pair (Ty.bool.sl.pair
  (Ty.int IntKind.i64).sl)) (aK n o) = AV.ip ((Ty.int IntKind.i64).pair (Ty.bool.sl.pair (Ty.int IntKind.i64).sl)) (aK n o) ∧ 1 = 1 ∧ 0 = 0 ∧ c2 = c2 ∧ 1 =
  1 ∧ 0 = 0 ∧ c5 = c5 ∧ n = n ∧ p = p ∧ o = o ∧ aK n o = aK n o ∧ n = n ∧ p = p ∧ n = n ∧ p = p ∧ p = p ∧ p = p ∧ p = p ∧ p = p ∧ c1 = c1 ∧ c2 = c2 ∧ n = n
  ∧ p = p ∧ n = n ∧ p = p ∧ p = p ∧ p = p ∧ p = p ∧ c3 = c3 ∧ c4 = c4 ∧ c5 = c5 ∧ aK n o = aK n o ∧ n = n ∧ p = p ∧ n = n ∧ p = p ∧ p = p ∧ p = p ∧ p = p ∧
  p = p ∧ c1 = c1 ∧ bK = bK ∧ n = n ∧ p = p ∧ n = n ∧ p = p ∧ p = p ∧ p = p ∧ p = p ∧ c3 = c3 ∧ c4 = c4 ∧ c7 = c7 ∧ bK = bK ∧ c7 = c7 ∧ aK n o = aK n o ∧
  wdP c9 c10 bK c7 ∧ aAB n p k o (0) = 0 ∧ aAB n p k o (Dj c11) = c13 ∧ ∀ (j : Nat),
 let c17 := aAB n p k o j;
 let c18 := Dz c17 (1);
 let c19 := aAB n p k o (Dz j (1)); ∀ (y : Int),
 let c20 := Ed (aGW c15 y c16) c2;
 let c21 := Ec c20 (Dp (aGW c15 y c16) c5) false;
 let c22 := Ec c21 (Dk false) false; aA7 c11 j y → true = true ∧ Dl (0 : Int) k ∧ Dn k (Df c14) ∧ (big c15 ∧ big y ∧ big c16) ∧ (c20 = true →
  c20 = true → c20 = true) ∧ (c20 = true → c20 = true → c20 = true) ∧ (Di true c20 = true → c20 = true) ∧ (c21 = true → (c21 = true → c21 = true) ∧ (c21 =
  true → c21 = true) ∧ l = l ∧ true = true ∧ aA7 c12 c17 (aGW c15 y c16) ∧ ∀ (b : Bool),
 let c23 := Ec c21 (Dk b) false; (Di true c21 = true → c21 = true) ∧ (c23 = true → b = true → c18 = c13) ∧ (c23 = false → b = true ∧ c18 = c19)) ∧ (c21
  = false → (c21 = true → c21 = true → c21 = true) ∧ (Di true c21 = true → c21 = true) ∧ (c22 = true → true = true → c17 = c13) ∧ (c22 = false → true = true ∧
  c17 = c19))) :
    bFX (mki aL6 KI1) (bHx n p k o) 151 [.ipv (.ips [.ip N n, .ip Pl p, .top]), .ip I o, .ip I k] ⟨bDl n p k o, I, uU n p k o⟩ := @of_eq _ _ (by kernel_rfl) hvc
def bHs(n:Net)(p:Plan)(d o0 t0:Int)(xs0:List Int): Ann:=⟨λid s=>match id with
 | 2=>some {α:=Int×Int×Int×List Int,inv:=λx=>aVN n p d o0 t0 xs0 x.1 x.2.1 x.2.2.1 x.2.2.2,st:=λx=>pX (put (mY s) [(9,.dat I x.1),(1,.dat I x.2.1),(3,.dat I x.2.2.1)]) 1 (.var [.dat R x.2.2.2]),μ:=λx=>Dc (Dh 19 x.1)}
 | _=>none,λ_ _=>none,λ_ _=>none⟩
def bDW: Kt:=kOr 207 (aW4 1 R [.mp 1] (λ_ xs=>True/\fE xs=true) (λ_ xs=>.dat I (hd xs)) λ_ xs=>tl xs) aL6
def c12: Cfg:=aOh bDW (λ_=>false) KP6 (λf=>f==79||f==207)
theorem aPw(n:Net)(p:Plan)(o d t:Int)(xs:List Int)(hvc:
 let c1:=p.2.2.1;let c2:=aGl n p o d t xs;let c3:=chainOf (Value.iface (39) (Value.int IntKind.i64 (190:Int)));let c4:=n.2.2.2.2.1;let c5:=p.1;let bK:=(ByteArray.mk #[],(0:Int),(0:Int),(0:Int),(0:Int),(0:Int));true/\(aM6 n p o d t xs->1=1/\(∃(x:Int×Int×Int×List Int),let c7:=x.1;let c8:=x.2;let c9:=c8.1;let c10:=c8.2;let c11:=c10.1;let c12:=c10.2;aVN n p d o t xs c7 c9 c11 c12/\n=n/\p=p/\1=1/\0=0/\0=0/\o=c9/\d=d/\t=c11/\(0:Int)=(0:Int)/\0=c7/\xs=c12/\1=1/\True)/\∀(x:Int×Int×Int×List Int),let c13:=x.1;let c14:=x.2;let c15:=c14.1;let c16:=c14.2;let c17:=c16.1;let c18:=c16.2;let c19:=Eb c15 d;let c20:=Du c1 (Dc c15) [];let c21:=Dp c13 19;let c22:=Du c20 (Dc d) 0;let c23:=Ec c21 (Eb c22 (-1)) false;let c24:=fE c18;let c25:=hd c18-2;let c26:=c25+c5;let c27:=aK n c15;let c28:=c27.1;let c29:=(Du c4 (Dc c22) bK).2.2;let c30:=c29.2;let c31:=c30.1;let c32:=c27.2;let c33:=c32.1;let c34:=c32.2;let c35:=wkF c33 c34 c26;let c36:=aGW c28 c26 c31;let c37:=Ec c35 (Ed c36 (aFa n c15 c17)) false;let c38:=c36+c30.2.1;let c39:=c13+1;
 aVN n p d o t xs c13 c15 c17 c18->(c19->0<=c15/\c15<Df c1/\0<=d/\d<Df c20/\(c21->c21->c21)/\(Di true c21->c21)/\(true->True/\(c23=false->c2=false/\true/\c3=c3))/\((true->c23)->(True/\c23)/\0<=c22/\c22<Df c4/\(usP n/\tH n c15)/\True/\(c24->(True/\c24)/\1=1/\inR IntKind.i64 c25/\inR IntKind.i64 c26/\(big c28/\big c26/\big c31)/\wkP c33 c34 c26/\(c35->c35->c35)/\(c35->c35->c35)/\(c35->c35->c35)/\(c35->aWZ n c15 c17)/\(c35->c35->c35)/\(c35->c35->c35)/\(Di true c35->c35)/\(true->True/\(c37=false->c2=false/\true/\c3=c3))/\((true->c37)->(True/\c37)/\inR IntKind.i64 c38/\inR IntKind.i64 c39/\∃(y:Int×Int×Int×List Int),let c40:=y.1;let c41:=y.2;let c42:=c41.1;let c43:=c41.2;let c44:=c43.1;let c45:=c43.2;aVN n p d o t xs c40 c42 c44 c45/\(n=n/\p=p/\1=1/\0=0/\0=0/\c29.1=c42/\d=d/\c38=c44/\(0:Int)=(0:Int)/\c39=c40/\tl c18=c45/\1=1/\True)/\Dc (19-c40)<Dc (19-c13)))/\(c24=false->c2=false/\true/\c3=c3)))/\(c19=false->c2/\c17=aGk n p o d t xs/\c18=aM5 n p o d t xs/\1=1/\True))):
  evM c12 (bHs n p d o t xs) 155 [.ips [.ip N n,.ip Pl p,.ptr 1 1 0 0],.dat I o,.dat I d,.dat I t] [(1,.var [.dat R xs])] (.dat I (aGk n p o d t xs)) [(1,.var [.dat R (aM5 n p o d t xs)])] ⟨aM6 n p o d t xs,aGl n p o d t xs,jC 39 190⟩:=@of_eq _ _ (by kernel_rfl) hvc
def bHw: Ann:=⟨λid s=>match id with
 | 5=>some {α:=Nat,inv:=λk=>aH3 k,st:=λ_=>mY s,μ:=λk=>k}
 | _=>none,λ_ _=>none,λ_ _=>none⟩
theorem aTK(z m t:Int)(w:List Bool)(h:List Int)(hvc:
 let c1:=(z,w,h);let c2:=Dp m (iL z t);let c3:=dA z t+1;let c4:=c3+60;let c5:=c4-1;let bK:=oV w h c3 c5;let c7:=aB9 c1 m t;let c8:=chainOf (Value.iface (39) (Value.int IntKind.i64 (190:Int)));let c9:=dA z t+60;let c10:=c9-1;let c11:=oV w h (dA z t) c10;true/\(aVX c1 t->(big z/\big t)/\(c2->inR IntKind.i64 c3/\inR IntKind.i64 c4/\inR IntKind.i64 c5/\True/\wdP w h c3 c5/\(∃x,aH3 x/\x=0/\c1=c1/\m=m/\t=t/\1=1/\0=0/\0=0/\c3=c3/\iL z t=iL z t/\dA z t=dA z t/\iL z t=iL z t/\c1=c1/\t=t/\dA z t=dA z t/\iL z t=iL z t/\dA z t=dA z t/\iL z t=iL z t/\m=m/\iL z t=iL z t/\c2=c2/\dA z t=dA z t/\c3=c3/\c1=c1/\c3=c3/\c3=c3/\c4=c4/\c5=c5/\c3=c3/\c5=c5/\c1=c1/\(0:Int)=(0:Int)/\True)/\(∀(x:Nat) (y:Int),aH3 x->aA7 bK x y->1=1/\0=0/\c7/\1=1/\0=0/\y=aOD c1 m t/\True)/\∀(x:Nat),aH3 x->x=Dj bK->(true->True/\(false=false->c7=false/\true/\c8=c8))/\True)/\(c2=false->inR IntKind.i64 c9/\inR IntKind.i64 c10/\True/\wdP w h (dA z t) c10/\(∃x,aH3 x/\x=0/\c1=c1/\m=m/\t=t/\1=1/\0=0/\0=0/\dA z t=dA z t/\iL z t=iL z t/\dA z t=dA z t/\iL z t=iL z t/\c1=c1/\t=t/\dA z t=dA z t/\iL z t=iL z t/\dA z t=dA z t/\iL z t=iL z t/\m=m/\iL z t=iL z t/\c2=c2/\c1=c1/\dA z t=dA z t/\dA z t=dA z t/\c9=c9/\c10=c10/\dA z t=dA z t/\c10=c10/\c1=c1/\(0:Int)=(0:Int)/\True)/\(∀(x:Nat) (y:Int),aH3 x->aA7 c11 x y->1=1/\0=0/\c7/\1=1/\0=0/\y=aOD c1 m t/\True)/\∀(x:Nat),aH3 x->x=Dj c11->(true->True/\(false=false->c7=false/\true/\c8=c8))/\True))):
  evC (aVq aL6 KI1 Go.Eng.noP (λ_=>false)) bHw 156 [.ip C (z,w,h),.dat I m,.dat I t] (.dat I (aOD (z,w,h) m t)) ⟨aVX (z,w,h) t,aB9 (z,w,h) m t,jC 39 190⟩:=@of_eq _ _ (by kernel_rfl) hvc
def bAB: Kt:=kOr 155 (aW4 1 R [.pv 1 N Pl,.val I,.val I,.val I] (λ((n,p),o,d,t,_) xs=>aM6 n p o d t xs/\aGl n p o d t xs=true) (λ((n,p),o,d,t,_) xs=>.dat I (aGk n p o d t xs)) λ((n,p),o,d,t,_) xs=>aM5 n p o d t xs) <|
 kOr 156 (aP [.ptr C,.val I,.val I] (λ(c,m,t,_)=>aVX c t/\aB9 c m t=true) λ(c,m,t,_)=>.dat I (aOD c m t)) aL6
def bHb: KPt:=pOr 155 (aZD 1 R [.pv 1 N Pl,.val I,.val I,.val I] λ((n,p),o,d,t,_) xs=>⟨aM6 n p o d t xs,aGl n p o d t xs,jC 39 190⟩) <|
 pOr 156 (aGm [.ptr C,.val I,.val I] λ(c,m,t,_)=>⟨aVX c t,aB9 c m t,jC 39 190⟩) KPr
def c13: Cfg:=aVq bAB KI1 bHb (λf=>f==79||f==155||f==156)
def bHj: Ann:=⟨λid s=>match id with
 | 7=>match s.sig.T 15 with
  | .ptr nm _ _ _=>some {α:=Nat,inv:=λk=>aR8 k,st:=λk=>pX (mY s) nm (.var [.dat I (Dx k)]),μ:=λk=>k}
  | _=>none
 | _=>none,λ_ _=>none,λ_ _=>none⟩
theorem aTm(n:Net)(p:Plan)(k o d cut:Int)(xs:List Int)(hvc:
 let c1:=aGl n p o d cut xs;let c2:=aGf n p k o d cut xs;let c3:=chainOf (Value.iface (39) (Value.int IntKind.i64 (190:Int)));let c4:=n.2.2.2.2.2;let c5:=aGk n p o d cut xs;let bK:=aFa n d c5;let c7:=Du c4 (Dc k) (ByteArray.mk #[],(0:Int),(0:Int));let c8:=c7.2.2;let c9:=aB9 (aK n d) c8 bK;let c10:=(aK n d).1;let c11:=aOD (aK n d) c8 bK;let c12:=dA c10 cut;let c13:=c11-c12;let c14:=Eh c13 2000;let c15:=c12+1;let c16:=(aK n d).2;let c17:=c16.1;let c18:=c16.2;let c19:=iL c10 cut;let c20:=aM5 n p o d cut xs;let c21:=oV c17 c18 c15 c11;let c22:=p.2.2.2;let c23:=Du c22 (Dc k) (Dt (List Int));let c24:=Du c23 (Dc o) [];let c25:=Du c24 (Dc d) 0;
 true/\(aW1 n p k o d cut xs->1=1/\(true->aM6 n p o d cut xs/\(c1=false->c2=false/\true/\c3=c3))/\((true->c1)->(aM6 n p o d cut xs/\c1)/\1=1/\(usP n/\tH n d)/\0<=k/\k<Df c4/\aWZ n d c5/\aVX (aK n d) bK/\(c9->0<=k/\k<Df c4/\aWZ n d c5/\(aVX (aK n d) bK/\c9)/\(big c10/\big cut)/\inR IntKind.i64 c13/\(true->True/\(c14=false->c2=false/\true/\c3=c3))/\((true->c14)->(True/\c14)/\1=1/\0=0/\inR IntKind.i64 c15/\True/\wdP c17 c18 c15 c11/\(∃x,aR8 x/\x=0/\n=n/\p=p/\1=1/\0=0/\0=0/\k=k/\o=o/\d=d/\cut=cut/\c5=c5/\aK n d=aK n d/\c11=c11/\c12=c12/\c19=c19/\1=1/\0=0/\0=0/\n=n/\p=p/\1=1/\0=0/\0=0/\o=o/\d=d/\cut=cut/\c5=c5/\n=n/\p=p/\1=1/\0=0/\0=0/\d=d/\aK n d=aK n d/\aK n d=aK n d/\n=n/\p=p/\1=1/\0=0/\0=0/\n=n/\p=p/\1=1/\0=0/\0=0/\n=n/\p=p/\1=1/\0=0/\0=0/\n=n/\n=n/\c4=c4/\c4=c4/\k=k/\c7=c7/\c8=c8/\c8=c8/\n=n/\p=p/\1=1/\0=0/\0=0/\d=d/\c5=c5/\bK=bK/\c11=c11/\c12=c12/\c19=c19/\aK n d=aK n d/\cut=cut/\c12=c12/\c19=c19/\c12=c12/\c19=c19/\c11=c11/\c12=c12/\c13=c13/\c14=c14/\aK n d=aK n d/\c12=c12/\c15=c15/\c11=c11/\c15=c15/\c11=c11/\aK n d=aK n d/\c20=c20/\0=Dx x/\1=1/\True)/\(∀(x:Nat),let c26:=Dx x+1;
 ∀(y:Int),aR8 x->aA7 c21 x y->1=1/\0=0/\inR IntKind.i64 c26/\1=1/\0=0/\∃z,aR8 z/\z=x+(1)/\n=n/\p=p/\1=1/\0=0/\0=0/\k=k/\o=o/\d=d/\cut=cut/\c5=c5/\aK n d=aK n d/\c11=c11/\c12=c12/\c19=c19/\1=1/\0=0/\0=0/\n=n/\p=p/\1=1/\0=0/\0=0/\o=o/\d=d/\cut=cut/\c5=c5/\n=n/\p=p/\1=1/\0=0/\0=0/\d=d/\aK n d=aK n d/\aK n d=aK n d/\n=n/\p=p/\1=1/\0=0/\0=0/\n=n/\p=p/\1=1/\0=0/\0=0/\n=n/\p=p/\1=1/\0=0/\0=0/\n=n/\n=n/\c4=c4/\c4=c4/\k=k/\c7=c7/\c8=c8/\c8=c8/\n=n/\p=p/\1=1/\0=0/\0=0/\d=d/\c5=c5/\bK=bK/\c11=c11/\c12=c12/\c19=c19/\aK n d=aK n d/\cut=cut/\c12=c12/\c19=c19/\c12=c12/\c19=c19/\c11=c11/\c12=c12/\c13=c13/\c14=c14/\aK n d=aK n d/\c12=c12/\c15=c15/\c11=c11/\c15=c15/\c11=c11/\aK n d=aK n d/\c20=c20/\c26=Dx z/\1=1/\True)/\∀(x:Nat),aR8 x->x=Dj c21->1=1/\0=0/\0<=k/\k<Df c22/\0<=o/\o<Df c23/\0<=d/\d<Df c24/\True/\(Eh (Dx x) c25->1=1/\0=0/\0<=k/\k<Df c22/\0<=o/\o<Df c23/\0<=d/\d<Df c24/\(True/\Eh (Dx x) c25)/\c2/\c20=c20/\1=1/\True)/\(Eh (Dx x) c25=false->c2=false/\true/\c3=c3)))/\(c9=false->c2=false/\true/\c3=c3)))):
  evM c13 bHj 83 [.ips [.ip N n,.ip Pl p,.ptr 1 1 0 0],.dat I k,.dat I o,.dat I d,.dat I cut] [(1,.var [.dat R xs])] (.tup []) [(1,.var [.dat R (aM5 n p o d cut xs)])] ⟨aW1 n p k o d cut xs,aGf n p k o d cut xs,jC 39 190⟩:=@of_eq _ _ (by kernel_rfl) hvc
theorem aMh{n:Net}(h:usP n): ((∀c∈n.1,aCc c=true)/\(∀o∈n.2.2.2.1,aA0 n o=true))/\(∀l∈n.2.2.2.2.1,aA4 n l=true)/\∀k∈n.2.2.2.2.2,aBd k=true:=by
 have:=h.1;unfold usF at this;simp only[qC,qM]at this;exact⟨⟨this.1.1.1,this.1.1.2⟩,this.1.2,this.2⟩
theorem aPD{n:Net}{o:Int}(h:usP n)(ho:tH n o): (0<=(fM n o).2.2.1/\(fM n o).2.2.1<n.1.length)/\(1<=(fM n o).2.2.2.2.1/\(fM n o).2.2.2.2.1<=1000)/\1<=(fM n o).2.2.2.2.2.1/\(fM n o).2.2.2.2.2.1<=1000:=by
 have:=(aMh h).1.2 (fM n o) (bT (by have:=ho.1;have:=ho.2;omega))
 unfold aA0 at this;simp only[qC,aCe]at this;omega
theorem aMg{n:Net}{o:Int}(h:usP n)(ho:tH n o): aCc (aK n o)=true:=
 (aMh h).1.1 _ (bT (by have:=(aPD h ho).1;omega))
theorem aWF{n:Net}{l:Int}(h:usP n)(h0:0<=l)(h1:l<n.2.2.2.2.1.length): tH n (jZ n l).2.1/\tH n (jZ n l).2.2.1/\(0<=(jZ n l).2.2.2.1/\(jZ n l).2.2.2.1<=1439)/\1<=(jZ n l).2.2.2.2.1/\(jZ n l).2.2.2.2.1<=100000:=by
 have:=(aMh h).2.1 (jZ n l) (bT (by omega))
 unfold aA4 aAl at this;simp only[qC,aCe]at this;unfold tH;omega
theorem aWG{n:Net}{k:Int}(h:usP n)(hk:aWf n k): (0<=(lC n k).2.1/\(lC n k).2.1<=1439)/\0<=(lC n k).2.2/\(lC n k).2.2<=1439:=by
 have:=(aMh h).2.2 (lC n k) (bT (by have:=hk.1;have:=hk.2;omega))
 unfold aBd at this;simp only[qC,aCe]at this;omega
theorem aBe{c:Cal}(h:aCc c=true): (-720<=c.1/\c.1<=840)/\c.2.1.length=7/\srt c.2.2:=by
 have:=(rV.1 h).1;exact⟨⟨this.1,this.2.1⟩,this.2.2.1,aPC h⟩
theorem aWY{n:Net}{o t:Int}(h:usP n)(ho:tH n o): t+1<=aFa n o t/\aFa n o t<=t+1000000:=by
 obtain⟨_,⟨a1,a2⟩,b1,b2⟩:=aPD h ho;unfold aFa;have h1:1*1<=(fM n o).2.2.2.2.1*(fM n o).2.2.2.2.2.1:=xK a1 b1 (by decide) (by omega)
 have h2:(fM n o).2.2.2.2.1*(fM n o).2.2.2.2.2.1<=1000*1000:=xK a2 b2 (by omega) (by decide)
 omega
theorem aYB(n:Net)(p:Plan)(o t:Int): aB Tryz.prog jW 157 [.ips [.ip N n,.ip Pl p,.top],.dat I o,.dat I t] [] ⟨aWZ n o t,.dat I (aFa n o t),[]⟩:=by
 refine aA (c:=mkc aEf) bAT bD hm (aTk n p o t ⟨rfl,λ⟨hu,ho,ht⟩=>?_⟩)
 obtain⟨r1,r2⟩:=aWY (t:=t) hu ho;obtain⟨t1,t2⟩:=ht;have e:aFa n o t=t+(fM n o).2.2.2.2.1*(fM n o).2.2.2.2.2.1:=rfl;refine⟨ho.1,ho.2,aT ?_,aT ?_,rfl,trivial⟩
 .show _<=(fM n o).2.2.2.2.1*(fM n o).2.2.2.2.2.1/\(fM n o).2.2.2.2.1*(fM n o).2.2.2.2.2.1<=_;omega
 .show _<=t+(fM n o).2.2.2.2.1*(fM n o).2.2.2.2.2.1/\t+(fM n o).2.2.2.2.1*(fM n o).2.2.2.2.2.1<=_;omega
theorem aP8(n:Net)(p:Plan)(o:Int): aB Tryz.prog jW 152 [.ips [.ip N n,.ip Pl p,.top],.dat I o] [] ⟨usP n/\tH n o,.ip C (aK n o),[]⟩:=by
 refine aA (c:=mkc aEf) bAT bD hm (aNM n p o ⟨rfl,λ⟨hu,ho⟩=>?_⟩)
 have:=(aPD hu ho).1;exact⟨ho.1,ho.2,this.1,this.2,rfl,trivial⟩
theorem bCi(n:Net)(p:Plan)(k o:Int): aB Tryz.prog jW 82 [.ips [.ip N n,.ip Pl p,.top],.dat I k,.dat I o] [] ⟨True,.fn 151 [.ipv (.ips [.ip N n,.ip Pl p,.top]),.ip I o,.ip I k],[]⟩:=
 aA (c:=mkc aEf) bAT bD hm (aX9 n p k o ⟨rfl,λ_=>by simp⟩)
theorem bEt: aI Tryz.prog jW aL6:=aH (aC λ((n,p),o,t,_)=>aYB n p o t)<|aH (aC λ((n,p),o,_)=>aP8 n p o)<|aH (aC λ((n,p),k,o,_)=>bCi n p k o) bAT
theorem aBG.args {P:Program} {G:List (Nat×AV)} {gf:FuncId} {xs ys:List AV} {it:sV} (h:aBG P G gf ys it) (hab:∀(C:Ctx) us,AV.relL P C xs us->AV.relL P C ys us):aBG P G gf xs it:=
 λhp l J JX JP w D us hD hG hu=>h hp l J JX JP w D us hD hG (hab _ us hu)
theorem bEu: dI Tryz.prog jW KI1:=by
 intro f caps it h;unfold KI1 at h;split at h
 .rename_i e;subst e;split at h
  .rename_i a b c _ hx;cases h;exact aBG.args (bEM c.1 a b c.2.1 c.2.2) λC us hu=>lQ hx hu
  .cases h
 .cases h
theorem aVZ(n:Net)(p:Plan)(k o:Int): aAB n p k o (aOG n p o).length=(uU n p k o).length:=by
 unfold aAB uU;rw[qO (qK _)]
theorem aR1{n:Net}{p:Plan}{k o:Int}{j:Nat}{y:Int}(h:aA7 (aOG n p o) j y): aAB n p k o (j+1)=aAB n p k o j+(if aFT p (aOF n k o y)=true then 1 else 0):=by
 have h:(aOG n p o)[j]?=some y:=h;unfold aAB;rw[wV,h,yG,yQ,qF]
 congr 1
 simp only[Option.toList,zG,qCa,yU,qBf];split<;>rfl
theorem aZ6{n:Net}{p:Plan}{k o:Int}{j:Nat}{y:Int}(h:aA7 (aOG n p o) j y)(hc:aFT p (aOF n k o y)=true): aA7 (uU n p k o) (aAB n p k o j) (aOF n k o y):=by
 have h:(aOG n p o)[j]?=some y:=h;obtain⟨hj,hy⟩:=qG.1 h;have e:aOG n p o=(aOG n p o).take j++y::(aOG n p o).drop (j+1):=by rw[<- hy,List.getElem_cons_drop,xC]
 have e2:uU n p k o=(((aOG n p o).take j).map λd=>aOF n k o d).filter (aFT p)++((y::(aOG n p o).drop (j+1)).map λd=>aOF n k o d).filter (aFT p):=by
  unfold uU
  conv=>lhs;rw[e]
  rw[yG,yQ]
 unfold aA7;rw[e2];unfold aAB;rw[qV (qK _),qBz,zG,yU,if_pos hc];rfl
theorem aWD{w:List Bool}{h:List Int}{a b x:Int}(hx:x∈oV w h a b): a<=x/\x<=b/\wkF w h x=true:=by
 unfold oV at hx;rw[xR,wO]at hx;obtain⟨⟨i,hi,rfl⟩,h2⟩:=hx;have:=vN.1 hi;exact⟨by omega,by omega,h2⟩
theorem bCj (n : Net) (p : Plan) (k o : Int) : aBG Tryz.prog jW 151 [.ipv (.ips [.ip N n, .ip Pl p, .top]), .ip I o, .ip I k] ⟨bDl n p k o, I, uU n p k o⟩ := by
  refine aLz (c := mki aL6 KI1) bEt bEu hm (aYa n p k o ⟨rfl, rfl, rfl, rfl, fun l ⟨⟨hu, hp⟩, ho, hk⟩ => ?_⟩)
  obtain ⟨⟨p0, p1, p2⟩, _⟩ := hp
  have hc := aMg hu ho
  obtain ⟨⟨z1, z2⟩, hw, hs⟩ := aBe hc
  have hcl := aWG hu hk
  simp only [qAn, zS, vP]
  refine ⟨⟨hu, ho⟩, aT (by simp only [Ee]; omega), aT (by simp only [Ee]; omega), aT (by simp only [Dh]; omega), aT (by simp only [Dq]; omega), ⟨hw, hs, ⟨by simp only [Dh]; omega, by simp only [Dh]; omega⟩, ⟨by simp only [Dq]; omega, by simp only [Dq]; omega⟩⟩, rfl, aVZ n p k o, fun j y hy => ?_⟩
  have hy' : aA7 (aOG n p o) j y := hy
  have hm2 := aWD (zH hy')
  have hk2 := aR1 (k := k) hy'
  have eM : aGW (aK n o).1 y (lC n k).2.1 = aOF n k o y := rfl
  have eC : Ec (Ed (aOF n k o y) (Ee 1440 p.1)) (Dp (aOF n k o y) (Ee 1440 p.2.1)) false = aFT p (aOF n k o y) := by
    rw [aR9]; rfl
  have two : ∀ {q : Prop}, q → (q ∧ q) := fun h => ⟨h, h⟩
  refine ⟨hk.1, hk.2, ⟨⟨by omega, by omega⟩, ⟨by omega, by omega⟩, ⟨by show _ ≤ (lC n k).2.1; omega, by show (lC n k).2.1 ≤ _; omega⟩⟩, ?_⟩
  simp only [qBg, kU, zS, vP]
  refine ⟨fun h => by simpa [Di] using h, fun hc1 => ?_, fun hc1 => ?_⟩
  · have hin : aFT p (aOF n k o y) = true := by rw [← eC]; exact hc1
    rw [if_pos hin] at hk2
    refine ⟨aZ6 hy' hin, fun b => ⟨fun _ => hc1, fun h1 h2 => ?_, fun h1 => ?_⟩⟩
    · rw [h2] at h1
      rw [hc1] at h1; cases h1
    · rw [hc1] at h1
      have : b = true := by simpa [Ec, Dk] using h1
      exact ⟨this, hk2.symm⟩
  · have hin : aFT p (aOF n k o y) = false := by rw [← eC]; exact hc1
    rw [if_neg (by rw [hin]; exact Bool.false_ne_true)] at hk2
    refine ⟨fun h => by simpa [Di] using h, ?_, ?_⟩
    · intro h
      rw [hc1] at h; cases h
    · intro _
      exact hk2.symm
theorem bDP: aI Tryz.prog jW bDW:=aH (aDg λ_ xs=>(aEH xs).1) bEt
theorem aMm(n:Net)(p:Plan)(o d t:Int)(xs:List Int): aB Tryz.prog jW 155 [.ips [.ip N n,.ip Pl p,.ptr 1 1 0 0],.dat I o,.dat I d,.dat I t] [(1,.var [.dat R xs])] ⟨aM6 n p o d t xs/\aGl n p o d t xs=true,.dat I (aGk n p o d t xs),[(1,.var [.dat R (aM5 n p o d t xs)])]⟩/\
  iT Tryz.prog jW 155 [.ips [.ip N n,.ip Pl p,.ptr 1 1 0 0],.dat I o,.dat I d,.dat I t] [(1,.var [.dat R xs])] ⟨aM6 n p o d t xs,aGl n p o d t xs,jC 39 190⟩:=by
 refine gX (c:=c12) bDP bD hm aSD (aPw n p o d t xs ⟨rfl,λhp=>?_⟩)
 simp only[qc,Di,Es,Dk,qd,Dt,Ea,Eb,Dp,Ei,Eh,Ed,Ew,Df,Et,Dl,Dn,Eo,Dy,Dw,Dh,Dq,Ee,Fg,Dc,Dx,Dj,Dz,Ej,Du,Eu,Ez,En,Ef,Fe,Fj,Fh,Ep,Em,Ey,Fb];refine⟨⟨(0,o,t,xs),⟨⟨qL _,show(0:Int)<=19 by decide,hp⟩,rfl⟩,rfl,rfl,rfl,rfl⟩,λ⟨k,o2,t2,ys⟩ hi=>?_⟩
 obtain⟨⟨k0,k1,hq⟩,he⟩:=hi;simp only at k0 k1 hq he;obtain⟨⟨⟨hu,hpl⟩,ho2,hd2⟩,ht2,hys⟩:=id hq;obtain⟨⟨p0,p1,p2⟩,⟨q1,q2⟩,q3,_⟩:=id hpl;obtain⟨c,ec⟩:∃c,c=cellAt p o2 d:=⟨_,rfl⟩;have eC:(p.2.2.1.getD o2.toNat []).getD d.toNat 0=c:=ec.symm;obtain⟨ln,el⟩:∃ln,ln=jZ n c:=⟨_,rfl⟩;have eL:n.2.2.2.2.1.getD c.toNat (⟨#[]⟩,0,0,0,0,0)=ln:=el.symm;simp only[eC,eL];obtain⟨g1,g2⟩:=q3 o2 d ho2 hd2
 rw[<- ec]at g1 g2;have eOk:aGl n p o d t xs=(aLK n p d (19-k).toNat o2 t2 ys).1:=by rw[he];rfl
 have eT:aGk n p o d t xs=(aLK n p d (19-k).toNat o2 t2 ys).2.1:=by rw[he];rfl
 have eR:aM5 n p o d t xs=(aLK n p d (19-k).toNat o2 t2 ys).2.2:=by rw[he];rfl
 have hf:k<19->(19-k).toNat=(19-(k+1)).toNat+1:=λh=>by omega
 have eS:∀f,aLK n p d (f+1) o2 t2 ys=if o2=d then(true,t2,ys)else if c=-1 then(false,t2,ys)else if fE ys=false then(false,t2,ys)else
   if aFh n o2 c p (hd ys) t2=true then aLK n p d f ln.2.2.1 (aGW (aK n o2).1 (hd ys-2+p.1) ln.2.2.2.1+ln.2.2.2.2.1) (tl ys)else(false,t2,tl ys):=λf=>by rw[el,ec];rfl
 have eD:aFh n o2 c p (hd ys) t2=(wkF (aK n o2).2.1 (aK n o2).2.2 (hd ys-2+p.1)&&decide (aGW (aK n o2).1 (hd ys-2+p.1) ln.2.2.2.1≥aFa n o2 t2)):=by rw[el];rfl
 refine⟨λhne=>?_,λheq=>?_⟩
 .have hrow:=q2 _ (bT (l:=p.2.2.1) (i:=o2.toNat) (d:=[]) (by have:=ho2.1;have:=ho2.2;omega))
  refine⟨ho2.1,by rw[q1];exact ho2.2,hd2.1,by rw[hrow];exact hd2.2,λh=>?_,λ⟨hk,hc⟩=>?_⟩
  .rw[eOk];by_cases hk:k<19
   .rw[hf hk,eS,if_neg hne,if_pos (h hk)]
   .rw[show(19-k).toNat=0 by omega]
    exact vG hne
  .have hl:c<n.2.2.2.2.1.length:=by
    unfold aAv at g1;rw[vG hc,xZ,qC,qE]at g1;exact g1.1
   obtain⟨_,lo,⟨m0,m1⟩,r0,r1⟩:=aWF hu (by omega:0<=c) hl
   rw[<- el]at lo m0 m1 r0 r1;obtain⟨⟨z1,z2⟩,hw,hs⟩:=aBe (aMg hu ho2);refine⟨⟨hk,hc⟩,by omega,hl,⟨hu,ho2⟩,λh1=>?_,λh1=>?_⟩
   .have hm1:0<=hd ys/\hd ys<=65519:=jS.1 hys.1 _ (bT (wM h1));have hm2:-1000000<=aGW (aK n o2).1 (hd ys-2+p.1) ln.2.2.2.1/\aGW (aK n o2).1 (hd ys-2+p.1) ln.2.2.2.1<=100000000:=by unfold aGW;omega
    refine⟨h1,aT (by omega),aT (by omega),⟨⟨by omega,by omega⟩,⟨by omega,by omega⟩,⟨by omega,by omega⟩⟩,⟨hw,hs,⟨by omega,by omega⟩⟩,λ_=>⟨hu,ho2,ht2⟩,λh=>?_,λh=>?_⟩
    .rw[eOk,hf hk,eS,if_neg hne,if_neg hc,if_neg (by rw[h1];exact Bool.noConfusion),if_neg]
     rw[eD];simpa using h
    .have hy:aFh n o2 c p (hd ys) t2=true:=by rw[eD];simpa using h
     refine⟨h,aT (by omega),aT (by omega),⟨(k+1,ln.2.2.1,aGW (aK n o2).1 (hd ys-2+p.1) ln.2.2.2.1+ln.2.2.2.2.1,tl ys),⟨⟨by show 0<=k+1;omega,by show k+1<=19;omega,⟨⟨hu,hpl⟩,lo,hd2⟩,⟨by show -3000000000<=_+_;omega,by show _+_<=3000000000;omega⟩,lS hys 1⟩,?_⟩,⟨rfl,rfl,rfl,rfl⟩,by show(19-(k+1)).toNat<_;omega⟩⟩
     rw[<- he,hf hk,eS,if_neg hne,if_neg hc,if_neg (by rw[h1];exact Bool.noConfusion),if_pos hy]
   .rw[eOk,hf hk,eS,if_neg hne,if_neg hc,if_pos h1]
 .have e:aLK n p d (19-k).toNat o2 t2 ys=(true,t2,ys):=by
   by_cases hk:k<19
   .rw[hf hk,eS,if_pos heq]
   .rw[show(19-k).toNat=0 by omega]
    show(decide (o2=d),t2,ys)=_;rw[qW heq]
  rw[eOk,eT,eR,e];exact⟨rfl,rfl,rfl⟩
theorem aP6(c:Cal)(m t:Int): aB Tryz.prog jW 156 [.ip C c,.dat I m,.dat I t] [] ⟨aVX c t/\aB9 c m t=true,.dat I (aOD c m t),[]⟩/\
  iT Tryz.prog jW 156 [.ip C c,.dat I m,.dat I t] [] ⟨aVX c t,aB9 c m t,jC 39 190⟩:=by
 obtain⟨z,w,h⟩:=c;refine jG (c:=aVq aL6 KI1 noP (λ_=>false)) bEt bEu hm aDM (aTK z m t w h ⟨rfl,λhp=>?_⟩)
 simp only[qc,Di,Es,Dk,qd,Dt,Ea,Eb,Dp,Ei,Eh,Ed,Ew,Df,Et,Dl,Dn,Eo,Dy,Dw,Dh,Dq,Ee,Fg,Dc,Dx,Dj,Dz,Ej,Du,Eu,Ez,En,Ef,Fe,Fj,Fh,Ep,Em,Ey,Fb];obtain⟨hc,t1,t2⟩:=id hp;obtain⟨⟨z1,z2⟩,hw,hs⟩:=aBe hc;simp only at z1 z2 hw hs;have hday:-1000000000<=dA z t/\dA z t<=1000000000:=by unfold dA;omega
 have key:∀b:Int,aSP (z,w,h) m t=b->(∀(x:Nat) (y:Int),aH3 x->aA7 (oV w h b (b+60-1)) x y->aB9 (z,w,h) m t=true/\y=aOD (z,w,h) m t)/\∀x:Nat,aH3 x->x=(oV w h b (b+60-1)).length->aB9 (z,w,h) m t=false:=λb hb=>by
  have e:bAP (z,w,h) m t=(oV w h b (b+60-1)).head?:=by
   unfold bAP;rw[hb,show b+60-1=b+59 by omega]
  refine⟨λx y hx hy=>?_,λx hx hy=>?_⟩
  .have hx:x=0:=hx;have hy:(oV w h b (b+60-1))[x]?=some y:=hy;rw[hx,<- List.head?_eq_getElem?,<- e]at hy;unfold aB9 aOD;rw[hy];exact⟨rfl,rfl⟩
  .have hx:x=0:=hx;have:oV w h b (b+60-1)=[]:=vT (by omega)
   unfold aB9;rw[e,this];rfl
 refine⟨⟨⟨by omega,by omega⟩,t1,t2⟩,λhlt=>?_,λhge=>?_⟩
 .obtain⟨k1,k2⟩:=key (dA z t+1) (by unfold aSP;exact if_pos hlt)
  exact⟨aT (by omega),aT (by omega),aT (by omega),⟨hw,hs,⟨by omega,by omega⟩,⟨by omega,by omega⟩⟩,rfl,k1,k2⟩
 .obtain⟨k1,k2⟩:=key (dA z t) (by unfold aSP;exact if_neg hge)
  exact⟨aT (by omega),aT (by omega),⟨hw,hs,⟨by omega,by omega⟩,⟨by omega,by omega⟩⟩,rfl,k1,k2⟩
theorem aXu: aI Tryz.prog jW bAB:=aH (aDg λ((n,p),o,d,t,_) xs=>(aMm n p o d t xs).1)<|aH (aC λ(c,m,t,_)=>(aP6 c m t).1) bEt
theorem bAy: fC Tryz.prog jW bHb:=rC (aFr λ((n,p),o,d,t,_) xs=>(aMm n p o d t xs).2)<|rC (sQ λ(c,m,t,_)=>(aP6 c m t).2) aNq
theorem aVM{n:Net}{p:Plan}{o d t:Int}{xs:List Int}(hq:aM6 n p o d t xs)(hc:cellAt p o d≠-1)(h1:fE xs=true): (0<=cellAt p o d/\cellAt p o d<n.2.2.2.2.1.length)/\aM6 n p (jZ n (cellAt p o d)).2.2.1 d (aGW (aK n o).1 (hd xs-2+p.1) (jZ n (cellAt p o d)).2.2.2.1+(jZ n (cellAt p o d)).2.2.2.2.1) (tl xs):=by
 obtain⟨⟨⟨hu,hpl⟩,ho2,hd2⟩,ht2,hys⟩:=hq;obtain⟨⟨p0,p1,p2⟩,⟨q1,q2⟩,q3,_⟩:=id hpl;obtain⟨g1,g2⟩:=q3 o d ho2 hd2;have hl:cellAt p o d<n.2.2.2.2.1.length:=by
  unfold aAv at g1;rw[vG hc,xZ,qC,qE]at g1;exact g1.1
 have h0:0<=cellAt p o d:=by omega
 obtain⟨_,lo,⟨m0,m1⟩,r0,r1⟩:=aWF hu h0 hl;obtain⟨⟨z1,z2⟩,hw,hs⟩:=aBe (aMg hu ho2);have hm1:0<=hd xs/\hd xs<=65519:=jS.1 hys.1 _ (bT (wM h1));refine⟨⟨h0,hl⟩,⟨⟨hu,hpl⟩,lo,hd2⟩,⟨?_,?_⟩,lS hys 1⟩<;>unfold aGW<;>omega
theorem aLJ{n:Net}{p:Plan}{d:Int}: ∀(f:Nat) {o t:Int} {xs:List Int},aM6 n p o d t xs->tOk (aLK n p d f o t xs).2.1/\jJ (aLK n p d f o t xs).2.2
 | 0,o,t,xs,h=>⟨h.2.1,h.2.2⟩
 | f+1,o,t,xs,h=>by
  unfold aLK;by_cases h1:o=d
  .rw[if_pos h1];exact⟨h.2.1,h.2.2⟩
  rw[if_neg h1];by_cases h2:cellAt p o d=-1
  .rw[if_pos h2];exact⟨h.2.1,h.2.2⟩
  rw[if_neg h2];by_cases h3:fE xs=false
  .rw[if_pos h3];exact⟨h.2.1,h.2.2⟩
  rw[if_neg h3];by_cases h4:aFh n o (cellAt p o d) p (hd xs) t=true
  .rw[if_pos h4];exact aLJ f (aVM h h2 (by simpa using h3)).2
  .rw[if_neg h4];exact⟨h.2.1,lS h.2.2 1⟩
theorem aZ5{c:Cal}{m t:Int}(h:aB9 c m t=true): aSP c m t<=aOD c m t/\aOD c m t<=aSP c m t+59:=by
 unfold aB9 at h;unfold aOD;cases e:bAP c m t with
 | none=>rw[e]at h;cases h
 | some y=>
  unfold bAP at e;have:=aWD (qBx e);exact⟨this.1,this.2.1⟩
theorem bAX(w:List Bool)(h:List Int)(a b:Int): (oV w h a b).length<=(b+1-a).toNat:=by
 unfold oV;refine wC (yM _ _) ?_;rw[vF,vK];exact qK _
theorem aPZ(n:Net)(p:Plan)(k o d cut:Int)(xs:List Int): aB Tryz.prog jW 83 [.ips [.ip N n,.ip Pl p,.ptr 1 1 0 0],.dat I k,.dat I o,.dat I d,.dat I cut] [(1,.var [.dat R xs])] ⟨aW1 n p k o d cut xs/\aGf n p k o d cut xs=true,.tup [],[(1,.var [.dat R (aM5 n p o d cut xs)])]⟩/\
  iT Tryz.prog jW 83 [.ips [.ip N n,.ip Pl p,.ptr 1 1 0 0],.dat I k,.dat I o,.dat I d,.dat I cut] [(1,.var [.dat R xs])] ⟨aW1 n p k o d cut xs,aGf n p k o d cut xs,jC 39 190⟩:=by
 refine gX (c:=c13) aXu bEu hm bAy (aTm n p k o d cut xs ⟨rfl,λhp=>?_⟩)
 simp only[qc,Di,Es,Dk,qd,Dt,Ea,Eb,Dp,Ei,Eh,Ed,Ew,Df,Et,Dl,Dn,Eo,Dy,Dw,Dh,Dq,Ee,Fg,Dc,Dx,Dj,Dz,Ej,Du,Eu,Ez,En,Ef,Fe,Fj,Fh,Ep,Em,Ey,Fb];obtain⟨hf,hk⟩:=id hp;obtain⟨⟨⟨hu,hpl⟩,ho,hd⟩,ht,hys⟩:=id hf;obtain⟨⟨p0,p1,p2⟩,⟨q1,q2⟩,q3,q4,q5⟩:=id hpl;obtain⟨ft,_⟩:=aLJ 19 hf;have hcl:=aWG hu hk;have hc:=aMg hu hd;obtain⟨⟨z1,z2⟩,hw,hs⟩:=aBe hc;have hr:=aWY (t:=aGk n p o d cut xs) hu hd
 have ft:-3000000000<=aGk n p o d cut xs/\aGk n p o d cut xs<=3000000000:=ft;have ht2:-3000000000<=cut/\cut<=3000000000:=ht;have eK:n.2.2.2.2.2.getD k.toNat (⟨#[]⟩,0,0)=lC n k:=rfl;have eL:aOD (aK n d) (lC n k).2.2 (aFa n d (aGk n p o d cut xs))=aOt n p k o d cut xs:=rfl;have eB:dA (aK n d).1 cut=aWo n d cut:=rfl
 have eN:oV (aK n d).2.1 (aK n d).2.2 (aWo n d cut+1) (aOt n p k o d cut xs)=aVk n p k o d cut xs:=rfl;have eY:((p.2.2.2.getD k.toNat []).getD o.toNat []).getD d.toNat 0=sO p k o d:=rfl
 have eP:aGf n p k o d cut xs=(aGl n p o d cut xs&&(aB9 (aK n d) (lC n k).2.2 (aFa n d (aGk n p o d cut xs))&&(decide (aOt n p k o d cut xs-aWo n d cut<=2000)&&decide (((aVk n p k o d cut xs).length:Int)<=sO p k o d)))):=rfl;simp only[eK,eL,eB,eN,eY];have hrp:aWZ n d (aGk n p o d cut xs):=⟨hu,hd,ft⟩;have hdp:aVX (aK n d) (aFa n d (aGk n p o d cut xs)):=⟨hc,⟨by omega,by omega⟩⟩
 have hB:-10000000<=aWo n d cut/\aWo n d cut<=10000000:=by unfold aWo dA;omega
 refine⟨⟨hf,λh=>by rw[eP,h];rfl⟩,λh1=>⟨⟨hf,h1⟩,⟨hu,hd⟩,hk.1,hk.2,hrp,hdp,λh2=>⟨hk.1,hk.2,hrp,⟨hdp,h2⟩,⟨⟨by omega,by omega⟩,⟨by omega,by omega⟩⟩,?_⟩,λh=>by rw[eP,h1,h];rfl⟩⟩
 have hD:=aZ5 h2;rw[eL]at hD;have hbg:dA (aK n d).1 (aFa n d (aGk n p o d cut xs))<=aSP (aK n d) (lC n k).2.2 (aFa n d (aGk n p o d cut xs))/\aSP (aK n d) (lC n k).2.2 (aFa n d (aGk n p o d cut xs))<=dA (aK n d).1 (aFa n d (aGk n p o d cut xs))+1:=by unfold aSP;split<;>omega
 have hbd:-10000000<=dA (aK n d).1 (aFa n d (aGk n p o d cut xs))/\dA (aK n d).1 (aFa n d (aGk n p o d cut xs))<=10000000:=by unfold dA;omega
 refine⟨aT (by omega),λh=>by rw[eP,h1,h2,vG h];rfl,λh3=>⟨h3,aT (by omega),⟨hw,hs,⟨by omega,by omega⟩,⟨by omega,by omega⟩⟩,⟨0,wX _,rfl,rfl⟩,λx y hx hy=>?_,λx hx hlen=>?_⟩⟩
 .have hlt:x<(aVk n p k o d cut xs).length:=(qG.1 hy).1;have:=bAX (aK n d).2.1 (aK n d).2.2 (aWo n d cut+1) (aOt n p k o d cut xs);rw[eN]at this;exact⟨aT (by omega),x+1,by show x+1<=4000000000000;omega,rfl,by omega⟩
 .have hk':=hk.1;have hk2:=hk.2;have ho1:=ho.1;have ho2:=ho.2;have hd1:=hd.1;have hd2:=hd.2;obtain⟨w1,w2⟩:=q5 _ (bT (l:=p.2.2.2) (i:=k.toNat) (d:=[]) (by omega))
  have w3:=w2 _ (bT (l:=p.2.2.2.getD k.toNat []) (i:=o.toNat) (d:=[]) (by omega))
  refine⟨hk',by omega,ho1,by omega,hd1,by omega,λh=>⟨hk',by omega,ho1,by omega,hd1,by omega,h,?_⟩,λh=>?_⟩
  .rw[eP,h1,h2,qW h3,qW (by omega)];rfl
  .rw[eP,h1,h2,qW h3,vG (by omega)];rfl
end Go.Eng.In
