/- PeTr1e PeTr2e PeTr3e PeTr4e PeTr5e PeTrDe PeWa1e PeWa2e PeWa3e PeWa4e PeWa5e PeWa6e PeCo1e PeMxe PeTt3e PeTt4e PeTt7e PeTt8e PeRo2e -/
import Derived.Test.YtlakcpmgefpfaaaGreatDoorECErrE
import Derived.Test.YtlakcpmgefpfaaaGreatDoorECErrF
set_option linter.all false
set_option maxRecDepth 100000
noncomputable section
namespace Go.Eng.Sv
open Go.Proofs
def cC(w:List Bool)(h:Li)(a n:Int): Li:=((List.range n.toNat).map λ(i:Nat)=>a+(i:Int)).filter λd=>aW w h d
def my(w:List Bool)(h:Li)(a d:Int): Nat:=(((List.range (d-a).toNat).map λ(i:Nat)=>a+(i:Int)).filter λd=>aW w h d).length
def Ql(w:List Bool)(h:Li)(a n:Int): Prop:=FU w h/\-1000000000<=a/\a<=1000000000/\-100000000<=n/\n<=100000000
def nh(a n d:Int): Prop:=a<=d/\(d<=a+n\/d=a)
def pS(w:List Bool)(h:Li)(d:Int): Option Int:=(cC w h d 60).head?
def eQ(w:List Bool)(h:Li)(d:Int): Int:=(pS w h d).getD 0
def dX(w:List Bool)(h:Li)(d:Int): Int:=if(pS w h d).isSome then 0 else 20
def gT(z:Int)(w:List Bool)(h:Li)(d:Int): Prop:=ay z w h=true/\bC d=true
def isZ(k:Nat): Prop:=k=0
def aE1(w:List Bool)(h:Li)(a n:Int): Jv:=⟨λb y=>match b with
 | 1=>some {α:=Int,inv:=λd=>nh a n d,st:=λd=>⟨put y.s [(5,.dat I d)],my w h a d,true⟩,μ:=λd=>Dc (Di (Dq a n) d)}
 | _=>none,λ_ _=>none,λb=>b==3⟩
theorem V8 (z a n : Int) (w w' : List Bool) (h : Li) (hvc :
 let c1 := (z, w', h);
 let c2 := cC w h a n;
 let c3 := Dk c2; true = true ∧ true = true ∧ true = true ∧ false = false ∧ ∀ (l : Nat), Ql w h a n → (∃ x, nh a n x ∧ (l = l ∧ a = a ∧ n = n ∧ w = w ∧
  c1 = c1 ∧ a = x ∧ a = a ∧ True) ∧ 0 = my w h a x ∧ true = true) ∧ ∀ (x : Int),
 let c4 := Dp x (Dq a n);
 let c5 := my w h a x;
 let c6 := Eb c5 (1);
 let c7 := Dq x (1 : Int);
 let c8 := Ea (aW w h x) (Dj false) false; nh a n x → inR .i64 (Dq a n) ∧ (c4 = true → (FU w h ∧ uq x) ∧ (aW w h x = true →
  (aW w h x = true → aW w h x = true) ∧ (aW w h x = true → aW w h x = true) ∧ l = l ∧ true = true ∧ m4 c2 c5 x ∧ ∀ (b : Bool),
 let c9 := Ea (aW w h x) (Dj b) false; (Dh true (aW w h x) = true → aW w h x = true) ∧ (c9 = true → b = true → c6 = c3) ∧ (c9 = false → inR
  IntKind.i64 c7 ∧ ∃ y, nh a n y ∧ ((l = l ∧ a = a ∧ n = n ∧ w = w ∧ c1 = c1 ∧ c7 = y ∧ a = a ∧ True) ∧ c6 = my w h a y ∧ b = true) ∧ Dx (Dc (Di
  (Dq a n) y)) (Dc (Di (Dq a n) x)))) ∧ (aW w h x = false → (aW w h x = true → aW w h x = true → aW w h x = true) ∧ (Dh true (aW w
  h x) = true → aW w h x = true) ∧ (c8 = true → true = true → c5 = c3) ∧ (c8 = false → inR .i64 c7 ∧ ∃ y, nh a n y ∧ ((l = l ∧ a = a ∧ n = n ∧ w =
  w ∧ c1 = c1 ∧ c7 = y ∧ a = a ∧ True) ∧ c5 = my w h a y ∧ true = true) ∧ Dx (Dc (Di (Dq a n) y)) (Dc (Di (Dq a n) x))))) ∧ (c4 = false →
  true = true → c5 = c3)) :
    evI (mkc KT4) (aE1 w h a n) 222 [.ip I a, .ip I n, .ipv (.fn 265 [.ia .bool w, .ip C (z, w', h)])] ⟨Ql w h a n, I, cC w h a n⟩ := oE_ hvc
abbrev Ix:=al [.row C,.val I,.val I] (λ(c,_,_,_)=>Dk c.2.1=7) λ(c,a,n,_)=>.fn 222 [.ip I a,.ip I n,.ipv (.fn 265 [.ia .bool c.2.1,.ip C c])]
def KR1: Kt:=kOr 164 Ix KT4
def aIu: FuncId->List AV->Option jF:=λf b=>match f,b with
 | 222,[.ip (.int .i64) a,.ip (.int .i64) n,.ipv (.fn 265 [.ia .bool w,.ip (.pair (.int .i64) (.pair (.sl .bool) (.sl (.int .i64)))) c])]=>some ⟨Ql w c.2.2 a n,I,cC w c.2.2 a n⟩
 | _,_=>none
def flat(s:St): St:={s with tm:=s.tm.map aDl}
def aHx: Ann:=Z8 4 Nat isZ (λs _=>flat s) λk=>k
noncomputable def aIF(K:Kt): Cfg:=⟨Tryz.prog,G0,K,λ_=>false,aIu,true,λ_ _ _=>none,λ_=>false⟩
def aEa: eO 164 Ix:=ae λ(((z:Int),(w:List Bool),(h:Li)),(a:Int),(n:Int),_)=>by
 refine zE (A:=az) (p:=let b:=Ty.bool.sl.pair (Ty.int .i64).sl;(Dk w=7->Dk w=7/\T6 1 0 a n 1 0 (AV.fn 265 [AV.ia Ty.bool w,AV.ip ((Ty.int IntKind.i64).pair b) (z,w,h)]=AV.fn 265 [AV.ia Ty.bool w,AV.ip ((Ty.int .i64).pair b) (z,w,h)]/\True))) aFp λb=>?_
 exact⟨b,rfl,rfl,rfl,rfl,rfl,rfl,rfl,trivial⟩
def aIc: ai Tryz.prog G0 KR1:=af aEa aFp
def UO{α:Type}{f:Nat->α}{p:α->Bool}{k:Nat}(g:p (f k)=true): ∀N:Nat,k<N->(((List.range N).map f).filter p)[(((List.range k).map f).filter p).length]?=some (f k)
 | 0,h=>Z
 | N+1,h=>by
  rw[zJ,zZ,yL];rcases zO k N with i | i
  .have b:=UO g N i;rw[vS (qG.1 b).1];exact b
  .have e:N=k:=by omega
   subst e;rw[vH (qJ _),qBf];simp[g]
def Vx{w:List Bool}{h:Li}{a n x:Int}(j:a<=x)(g:x<a+n)(b:aW w h x=true): m4 (cC w h a n) (my w h a x) x:=by
 have e:a+((x-a).toNat:Int)=x:=Z;have:=UO (f:=λ(i:Nat)=>a+(i:Int)) (p:=λd=>aW w h d) (k:=(x-a).toNat) (by simp only[e];exact b) n.toNat Z;simp only[e]at this;exact this
def uP{w:List Bool}{h:Li}{a x:Int}(b:a<=x): my w h a (x+1)=my w h a x+(if aW w h x then 1 else 0):=by
 unfold my;rw[show(x+1-a).toNat=(x-a).toNat+1 by omega,zJ,zZ,yL,qF];have e:a+((x-a).toNat:Int)=x:=Z
 congr 1
 simp only[zB,qBv,e,yN,gI];split<;>simp_all
def OD(w:List Bool)(h:Li)(a:Int): my w h a a=0:=by
 unfold my;rw[show(a-a).toNat=0 by omega];rfl
def cnt_end{w:List Bool}{h:Li}{a n x:Int}(b:nh a n x)(e:¬x<a+n): my w h a x=(cC w h a n).length:=by
 unfold my cC;obtain⟨g1,g2⟩:=b;rw[show(x-a).toNat=n.toNat by omega]
theorem aD6 (a n : Int) (w : List Bool) (c : C.den) : mA Tryz.prog G0 222 [.ip I a, .ip I n, .ipv (.fn 265 [.ia .bool w, .ip C c])] ⟨Ql w c.2.2 a n, I, cC w c.2.2 a n⟩ := by
  obtain ⟨z, w', h⟩ := c
  refine rX (c := mkc KT4) (A := aE1 w h a n) aFp iI hm ?_
  refine V8 z a n w w' h ⟨rfl, rfl, rfl, rfl, fun l ⟨hc, b1, b2, b3, b4⟩ => ?_⟩
  simp only [ua, jA, Dh, Dj, zX, qBe, yB, vU, qAj, kJ, yO, yR, kT, qAb, qBj, qAv, gQ, gW, zY, kY, wE, xM, reduceCtorEq, qAt, gB, Dp, Ei, Ed, Ee, Di, Dq, Dx, Dc, Dk, Dz, Eb, qE, vZ, gG, qBb]
  refine ⟨⟨a, ⟨qH _, .inr rfl⟩, rfl, (OD w h a).symm⟩, fun x hx => ?_⟩
  have hx1 := hx.1
  have hx2 := hx.2
  refine ⟨⟨by omega, by omega⟩, fun hlt => ⟨⟨hc, by omega, by omega⟩, fun hw => ?_, fun hw => ?_⟩, fun hge => cnt_end hx hge⟩
  · simp only [hw, ua, jA, Dh, Dj, zX, qBe, yB, vU, qAj, kJ, yO, yR, kT, qAb, qBj, qAv, gQ, gW, zY, kY, wE, xM, reduceCtorEq, qAt, gB, Dp, Ei, Ed, Ee, Di, Dq, Dx, Dc, Dk, Dz, Eb, qE, vZ, gG, qBb]
    refine ⟨Vx hx1 hlt hw, fun b => ⟨fun e1 e2 => (by rw [e1] at e2; cases e2), fun hb => ⟨⟨by omega, by omega⟩, x + 1, ⟨by omega, .inl (by omega)⟩, ⟨rfl, ?_, hb⟩, by omega⟩⟩⟩
    rw [uP hx1, hw]; rfl
  · simp only [hw, ua, jA, Dh, Dj, zX, qBe, yB, vU, qAj, kJ, yO, yR, kT, qAb, qBj, qAv, gQ, gW, zY, kY, wE, xM, reduceCtorEq, qAt, gB, Dp, Ei, Ed, Ee, Di, Dq, Dx, Dc, Dk, Dz, Eb, qE, vZ, gG, qBb]
    refine ⟨⟨by omega, by omega⟩, x + 1, ⟨by omega, .inl (by omega)⟩, ⟨rfl, ?_⟩, by omega⟩
    rw [uP hx1, hw]; rfl
def aFD: bf Tryz.prog G0 aIu:=by
 intro f b c h;unfold aIu at h;split at h
 .cases h;exact aD6 _ _ _ _
 .cases h
def okd{d:Int}(hd:bC d=true): -1000000<=d/\d<=1000000:=by
 unfold bC at hd;exact vN hd
abbrev Iw:=al [.row C,.val I] (λ(c,d,_)=>gT c.1 c.2.1 c.2.2 d) λ(c,d,_)=>.tup [.dat I (eQ c.2.1 c.2.2 d),.dat I (dX c.2.1 c.2.2 d)]
def aD4: eO 160 Iw:=ae λ(((z:Int),(w:List Bool),(h:Li)),(d:Int),_)=>by
 refine zF (c:=aIF KR1) (A:=aHx) aIc aFD hm (p:=let e:=Dj (ay z w h);let b:=Dj e;let f:=Ea e true (Dj (bC d));let g:=(z,w,h);let i:=cC w h d 60;true/\(gT z w h d->True/\(b->b->b)/\(b->True)/\(b->b->b)/\(Dh true b->b)/\(f->1=1/\0=0/\1=1/\0=0/\1=1/\0=0/\1=1/\0=0/\0=eQ w h d/\1=dX w h d/\True)/\(f=false->Dk w=7/\Ql w h d 60/\(∃x,isZ x/\x=0/\z=z/\w=w/\h=h/\d=d/\g=g/\1=1/\0=0/\0=0/\1=1/\0=0/\0=0/\z=z/\w=w/\h=h/\ay z w h=ay z w h/\e=e/\e=e/\f=f/\z=z/\w=w/\h=h/\d=d/\d=d/\(60:Int)=(60:Int)/\w=w/\g=g/\(0:Int)=(0:Int)/\(0:Int)=(0:Int)/\True)/\(∀(x:Nat) (y:Int),isZ x->m4 i x y->1=1/\0=0/\1=1/\0=0/\1=1/\0=0/\1=1/\0=0/\y=eQ w h d/\0=dX w h d/\True)/\∀(x:Nat),isZ x->x=Dk i->1=1/\0=0/\1=1/\0=0/\1=1/\0=0/\1=1/\0=0/\0=eQ w h d/\20=dX w h d/\True))) ⟨rfl,λ⟨f,hd⟩=>?_⟩
 have g:=FT f;have j:=okd hd;simp only[f,hd,ua,jA,Dh,Dj,zX,qBe,yB,vU,qAj,kJ,yO,yR,kT,qAb,qBj,qAv,gQ,gW,zY,kY,wE,xM,reduceCtorEq,qAt,gB,Dp,Ei,Ed,Ee,Di,Dq,Dx,Dc,Dk,Dz,Eb,qE,vZ,gG,qBb];refine⟨g.1,⟨g,zoo,zoo,zoo,zoo⟩,⟨0,rfl,rfl⟩,λx y b e=>?_,λx b i=>?_⟩
 .have b:x=0:=b;subst b;have:pS w h d=some y:=by
   have e:(cC w h d 60)[0]?=some y:=e;unfold pS;rw[List.head?_eq_getElem?];exact e
  simp[eQ,dX,this]
 .have b:x=0:=b;subst b;have:pS w h d=none:=by
   unfold pS;rw[vW i.symm];rfl
  simp[eQ,dX,this]
def H6{w:List Bool}{h:Li}{a n y:Int}(b:y∈cC w h a n): a<=y/\y<a+n/\aW w h y=true:=by
 unfold cC at b;obtain⟨g,f⟩:=yS.1 b;obtain⟨i,e,rfl⟩:=vM.1 g;have:=qZ.1 e;exact⟨Z,Z,f⟩
abbrev zx(t:TypeId)(e:Int): Value:=.iface t (.int .i64 e)
abbrev Stp: Ty:=.pair I (.pair I (.pair I I))
abbrev Stop:=Int×Int×Int×Int
abbrev Pl: Ty:=.pair I (.pair I (.pair M (.sl M)))
abbrev Plan:=Int×Int×Lj×List (Lj)
def ct(t:Int): Bool:=decide (0<=t/\t<=2000000)
def bI(n:Net)(o:Int): Off:=n.2.2.2.1.getD o.toNat (⟨#[]⟩,0,0,0,0,0,[])
def rS(n:Net)(l:Int): Line:=n.2.2.2.2.1.getD l.toNat (⟨#[]⟩,0,0,0,0,0)
def aC(n:Net)(o:Int): Int×List Bool×Li:=n.1.getD (bI n o).2.2.1.toNat (0,[],[])
def b7(n:Net)(l:Int): Int:=(rS n l).2.1
def JD(n:Net)(l:Int): Int:=(rS n l).2.2.1
def Ai(n:Net)(l:Int): Int:=(rS n l).2.2.2.1
def iW(n:Net)(l:Int): Int:=(rS n l).2.2.2.2.1
def nH(n:Net)(o:Int): Prop:=noF n=true/\0<=o/\o<n.2.2.2.1.length
def T9(n:Net)(l:Int): Prop:=noF n=true/\0<=l/\l<n.2.2.2.2.1.length
def bq(n:Net)(o l:Int): Bool:=decide (l=-1)||(du l n.2.2.2.2.1.length&&decide (b7 n l=o))
def rowOk(n:Net)(o:Int)(b:Li): Bool:=decide ((b.length:Int)=n.2.2.2.1.length)&&b.all (bq n o)
def mf(n:Net)(nx:Lj): Bool:=decide ((nx.length:Int)=n.2.2.2.1.length)&&(List.range nx.length).all λi=>rowOk n i (nx.getD i [])
def dw(nx:Lj): Prop:=nx.length<=1000000/\∀r∈nx,r.length<=1000000
def pJ(n:Net)(nx:Lj)(k:Int): Prop:=0<=k/\k<=nx.length/\(nx.length:Int)=n.2.2.2.1.length/\∀i:Nat,(i:Int)<k->rowOk n i (nx.getD i [])=true
def Hh(n:Net)(o:Int)(b:Li)(k:Int): Prop:=0<=k/\k<=b.length/\(b.length:Int)=n.2.2.2.1.length/\∀i:Nat,(i:Int)<k->bq n o (b.getD i 0)=true
def d0F(c:Int×List Bool×Li)(m t:Int): Int:=if m<JC c.1 t then bE c.1 t+1 else bE c.1 t
def iY(c:Int×List Bool×Li)(m t:Int): Int:=if dX c.2.1 c.2.2 (d0F c m t)=0 then fx c.1 (eQ c.2.1 c.2.2 (d0F c m t)) m else 0
def mB(c:Int×List Bool×Li)(m t:Int): Int:=dX c.2.1 c.2.2 (d0F c m t)
def Lr(c:Int×List Bool×Li)(m t:Int): Prop:=ay c.1 c.2.1 c.2.2=true/\0<=m/\m<1440/\-1000000<=t/\t<=100000000
def aH(n:Net)(o t:Int): Int:=t+(bI n o).2.2.2.2.1*(bI n o).2.2.2.2.2.1
def gA(n:Net)(o t:Int): Prop:=nH n o/\-1000000000<=t/\t<=1000000000
def uA(n:Net)(l t:Int): Int:=if ct t=true then iY (aC n (b7 n l)) (Ai n l) t else 0
def uN(n:Net)(l t:Int): Int:=if ct t=true then mB (aC n (b7 n l)) (Ai n l) t else 1
def isZero(e:Int): Bool:=decide (e=0)
def KR2: Kt:=kOr 160 Iw KR1
def aCl(n:Net)(nx:Lj): Ann:=⟨λb s=>match b with
 | 4=>some {α:=Int,inv:=λk=>pJ n nx k,st:=λk=>put s [(19,.dat I k)],μ:=λk=>Dc (Di (Df nx) k)}
 | 9=>match s.sig.T 19,s.sig.T 32 with
  | .dat (.int .i64) o,.dat (.sl (.int .i64)) row=>some {α:=Int,inv:=λk=>Hh n o row k,st:=λk=>put s [(34,.dat I k)],μ:=λk=>Dc (Di (Df row) k)}
  | _,_=>none
 | _=>none,λ_ _=>none,λ_ _=>none⟩
abbrev tr:=al [.val I,.val I] (λ_=>True) λ(i,l,_)=>.dat .bool (du i l)
abbrev ql:=al [.val I] (λ_=>True) λ(t,_)=>.dat .bool (ct t)
abbrev xq:=al [.ptr N] (λ_=>True) λ(n,_)=>.dat .bool (aR n)
abbrev xw:=al [.ptr N,.val I] (λ(n,o,_)=>nH n o) λ(n,o,_)=>cal (aC n o).1 (aC n o).2.1 (aC n o).2.2
abbrev xu:=al [.row C,.val I,.val I] (λ(c,m,t,_)=>Lr c m t) λ(c,m,t,_)=>.tup [.dat I (iY c m t),.dat I (mB c m t)]
abbrev xr:=al [.ptr N,.val I,.val I] (λ(n,o,t,_)=>gA n o t) λ(n,o,t,_)=>.dat I (aH n o t)
def KR3: Kt:=kOr 89 tr <|
 kOr 90 ql <|
 kOr 47 xq <|
 kOr 92 xw <|
 kOr 91 xu <|
 kOr 166 xr <|
 kOr 97 (al [.val I,.val I] (λ(_,e,_)=>True/\isZero e=true) λ(v,_,_)=>.dat I v) <|
 kOr 95 (al [.val .bool] (λ(b,_)=>True/\b=true) λ_=>.tup []) KR2
def Av: ai Tryz.prog G0 KR2:=af aD4 aIc
def gC(b:LC)(f g:LB)(e:Lo)(i:Ll)(j:Lk){o:Int}(h:nH (b,f,g,e,i,j) o): 0<=(bI (b,f,g,e,i,j) o).2.2.1/\(bI (b,f,g,e,i,j) o).2.2.1<b.length/\ay (aC (b,f,g,e,i,j) o).1 (aC (b,f,g,e,i,j) o).2.1 (aC (b,f,g,e,i,j) o).2.2=true/\1<=(bI (b,f,g,e,i,j) o).2.2.2.2.1/\(bI (b,f,g,e,i,j) o).2.2.2.2.1<=4/\1<=(bI (b,f,g,e,i,j) o).2.2.2.2.2.1/\(bI (b,f,g,e,i,j) o).2.2.2.2.2.1<=240:=by
 obtain⟨r,A,v⟩:=h;have v:o<e.length:=v;have x:bI (b,f,g,e,i,j) o∈e:=by
  show e.getD o.toNat _∈e;rw[qA,qB Z,qK];exact wL _
 have u:=(dE b f g e i j r).2.2.2 _ x;unfold cU du cL at u;simp only[qC,qE]at u;obtain⟨⟨⟨⟨⟨⟨_,g1⟩,_⟩,_⟩,_⟩,g2⟩,g3⟩:=u;have g1:0<=(bI (b,f,g,e,i,j) o).2.2.1/\(bI (b,f,g,e,i,j) o).2.2.1<(b.length:Int):=g1;have z:=((uH (by decide)).1 (jU b f g e i j r).2.1).2.2.2;have y:(aK b f).length=b.length:=by unfold aK;simp
 have:=z (bI (b,f,g,e,i,j) o).2.2.1.toNat Z;unfold bH at this;rw[gR (λc:Int×List Bool×Li=>ay c.1 c.2.1 c.2.2) b _ (0,[],[]) false Z]at this;exact⟨g1.1,g1.2,this,g2.1,g2.2,g3.1,g3.2⟩
def Bo(j:LC)(g f:LB)(e:Lo)(b:Ll)(i:Lk){l:Int}(h:T9 (j,g,f,e,b,i) l): 0<=b7 (j,g,f,e,b,i) l/\b7 (j,g,f,e,b,i) l<e.length/\0<=JD (j,g,f,e,b,i) l/\JD (j,g,f,e,b,i) l<e.length/\0<=Ai (j,g,f,e,b,i) l/\Ai (j,g,f,e,b,i) l<=1439/\1<=iW (j,g,f,e,b,i) l/\iW (j,g,f,e,b,i) l<=5000:=by
 obtain⟨r,A,u⟩:=h;have u:l<b.length:=u;have x:rS (j,g,f,e,b,i) l∈b:=by
  show b.getD l.toNat _∈b;rw[qA,qB Z,qK];exact wL _
 obtain⟨g1,g2,g3,g4,G,v,z,y⟩:=jX ((mQ j g f e b i r).2.2.2 _ x);exact⟨g1,g2,g3,g4,v.1,v.2,z,y⟩
def pR{w:List Bool}{h:Li}{d:Int}(e:dX w h d=0): d<=eQ w h d/\eQ w h d<d+60/\aW w h (eQ w h d)=true:=by
 unfold dX at e;unfold eQ;cases b:pS w h d with
 | none=>rw[b]at e;simp at e
 | some y=>
  have:y∈cC w h d 60:=qCj (by unfold pS at b;rw[b];rfl);exact H6 this
def U3{c:Int×List Bool×Li}{m t:Int}(e:Lr c m t): -1000<=d0F c m t/\d0F c m t<=100000:=by
 obtain⟨b,r,j,i,h⟩:=e;obtain⟨⟨g,f,_,_⟩,_⟩:=bM.1 b;unfold d0F bE;split<;>omega
def dd{d:Int}(e:-1000000<=d)(b:d<=1000000): bC d=true:=by
 unfold bC;exact qW ⟨e,b⟩
def RE: eO 89 tr:=ae λ((i:Int),(l:Int),_)=>by
 refine zE (A:=az) (p:=let b:=Ed i 0;(True->Q2 b ((Dh true b->b)/\Ea b (Dp i l) false=du i l/\True))) Av λ_=>⟨λh _=>h,λh _=>h,λh=>by simpa[Dh]using h,?_,trivial⟩
 unfold du;simp only[Ea,Ed,Dp,kM];by_cases h:0<=i<;>simp[h]
def O7: eO 90 ql:=ae λ((t:Int),_)=>by
 refine zE (A:=az) (p:=let b:=Ed t 0;(True->L4 b ((Dh true b->b)/\Ea b (Ee t 2000000) false=ct t/\True))) Av λ_=>⟨λh _=>h,λh=>by simpa[Dh]using h,?_,trivial⟩
 unfold ct;simp only[Ea,Ed,Ee,kM];by_cases h:0<=t<;>simp[h]
def RD(v e:Int): ah Tryz.prog G0 97 [.dat I v,.dat I e] [] ⟨True/\isZero e=true,.dat I v,[]⟩/\dt Tryz.prog G0 97 [.dat I v,.dat I e] [] ⟨True,isZero e,zx 39 e⟩:=by
 refine zC (c:=mkc KR2) (A:=az) (q:=⟨True,isZero e,zx 39 e⟩) Av iI hm sU (p:=let b:=Dw e 0;let f:=chainOf (Value.iface 39 (Value.int .i64 e));true/\(True->(b->(true->True/\(false=false->isZero e=false/\true/\f=f))/\True)/\(b=false->isZero e/\T3 v))) ⟨rfl,λ_=>⟨λh=>⟨λ_=>⟨trivial,λ_=>⟨?_,rfl,rfl⟩⟩,trivial⟩,λh=>⟨?_,rfl,trivial⟩⟩⟩
 .unfold isZero;simpa[Dw]using h
 .unfold isZero;simpa[Dw]using h
def Gx(b:Bool): ah Tryz.prog G0 95 [.dat .bool b] [] ⟨True/\b=true,.tup [],[]⟩/\dt Tryz.prog G0 95 [.dat .bool b] [] ⟨True,b,zx 39 1⟩:=by
 refine zC (c:=mkc KR2) (A:=az) (q:=⟨True,b,zx 39 1⟩) Av iI hm sU (p:=let e:=chainOf (Value.iface 39 (Value.int .i64 (1:Int)));true/\(True->(Dj b->(true->True/\(false=false->b=false/\true/\e=e))/\True)/\(Dj b=false->b/\True))) ⟨rfl,λ_=>⟨λh=>⟨λ_=>⟨trivial,λ_=>⟨?_,rfl,rfl⟩⟩,trivial⟩,λh=>⟨?_,trivial⟩⟩⟩
 .simpa[Dj]using h
 .simpa[Dj]using h
def aAF(e:Int): ah Tryz.prog G0 94 [.ifc 39 (.dat I e)] [] ⟨True,.dat I e,[]⟩:=
 zE (A:=az) (p:=(True->(true->T3 e)/\(true=false->1=e/\True))) Av λ_=>⟨λ_=>⟨rfl,trivial⟩,λh=>by cases h⟩
def AN{n:Net}: aR n=decide (((ew n).length:Int)=0):=by
 unfold aR;cases ew n with
 | nil=>rfl
 | cons a l=>simp;omega
def WM: eO 47 xq:=ae λ(((i,e,b,h,f,g):Net),_)=>zE (A:=az) (p:=let j:=(i,e,b,h,f,g);(True->True/\Ec (Df (ew j)) 0=aR j/\True)) Av λ_=>⟨trivial,by rw[AN];rfl,trivial⟩
def WQ: eO 92 xw:=ae λ(((e,h,g,b,i,j):Net),(o:Int),_)=>by
 refine zE (A:=az) (p:=let v:=(e,h,g,b,i,j);let f:=(Du b (Dc o) (ByteArray.mk #[],(0:Int),(0:Int),(0:Int),(0:Int),(0:Int),Dt ByteArray)).2.2.1;let r:=Du e (Dc f) ((0:Int),Dt Bool,Dt Int);let u:=aC v o;(nH v o->0<=o/\o<Df b/\0<=f/\f<Df e/\Q3 1 0 1 0 (r.1=u.1/\r.2.1=u.2.1/\r.2.2=u.2.2/\True))) Av λf=>?_
 obtain⟨g1,g2,_⟩:=gC e h g b i j f;exact⟨f.2.1,f.2.2,g1,g2,rfl,rfl,rfl,rfl,rfl,rfl,rfl,trivial⟩
def WO: eO 91 xu:=ae λ((c:C.den),(m:Int),(t:Int),_)=>by
 obtain⟨z,w,h⟩:=c
 refine zE (A:=az) (p:=let j:=(z,w,h);let r:=Dp m (JC z t);let b:=bE z t+1;let u:=dX w h b;let v:=Dw u 0;let e:=iY j m t;let f:=mB j m t;let L:=eQ w h b;let x:=dX w h (bE z t);let i:=Dw x 0;let g:=eQ w h (bE z t);(Lr j m t->dW z w h t/\(r->inR .i64 b/\gT z w h b/\(v->0=e/\u=f/\True)/\(v=false->iV z w h L m/\fx z L m=e/\0=f/\True))/\(r=false->gT z w h (bE z t)/\(i->0=e/\x=f/\True)/\(i=false->iV z w h g m/\fx z g m=e/\0=f/\True)))) Av λG=>?_
 obtain⟨b1,b2⟩:=U3 G;obtain⟨j,T,O,X,V⟩:=id G;refine Z9 ?_;have b:∀d,d=d0F (z,w,h) m t->gT z w h d/\(¬dX w h d=0->(0:Int)=iY (z,w,h) m t/\dX w h d=mB (z,w,h) m t)/\(dX w h d=0->iV z w h (eQ w h d) m/\fx z (eQ w h d) m=iY (z,w,h) m t/\(0:Int)=mB (z,w,h) m t):=by
  rintro d rfl;refine⟨⟨j,dd Z Z⟩,λf=>⟨(if_neg f).symm,rfl⟩,λf=>?_⟩;obtain⟨y,x,v⟩:=pR f;exact⟨⟨j,dd Z Z,T,O⟩,(if_pos f).symm,f.symm⟩
 refine⟨⟨j,Z,Z⟩,λr=>?_,λu=>?_⟩
 .have e:bE z t+1=d0F (z,w,h) m t:=(if_pos r).symm;obtain⟨y,x,v⟩:=b _ e;exact⟨by unfold inR;simp only;omega,y,x,v⟩
 .have e:bE z t=d0F (z,w,h) m t:=(if_neg u).symm;exact b _ e
def WN: eO 166 xr:=ae λ(((j,g,f,b,h,i):Net),(o:Int),(t:Int),_)=>by
 refine zE (A:=az) (p:=let e:=(j,g,f,b,h,i);let r:=(Du b (Dc o) (ByteArray.mk #[],(0:Int),(0:Int),(0:Int),(0:Int),(0:Int),Dt ByteArray)).2.2.2.2;let u:=r.1*r.2.1;let v:=t+u;(gA e o t->0<=o/\o<Df b/\0<=o/\o<Df b/\inR .i64 u/\inR .i64 v/\v=aH e o t/\True)) Av λz=>?_
 obtain⟨r,T,O⟩:=z;obtain⟨_,_,_,g1,g2,g3,g4⟩:=gC j g f b h i r;obtain⟨x,v⟩:∃x,x=(bI (j,g,f,b,h,i) o).2.2.2.2.1:=⟨_,rfl⟩;obtain⟨y,u⟩:∃y,y=(bI (j,g,f,b,h,i) o).2.2.2.2.2.1:=⟨_,rfl⟩;rw[<- v]at g1 g2;rw[<- u]at g3 g4;have L:0<=x*y:=qAi Z Z;have G:x*y<=4*240:=kL g2 g4 Z Z;have e:aH (j,g,f,b,h,i) o t=t+x*y:=by rw[v,u];rfl
 refine⟨r.2.1,r.2.2,r.2.1,r.2.2,?_,?_,rfl,trivial⟩
 .show inR .i64 ((bI (j,g,f,b,h,i) o).2.2.2.2.1*(bI (j,g,f,b,h,i) o).2.2.2.2.2.1);rw[<- v,<- u];unfold inR;simp only;omega
 .show inR .i64 (t+(bI (j,g,f,b,h,i) o).2.2.2.2.1*(bI (j,g,f,b,h,i) o).2.2.2.2.2.1);rw[<- v,<- u];unfold inR;simp only;omega
def aGe: ai Tryz.prog G0 KR3:=af RE<|af O7<|af WM<|af WQ<|af WO<|af WN<|af (ae λ(v,e,_)=>(RD v e).1)<|af (ae λ(b,_)=>(Gx b).1) Av
def oK{n:Net}{nx:Lj}(b:(nx.length:Int)=n.2.2.2.1.length): mf n nx=true↔∀i:Nat,(i:Int)<nx.length->rowOk n i (nx.getD i [])=true:=by
 unfold mf;simp only[qC,qE,qO,qZ];exact⟨λh i e=>h.2 i Z,λh=>⟨b,λi e=>h i Z⟩⟩
def pK{n:Net}{o:Int}{b:Li}(g:(b.length:Int)=n.2.2.2.1.length): rowOk n o b=true↔∀i:Nat,(i:Int)<b.length->bq n o (b.getD i 0)=true:=by
 unfold rowOk;simp only[qC,qE,qO];refine⟨λh i e=>h.2 _ ?_,λh=>⟨g,λx f=>?_⟩⟩
 .rw[qA,qB Z,qK];exact wL _
 .obtain⟨i,e,rfl⟩:=wZ.1 f;have:=h i Z;rw[qA,qB e,qK]at this;exact this
def Y3(n:Net)(o l:Int): Ea (Dw l (-1)) (Ea (Dj (du l (Df n.2.2.2.2.1))) true (Dw (b7 n l) o)) false=!bq n o l:=by
 unfold bq;simp only[Ea,Dw,Dj,Df];by_cases h:l=-1
 .simp[h]
 .have e:(l != -1)=true:=by simpa using h
  rw[e];cases hi:du l n.2.2.2.2.1.length
  .simp[h]
  .by_cases b:b7 n l=o<;>simp[h,b]
abbrev tt:=al [.ptr N,.val M] (λ(_,nx,_)=>dw nx) λ(n,nx,_)=>.dat .bool (mf n nx)
def RF: eO 48 tt:=ae λ(((X,T,O,L,f,V):Net),(nx:Lj),_)=>by
 refine zE (A:=(lvA [(4,[0,4,5,6,8,17,18,19,32,33,34]),(9,[0,4,5,6,8,17,18,19,32,33,34])] (aCl (X,T,O,L,f,V) nx))) (p:=let j:=Df L;let A:=Dw (Df nx) j;let g:=(X,T,O,L,f,V);let i:=mf g nx;let G:=Df f;(dw nx->(A->false=i/\True)/\(A=false->(∃x,pJ g nx x/\L7 g nx (Df nx) (0=x/\True))/\∀(x:Int),let c6:=Dp x (Df nx);let h:=Du nx (Dc x) [];let z:=Df h;let c9:=Dw z j;let c10:=x+1;pJ g nx x->(c6->0<=x/\x<Df nx/\(c9->false=i/\True)/\(c9=false->(∃b,Hh g x h b/\T5 g x h nx (Df nx) x h z (0=b/\True))/\∀(b:Int),let u:=Du h (Dc b) 0;let e:=Dw u (-1);let c13:=Dj (du u G);let r:=Dj c13;let v:=Dh e r;let c14:=Ea e (Ea c13 true (Dw (Du f (Dc u) (ByteArray.mk #[],(0:Int),(0:Int),(0:Int),(0:Int),(0:Int))).2.1 x)) false;let c15:=b+1;Hh g x h b->(Dp b z->0<=b/\b<z/\Q4 e (Q4 e ((e->True)/\Q2 e (Q2 v (Q4 v ((Dh e r->0<=u)/\(Dh e r->u<G)/\L4 v (Q4 v (L4 e ((e->Dh e r->Dh e r)/\(Dh true e->e)/\(c14->false=i/\True)/\(c14=false->inR .i64 c15/\∃y,Hh g x h y/\(T5 g x h nx (Df nx) x h z (c15=y/\True))/\Dc (z-y)<Dc (z-b)))))))))))/\(Dp b z=false->inR .i64 c10/\∃y,pJ g nx y/\(L7 g nx (Df nx) (c10=y/\True))/\Dc (Df nx-y)<Dc (Df nx-x))))/\(c6=false->true=i/\True)))) aGe λhf=>?_
 have ec:∀l x:Int,Ea (Dw l (-1)) (Ea (Dj (du l (Df f))) true (Dw (Du f (Dc l) (ByteArray.mk (Dt UInt8).toArray,(0:Int),(0:Int),(0:Int),(0:Int),(0:Int))).snd.fst x)) false=!bq (X,T,O,L,f,V) x l:=λl x=>Y3 (X,T,O,L,f,V) x l
 simp only[ec];refine Z9 ?_;obtain⟨hf1,hf2⟩:=hf;have hz:∀x l:Int,¬l=-1/\du l f.length=true->0<=l/\l<f.length:=λx l h=>by
  have:=h.2;unfold du at this;simpa using this
 have hr:∀x:Int,0<=x->x<nx.length->(nx.getD x.toNat []).length<=1000000:=λx h0 h1=>hf2 _ (by
  rw[qA,qB Z,qK];exact wL _)
 have hct:∀x:Int,0<=x->((x.toNat:Nat):Int)=x:=λx h=>Z
 refine⟨λhne=>?_,λhe=>⟨⟨qH _,Z,he,λi h=>Z⟩,λx g=>⟨λhlt=>⟨g.1,hlt,λe=>?_,λe=>⟨⟨qH _,Z,e,λi h=>Z⟩,λy G=>⟨λhlty=>⟨G.1,hlty,λh=>(hz x _ h).1,λh=>(hz x _ h).2,λhc=>?_,λhc=>?_⟩,λhgey=>?_⟩⟩⟩,λhge=>?_⟩⟩⟩
 .unfold mf;rw[vC hne];rfl
 .refine(kC.2 λht=>e ?_).symm;have h:=(oK he).1 ht x.toNat (by have:=g.1;omega);unfold rowOk at h;simp only[qC,qE]at h;exact h.1
 .refine(kC.2 λht=>?_).symm;have h:=(oK he).1 ht x.toNat (by have:=g.1;omega);rw[hct x g.1]at h;have h2:=(pK (n:=(X,T,O,L,f,V)) e).1 h y.toNat (by have:=G.1;omega);rw[h2]at hc;cases hc
 .have h1:=hr x g.1 hlt;refine⟨by unfold inR;simp only;have:=G.1;omega,y+1,⟨by have:=G.1;omega,Z,e,λi hi=>?_⟩,rfl,by have:=G.1;omega⟩;by_cases h:(i:Int)<y
  .exact G.2.2.2 i h
  .have:i=y.toNat:=by omega
   rw[this];exact hc
 .refine⟨by unfold inR;simp only;have:=g.1;omega,x+1,⟨by have:=g.1;omega,Z,he,λi hi=>?_⟩,rfl,by have:=g.1;omega⟩;by_cases h:(i:Int)<x
  .exact g.2.2.2 i h
  .have:i=x.toNat:=by have:=g.1;omega
   rw[this,hct x g.1];exact(pK (n:=(X,T,O,L,f,V)) e).2 λj hj=>G.2.2.2 j Z
 .exact((oK he).2 λi hi=>g.2.2.2 i Z).symm
abbrev tu:=al [.ptr N,.val I,.val I] (λ(n,l,_)=>T9 n l) λ(n,l,t,_)=>.tup [.dat I (uA n l t),.dat I (uN n l t)]
def RG: eO 165 tu:=ae λ(((j,f,e,i,b,g):Net),(l:Int),(t:Int),_)=>by
 refine zE (A:=az) (p:=let h:=(j,f,e,i,b,g);let v:=uA h l t;let x:=uN h l t;let r:=(Du b (Dc l) (ByteArray.mk #[],(0:Int),(0:Int),(0:Int),(0:Int),(0:Int))).2;let u:=(aC h r.1);(T9 h l->True/\(Dj (ct t)->0=v/\1=x/\True)/\(Dj (ct t)=false->0<=l/\l<Df b/\nH h r.1/\0<=l/\l<Df b/\Lr u r.2.2.1 t/\iY u r.2.2.1 t=v/\mB u r.2.2.1 t=x/\True))) aGe λr=>?_
 refine Z9 ?_;refine⟨λh=>?_,λh=>?_⟩
 .unfold uA uN;rw[h];exact⟨rfl,rfl⟩
 .obtain⟨g1,g2,g3,g4,z,X,V,T⟩:=Bo j f e i b g r;have v:nH (j,f,e,i,b,g) (b7 (j,f,e,i,b,g) l):=⟨r.1,g1,g2⟩;have x:=(gC j f e i b g v).2.2.1;have O:0<=t/\t<=2000000:=vN h;have y:Lr (aC (j,f,e,i,b,g) (b7 (j,f,e,i,b,g) l)) (Ai (j,f,e,i,b,g) l) t:=⟨x,z,Z,Z,Z⟩;have L:uA (j,f,e,i,b,g) l t=iY (aC (j,f,e,i,b,g) (b7 (j,f,e,i,b,g) l)) (Ai (j,f,e,i,b,g) l) t:=if_pos h
  have G:uN (j,f,e,i,b,g) l t=mB (aC (j,f,e,i,b,g) (b7 (j,f,e,i,b,g) l)) (Ai (j,f,e,i,b,g) l) t:=if_pos h;exact⟨r.2.1,r.2.2,v,r.2.1,r.2.2,y,L.symm,G.symm⟩
def nxt(nx:Lj)(o d:Int): Int:=(nx.getD o.toNat []).getD d.toNat 0
def lH(n:Net)(nx:Lj)(to:Int): Nat->Int->Int->List Stop×Int
 | 0,o,t=>if o=to then([(o,t,-1,-1)],0)else if nxt nx o to=-1 then([],170)else if uN n (nxt nx o to) (aH n o t)=0 then([],170)else([],uN n (nxt nx o to) (aH n o t))
 | k+1,o,t=>if o=to then([(o,t,-1,-1)],0)else if nxt nx o to=-1 then([],170)else if uN n (nxt nx o to) (aH n o t)=0 then
   if(lH n nx to k (JD n (nxt nx o to)) (uA n (nxt nx o to) (aH n o t)+iW n (nxt nx o to))).2=0 then
    ((o,t,uA n (nxt nx o to) (aH n o t),nxt nx o to)::(lH n nx to k (JD n (nxt nx o to)) (uA n (nxt nx o to) (aH n o t)+iW n (nxt nx o to))).1,0)
   else([],(lH n nx to k (JD n (nxt nx o to)) (uA n (nxt nx o to) (aH n o t)+iW n (nxt nx o to))).2)
  else([],uN n (nxt nx o to) (aH n o t))
def mD(n:Net)(nx:Lj)(o to t:Int): List Stop:=(lH n nx to 19 o t).1
def iS(n:Net)(nx:Lj)(o to t:Int): Int:=(lH n nx to 19 o t).2
def Jw(n:Net)(nx:Lj)(o to t:Int): Prop:=aR n=true/\mf n nx=true/\0<=o/\o<n.2.2.2.1.length/\0<=to/\to<n.2.2.2.1.length/\0<=t/\t<=2200000
def A7(d:List Stop)(r:List Stop×Int): List Stop×Int:=if r.2=0 then(d++r.1,0)else([],r.2)
def QR(n:Net)(nx:Lj)(e to b:Int)(x:List Stop×Int×Int): Prop:=Jw n nx x.2.1 to x.2.2/\x.1.length<=19/\lH n nx to 19 e b=A7 x.1 (lH n nx to (19-x.1.length) x.2.1 x.2.2)
def wSt(x:List Stop×Int×Int): List Stop:=x.1++[(x.2.1,x.2.2,-1,-1)]
def aGm(n:Net)(nx:Lj)(f to e:Int): Ann:=⟨λg s=>match g with
 | 3=>match s.sig.T 19 with
  | .buf b _=>some {α:=List Stop×Int×Int,inv:=λx=>QR n nx f to e x,st:=λx=>fu (put (flat s) [(11,.buf b (Dk (wSt x))),(12,.dat I (Df x.1))]) b (.buf 81 Stp (wSt x) []),μ:=λx=>Dc (Di 20 (Df x.1))}
  | _=>none
 | _=>none,λ_ _=>none,λ_ _=>none⟩
def KR4: Kt:=kOr 48 tt <|
 kOr 165 tu KR3
def KPm: KPt:=pOr 97 (Ao [.val I,.val I] λ(_,e,_)=>⟨True,isZero e,zx 39 e⟩) Go.Eng.noP
noncomputable def mkp(K:Kt)(e:Tmp->Bool)(f:KPt)(b:FuncId->Bool): Cfg:=⟨Tryz.prog,G0,K,e,KI0,false,f,b⟩
def cW: Cfg:=mkp KR4 (λt=>t==19) KPm (λf=>f==97)
def aI0: ai Tryz.prog G0 KR4:=af RF<|af RG aGe
def oT: bJ Tryz.prog G0 KPm:=jt (kg λ(v,e,_)=>(RD v e).2) sU
def aGp(d:List Stop)(o t:Int)(z:Stop): (wSt (d,o,t)).getD d.length z=(o,t,-1,-1):=by simp[wSt,qA]
def aGo(d:List Stop)(o t:Int)(v:Stop): (wSt (d,o,t)).set d.length v=d++[v]:=by simp[wSt]
def aH3(d:List Stop)(v z:Stop): (d++[v]).getD d.length z=v:=by simp[qA]
def aH2(d:List Stop)(v w:Stop): (d++[v]).set d.length w=d++[w]:=by simp
def aDi(d:List Stop)(o t:Int): (wSt (d,o,t)).length=d.length+1:=by simp[wSt]
def dR{e:Int}: isZero e=true↔e=0:=by simp[isZero]
def gi{e:Int}: isZero e=false↔e≠0:=by simp[isZero]
def aS(j:LC)(e b:LB)(i:Lo)(f:Ll)(g:Lk)(h:aR (j,e,b,i,f,g)=true): noF (j,e,b,i,f,g)=true:=((CX j e b i f g).1 (wY.1 h)).1
def lS{c:Int×List Bool×Li}{m t:Int}(r:ay c.1 c.2.1 c.2.2=true)(v:mB c m t=0)(A:0<=m)(y:m<=1439): t<=iY c m t/\iY c m t<=t+90000:=by
 obtain⟨z,w,h⟩:=c;obtain⟨⟨j,i,_,_⟩,_⟩:=bM.1 r;have b:dX w h (d0F (z,w,h) m t)=0:=v;obtain⟨g,f,_⟩:=pR b;have e:iY (z,w,h) m t=fx z (eQ w h (d0F (z,w,h) m t)) m:=if_pos b;rw[e];unfold fx;generalize eQ w h (d0F (z,w,h) m t)=x at *;have hd:d0F (z,w,h) m t=if m<(t+z)%1440 then(t+z)/1440+1 else(t+z)/1440:=rfl
 rw[hd]at g f;simp only at j i;split at g<;>rename_i u<;>simp only[u,kR,xO]at f<;>omega
def sg(j:LC)(e b:LB)(i:Lo)(f:Ll)(g:Lk){l t:Int}(x:T9 (j,e,b,i,f,g) l)(r:uN (j,e,b,i,f,g) l t=0): 0<=t/\t<=2000000/\t<=uA (j,e,b,i,f,g) l t/\uA (j,e,b,i,f,g) l t<=t+90000:=by
 obtain⟨g1,g2,g3,g4,G,A,V,T⟩:=Bo j e b i f g x;have z:nH (j,e,b,i,f,g) (b7 (j,e,b,i,f,g) l):=⟨x.1,g1,g2⟩;have y:=(gC j e b i f g z).2.2.1;have u:ct t=true:=by
  cases h:ct t with
  | true=>rfl
  | false=>unfold uN at r;rw[h]at r;cases r
 have v:0<=t/\t<=2000000:=vN u;have O:uA (j,e,b,i,f,g) l t=iY (aC (j,e,b,i,f,g) (b7 (j,e,b,i,f,g) l)) (Ai (j,e,b,i,f,g) l) t:=if_pos u;have L:uN (j,e,b,i,f,g) l t=mB (aC (j,e,b,i,f,g) (b7 (j,e,b,i,f,g) l)) (Ai (j,e,b,i,f,g) l) t:=if_pos u;rw[L]at r;rw[O];exact⟨v.1,v.2,lS y r G A⟩
def Gq{n:Net}{nx:Lj}{to o t:Int}(k:Nat)(h:o=to): lH n nx to k o t=([(o,t,-1,-1)],0):=by cases k<;>exact if_pos h
def mC{n:Net}{nx:Lj}{to o t:Int}(k:Nat)(h:o≠to)(b:nxt nx o to=-1): lH n nx to k o t=([],170):=by cases k<;>(unfold lH;rw[if_neg h,if_pos b])
def ru{n:Net}{nx:Lj}{to o t:Int}(k:Nat)(h:o≠to)(e:nxt nx o to≠-1)(b:uN n (nxt nx o to) (aH n o t)≠0): lH n nx to k o t=([],uN n (nxt nx o to) (aH n o t)):=by cases k<;>(unfold lH;rw[if_neg h,if_neg e,if_neg b])
def pu{n:Net}{nx:Lj}{to o t:Int}(h:o≠to)(e:nxt nx o to≠-1)(b:uN n (nxt nx o to) (aH n o t)=0): lH n nx to 0 o t=([],170):=by unfold lH;rw[if_neg h,if_neg e,if_pos b]
def pq{n:Net}{nx:Lj}{to o t:Int}(k:Nat)(h:o≠to)(e:nxt nx o to≠-1)(b:uN n (nxt nx o to) (aH n o t)=0):
  lH n nx to (k+1) o t=A7 [(o,t,uA n (nxt nx o to) (aH n o t),nxt nx o to)] (lH n nx to k (JD n (nxt nx o to)) (uA n (nxt nx o to) (aH n o t)+iW n (nxt nx o to))):=by
 rw[lH,if_neg h,if_neg e,if_pos b];rfl
def MY{d:List Stop}{r:List Stop×Int}(h:r.2≠0): (A7 d r).2=r.2:=by unfold A7;rw[if_neg h]
def Kp{d:List Stop}{r:List Stop×Int}(h:r.2=0): A7 d r=(d++r.1,0):=by unfold A7;rw[if_pos h]
def uD(d e:List Stop)(r:List Stop×Int): A7 d (A7 e r)=A7 (d++e) r:=by
 unfold A7;by_cases h:r.2=0
 .simp[h]
 .simp[h]
def D9{n:Net}{nx:Lj}{to:Int}: ∀(k:Nat) (o t:Int),A7 [] (lH n nx to k o t)=lH n nx to k o t:=λk o t=>by
 by_cases h:o=to
 .rw[Gq k h];rfl
 .by_cases e:nxt nx o to=-1
  .rw[mC k h e];rfl
  .by_cases b:uN n (nxt nx o to) (aH n o t)=0
   .cases k with
    | zero=>rw[pu h e b];rfl
    | succ k=>rw[pq k h e b,uD];rfl
   .rw[ru k h e b];unfold A7;rw[if_neg b]
def dY(u:LC)(i g:LB)(b:Lo)(f:Ll)(j:Lk){nx:Lj}(r:mf (u,i,g,b,f,j) nx=true){o d:Int}(G:0<=o)(A:o<b.length)(O:0<=d)(L:d<b.length): (nx.length:Int)=b.length/\((nx.getD o.toNat []).length:Int)=b.length/\(nxt nx o d≠-1->(0<=nxt nx o d/\nxt nx o d<f.length)/\b7 (u,i,g,b,f,j) (nxt nx o d)=o):=by
 have y:(nx.length:Int)=b.length:=by
  unfold mf at r;simp only[qC,qE]at r;exact r.1
 have h:=(oK (n:=(u,i,g,b,f,j)) y).1 r o.toNat Z;have x:((nx.getD o.toNat []).length:Int)=b.length:=by
  unfold rowOk at h;simp only[qC,qE]at h;exact h.1
 refine⟨y,x,λv=>?_⟩;have e:=(pK (n:=(u,i,g,b,f,j)) x).1 h d.toNat Z;unfold bq du at e;simp only[yF,qC,qE]at e;rcases e with e | ⟨e,z⟩
 .exact absurd e v
 .exact⟨e,z.trans Z⟩
def aB{x:Int}(h:-1000000000000<=x/\x<=1000000000000): inR .i64 x:=by unfold inR;simp only;omega
def RA(nx:Lj)(o to t:Int)(j:LC)(f e:LB)(i:Lo)(b:Ll)(g:Lk): ah Tryz.prog G0 102 [.ip N (j,f,e,i,b,g),.dat M nx,.dat I o,.dat I to,.dat I t] [] ⟨Jw (j,f,e,i,b,g) nx o to t/\isZero (iS (j,f,e,i,b,g) nx o to t)=true,.dat (.sl Stp) (mD (j,f,e,i,b,g) nx o to t),[]⟩/\dt Tryz.prog G0 102 [.ip N (j,f,e,i,b,g),.dat M nx,.dat I o,.dat I to,.dat I t] [] ⟨Jw (j,f,e,i,b,g) nx o to t,isZero (iS (j,f,e,i,b,g) nx o to t),zx 39 (iS (j,f,e,i,b,g) nx o to t)⟩:=by
 refine zC (c:=cW) (A:=(aGm (j,f,e,i,b,g) nx o to t)) (q:=⟨Jw (j,f,e,i,b,g) nx o to t,isZero (iS (j,f,e,i,b,g) nx o to t),zx 39 (iS (j,f,e,i,b,g) nx o to t)⟩) aI0 iI hm oT (p:=let h:=(j,f,e,i,b,g);let V:=((-1:Int),(-1:Int));let G:=((0:Int),(0:Int),(0:Int),(0:Int));let X:=iS h nx o to t;let O:=isZero X;let T:=chainOf (Value.iface 39 (Value.int .i64 X));let c7:=(ByteArray.mk #[],(0:Int),G);true/\(Jw h nx o to t->(∃(x:List Stop×Int×Int),QR h nx o to t x/\T6 h nx o to t Z0 (1=Dk (wSt x)/\0=Df x.1/\T4 o t o t (-1:Int) (-1:Int) 1 ([(o,t,V)]=wSt x/\True)))/\∀(x:List (Int×Int×Int×Int)×Int×Int),let r:=Dk (wSt x);let v:=Df x.1;let c10:=Dc v;let c11:=Du (wSt x) c10 G;let A:=c11.1;let c13:=Dw A to;let c14:=Du nx (Dc A) [];let u:=Du c14 (Dc to) 0;let c16:=Ec u (-1);let c17:=c11.2;let z:=Em (wSt x) c10 (A,c17.1,c17.2.1,u);let c19:=Du z c10 G;let c20:=c19.1;let c21:=c19.2;let c22:=c21.1;let c23:=aH h c20 c22;let c24:=uN h u c23;let c25:=isZero c24;let L:=Em z c10 (c20,c22,uA h u c23,c21.2.2);let c27:=Ec (Int.ofNat r) 20;let c28:=(Du b (Dc u) c7).2.2;let c29:=(Du L c10 G).2.2.1+c28.2.2.1;let c30:=[(c28.1,c29,V)];let c31:=r+Dk c30;let c32:=v+1;
  QR h nx o to t x->r=r/\0<=v/\v<Dz r/\L5 r r ((c13->r=r/\0<=v/\v<Dz r/\L7 r r r (0<=A/\A<Df nx/\0<=to/\to<Df c14/\(c16->(true->True/\(false=false->O=false/\true/\chainOf (Value.iface 39 (Value.int .i64 (170:Int)))=T))/\True)/\(c16=false->L7 r r r (Dk z=r/\Dk z=r/\Dk z=r/\Dk z=r/\Dk z=r/\Dk z=r/\gA h c20 c22/\T9 h u/\True/\(c25->Dk z=r/\Dk z=r/\Dk z=r/\Dk z=r/\Dk z=r/\Dk z=r/\gA h c20 c22/\T9 h u/\(True/\c25)/\Dk z=r/\Dk z=r/\Dk z=r/\Dk L=r/\(c27->(true->True/\(false=false->O=false/\true/\chainOf (Value.iface 39 (Value.int .i64 (170:Int)))=T))/\True)/\(c27=false->0<=u/\u<Df b/\T2 1 0 1 1 0 (Dk L=r/\Dk L=r/\Dk L=r/\L7 1 1 0 (inR .i64 c29/\Dk L=r/\(c31*32)<=140737488355328/\c31<=9223372036854775807/\inR .i64 c32/\∃(y:List Stop×Int×Int),let c33:=Df y.1;QR h nx o to t y/\(T6 h nx o to t Z0 (c31=Dk (wSt y)/\c32=c33/\T4 o t o t (-1:Int) (-1:Int) 1 (Ef L c30=wSt y/\True)))/\Dc (20-c33)<Dc (20-v)))))/\(c25=false->O=false/\true/\chainOf (Value.iface 39 (Value.int .i64 c24))=T)))))/\(c13=false->O/\r=r/\wSt x=mD h nx o to t/\True)))) ⟨rfl,λhp=>?_⟩
 refine Z9 ?_;refine⟨?_,?_⟩
 .exact⟨([],o,t),⟨hp,by simp,(D9 19 o t).symm⟩,rfl,rfl,rfl⟩
 rintro⟨d,u,v⟩ hx;simp only[aGp,aGo,aH3,aH2,aDi,qF,qV,yB];obtain⟨⟨hs,ht,u0,u1,o0,o1,v0,v1⟩,hd,hw⟩:=hx;simp only at u0 u1 o0 o1 v0 v1 hd hw;have hno:=aS j f e i b g hs;obtain⟨c1,c2,c3⟩:=dY j f e i b g ht u0 u1 o0 o1;have ec:(nx.getD u.toNat []).getD to.toNat 0=nxt nx u to:=rfl;rw[ec];generalize G:nxt nx u to=X at *;have hoff:nH (j,f,e,i,b,g) u:=⟨hno,u0,u1⟩
 have hW:iS (j,f,e,i,b,g) nx o to t=(A7 d (lH (j,f,e,i,b,g) nx to (19-d.length) u v)).2:=by unfold iS;rw[hw]
 have hL:mD (j,f,e,i,b,g) nx o to t=(A7 d (lH (j,f,e,i,b,g) nx to (19-d.length) u v)).1:=by unfold mD;rw[hw]
 have O:u≠to->lH (j,f,e,i,b,g) nx to (19-d.length) u v=([],170)->isZero (iS (j,f,e,i,b,g) nx o to t)=false/\chainOf (Value.iface 39 (Value.int .i64 170))=chainOf (zx 39 (iS (j,f,e,i,b,g) nx o to t)):=λ_ h=>by
  have:iS (j,f,e,i,b,g) nx o to t=170:=by rw[hW,h];rfl
  rw[this];exact⟨rfl,rfl⟩
 refine⟨Z,Z,λV=>⟨Z,Z,u0,by rw[c1];exact u1,o0,by rw[c2];exact o1,λhm=>O V (mC _ V (G.trans hm)),λhm=>?_⟩,λhe=>?_⟩
 .have hm':nxt nx u to≠-1:=by rw[G];exact hm
  obtain⟨⟨l0,l1⟩,lf⟩:=c3 hm;have T:T9 (j,f,e,i,b,g) X:=⟨hno,l0,l1⟩;have hr:gA (j,f,e,i,b,g) u v:=⟨hoff,Z,Z⟩;refine⟨hr,T,λhz=>⟨hr,T,hz,λh20=>O V ?_,λh20=>?_⟩,λhz=>?_⟩
  .rw[show 19-d.length=0 by omega];exact pu V hm' (by rw[G];exact dR.1 hz)
  .have hz0:=dR.1 hz;obtain⟨b1,b2,b3,b4⟩:=sg j f e i b g T hz0;obtain⟨g1,g2,g3,g4,g5,g6,g7,g8⟩:=Bo j f e i b g T;have et:(b.getD X.toNat (⟨#[]⟩,0,0,0,0,0)).2.2.2.2.1=iW (j,f,e,i,b,g) X:=rfl;have eo:(b.getD X.toNat (⟨#[]⟩,0,0,0,0,0)).2.2.1=JD (j,f,e,i,b,g) X:=rfl;rw[et,eo];have hnx:=pq (n:=(j,f,e,i,b,g)) (nx:=nx) (to:=to) (o:=u) (t:=v) (19-(d.length+1)) V hm' (by rw[G];exact hz0)
   rw[show 19-(d.length+1)+1=19-d.length by omega,G]at hnx;refine⟨l0,l1,aB Z,Z,Z,aB Z,(d++[(u,v,uA (j,f,e,i,b,g) X (aH (j,f,e,i,b,g) u v),X)],JD (j,f,e,i,b,g) X,uA (j,f,e,i,b,g) X (aH (j,f,e,i,b,g) u v)+iW (j,f,e,i,b,g) X),⟨⟨hs,ht,g3,g4,o0,o1,by simp only;omega,by simp only;omega⟩,by simp;omega,?_⟩,⟨by rw[aDi];simp,by simp,rfl⟩,by simp;omega⟩;show lH (j,f,e,i,b,g) nx to 19 o t=_
   rw[hw,hnx,uD];simp
  .have hz0:=gi.1 hz;have:=ru (n:=(j,f,e,i,b,g)) (nx:=nx) (to:=to) (o:=u) (t:=v) (19-d.length) V hm' (by rw[G];exact hz0);rw[G]at this;have:iS (j,f,e,i,b,g) nx o to t=uN (j,f,e,i,b,g) X (aH (j,f,e,i,b,g) u v):=by rw[hW,this];exact MY hz0
   rw[this];exact⟨hz,rfl⟩
 .have:=Gq (n:=(j,f,e,i,b,g)) (nx:=nx) (to:=to) (o:=u) (t:=v) (19-d.length) he;rw[hW,hL,this];exact⟨rfl,rfl⟩
noncomputable def Qw(args:List AV)(m:Mem): Option jG:=match args,m with
 | [.ifc t (.dat (.int .i64) e)],[]=>if t=39 then some ⟨True,.dat I e,[]⟩else none
 | _,_=>none
noncomputable def KR5: Kt:=kOr 94 Qw <|
 kOr 102 (al [.ptr N,.val M,.val I,.val I,.val I] (λ(n,nx,o,b,t,_)=>Jw n nx o b t/\isZero (iS n nx o b t)=true) λ(n,nx,o,b,t,_)=>.dat (.sl Stp) (mD n nx o b t)) KR4
noncomputable def KPw: KPt:=pOr 102 (Ao [.ptr N,.val M,.val I,.val I,.val I] λ(n,nx,o,e,t,_)=>⟨Jw n nx o e t,isZero (iS n nx o e t),zx 39 (iS n nx o e t)⟩) <|
 pOr 95 (Ao [.val .bool] λ(b,_)=>⟨True,b,zx 39 1⟩) KPm
def YS: ∀args m c,Qw args m=some c->ah Tryz.prog G0 94 args m c:=by
 intro args m c h;unfold Qw at h;split at h
 .split at h
  .rename_i e;subst e;cases h;exact aAF _
  .cases h
 .cases h
def aIZ: ai Tryz.prog G0 KR5:=af YS<|af (ae λ((j,f,e,i,g,h),nx,o,b,t,_)=>(RA nx o b t j f e i g h).1) aI0
def oF: bJ Tryz.prog G0 KPw:=jt (kg λ((r,g,f,j,h,i),nx,o,e,t,_)=>(RA nx o e t r g f j h i).2)<|jt (kg λ(b,_)=>(Gx b).2) oT
def uI{i l:Int}: du i l=true↔0<=i/\i<l:=by unfold du;simp
def aH1(w:List Bool)(h:Li): Nat->Int->Option Int
 | 0,d=>some d
 | n+1,d=>(pS w h (d+1)).bind (aH1 w h n)
def bF(n:Net)(k:Int): Cla:=n.2.2.2.2.2.getD k.toNat (⟨#[]⟩,0,0)
def F8(n:Net)(k:Int): Prop:=0<=k/\k<n.2.2.2.2.2.length
def Z6(n:Net)(k o t:Int): Int:=iY (aC n o) (bF n k).2.2 (aH n o t)
def aEZ(n:Net)(k o t:Int): Int:=mB (aC n o) (bF n k).2.2 (aH n o t)
def F2(n:Net)(k o t:Int): Bool:=((du k n.2.2.2.2.2.length&&du o n.2.2.2.1.length)&&ct t)&&aR n
def aCY(n:Net)(k o t:Int): Int:=if F2 n k o t=true then Z6 n k o t else 0
def sI(n:Net)(k o t:Int): Int:=if F2 n k o t=true then aEZ n k o t else 1
def X1(j:LC)(f e:LB)(i:Lo)(g:Ll)(b:Lk)(h:noF (j,f,e,i,g,b)=true): ∀x∈b,kp x=true:=
 ((lR (by decide) (λl:Cla=>l.1) kp b).1 (jU j f e i g b h).2.2.2.2.2).2.2.2
def oG(j:LC)(f e:LB)(i:Lo)(g:Ll)(b:Lk){k:Int}(h:noF (j,f,e,i,g,b)=true)(u:F8 (j,f,e,i,g,b) k): (0<=(bF (j,f,e,i,g,b) k).2.1/\(bF (j,f,e,i,g,b) k).2.1<=1439)/\0<=(bF (j,f,e,i,g,b) k).2.2/\(bF (j,f,e,i,g,b) k).2.2<=1439:=by
 obtain⟨v,r⟩:=u;have r:k<(b.length:Int):=r;have hm:bF (j,f,e,i,g,b) k∈b:=by
  show b.getD k.toNat _∈b;rw[qA,qB Z,qK];exact wL _
 have:=X1 j f e i g b h _ hm;unfold kp cL at this;simp only[qC,qE]at this;omega
def mN(j:LC)(e b:LB)(i:Lo)(f:Ll)(g:Lk){o t:Int}(h:nH (j,e,b,i,f,g) o): t+1<=aH (j,e,b,i,f,g) o t/\aH (j,e,b,i,f,g) o t<=t+960:=by
 obtain⟨_,_,_,g1,g2,g3,g4⟩:=gC j e b i f g h;unfold aH;have u:1*1<=(bI (j,e,b,i,f,g) o).2.2.2.2.1*(bI (j,e,b,i,f,g) o).2.2.2.2.2.1:=kL g1 g3 (by decide) Z;have r:(bI (j,e,b,i,f,g) o).2.2.2.2.1*(bI (j,e,b,i,f,g) o).2.2.2.2.2.1<=4*240:=kL g2 g4 Z (by decide);omega
def aCL{w:List Bool}{h:Li}: ∀(k:Nat) {d e:Int},aH1 w h k d=some e->d<=e/\e<=d+61*k
 | 0,d,e,g=>by cases g;omega
 | k+1,d,e,g=>by
  unfold aH1 at g;obtain⟨y,b,f⟩:=qDn.1 g;have hm:y∈cC w h (d+1) 60:=qCj (by unfold pS at b;rw[b];rfl);have:=H6 hm;have:=aCL k f;omega
def aFJ(xs:Li)(k:Nat): Prop:=xs.length=k
def V5(xs b:Li): Prop:=xs.length+b.length<=1000000000000
def upR(l:Li)(b k:Int): Li:=(l.take k.toNat).map λx=>x+b
def upTo(l:Li)(k:Int): Prop:=0<=k/\k<=l.length
def rsP(b:Int)(l xs:Li)(k:Nat): Prop:=(xs.length=k/\xs.length+l.length<=1000000000000)/\-1000000<=b/\b<=1000000/\∀x∈l,-1000000000<=x/\x<=1000000000
def wHd(n:Net)(p:Plan)(a:AV): List AV:=[.dat (.sl C) n.1,.dat (.sl S) n.2.1,.dat (.sl S) n.2.2.1,.dat (.sl (.pair S (.pair I (.pair I (.pair I (.pair I (.pair I (.sl S)))))))) n.2.2.2.1,.dat (.sl (.pair S (.pair I (.pair I (.pair I (.pair I I)))))) n.2.2.2.2.1,.dat (.sl (.pair S (.pair I I))) n.2.2.2.2.2,.dat I p.1,.dat I p.2.1,.dat M p.2.2.1,.dat (.sl M) p.2.2.2,a]
def Jy(n:Net)(p:Plan)(k:Nat)(xs:Li): Mem:=[(2,.var (wHd n p (.buf 3 k))),(3,.buf 3 I xs [])]
def iT(t:Ty): AV->Option t.den
 | .dat t' x=>if h:t'=t then some (h▸x)else none
 | _=>none
def aF8: List AV->Option (Net×Plan×AV)
 | [L,G,A,z,y,x,v,u,r,b,a]=>match iT (.sl C) L,iT (.sl S) G,iT (.sl S) A,iT (.sl Of) z,iT (.sl Ln) y,iT (.sl Kl) x,iT I v,iT I u,iT M r,iT (.sl M) b with
  | some j,some f,some e,some i,some g,some h,some p1,some p2,some p3,some p4=>some ((j,f,e,i,g,h),(p1,p2,p3,p4),a)
  | _,_,_,_,_,_,_,_,_,_=>none
 | _=>none
def asW(m:Mem): Option (Net×Plan×Nat×Li):=match m with
 | [(2,.var cells),(3,.buf el b xs [])]=>match aF8 cells,iT R (.dat (.sl b) xs)with
  | some (n,p,.buf 3 k),some ys=>if el=3 then some (n,p,k,ys)else none
  | _,_=>none
 | _=>none
def aFW(a b:List AV->Mem->Option jG): List AV->Mem->Option jG:=λargs m=>match a args m with
 | some c=>some c
 | none=>b args m
def wK(l:List AK)(e:AKs l->Net->Plan->Nat->Li->Prop)(ret:AKs l->Net->Plan->AV)(b:AKs l->Net->Plan->Li)(args:List AV)(m:Mem): Option jG:=match asW m,ofK l args with
 | some (n,p,k,xs),some x=>some ⟨e x n p k xs,ret x n p,Jy n p (Eb k (Dk (b x n p))) (Ef xs (b x n p))⟩
 | _,_=>none
def wR(l:List AK)(b:AKs l->Net->Plan->Nat->Li->Prop)(ret:AKs l->Net->Plan->AV)(args:List AV)(m:Mem): Option jG:=match asW m,ofK l args with
 | some (n,p,k,xs),some x=>some ⟨b x n p k xs,ret x n p,[]⟩
 | _,_=>none
def wP(l:List AK)(q:AKs l->Net->Plan->Nat->Li->zz)(args:List AV)(m:Mem): Option zz:=match asW m,ofK l args with
 | some (n,p,k,xs),some x=>some (q x n p k xs)
 | _,_=>none
def asI: AV->Option (Net×Plan)
 | .ips cells=>match aF8 cells with
  | some (n,p,.top)=>some (n,p)
  | _=>none
 | _=>none
def wI(l:List AK)(b:AKs l->Net->Plan->Prop)(ret:AKs l->Net->Plan->AV)(args:List AV)(m:Mem): Option jG:=match m,args with
 | [],a::ar=>match asI a,ofK l ar with
  | some (n,p),some x=>some ⟨b x n p,ret x n p,[]⟩
  | _,_=>none
 | _,_=>none
abbrev NK:=wK [.mp 2,.val R] (λ(_,b,_) _ _ k e=>aFJ e k/\V5 e b) (λ_ _ _=>.tup []) λ(_,b,_) _ _=>b
def KW1: Kt:=kOr 66 NK KR2
def rsA(b:Int)(l xs:Li)(n:Net)(p:Plan): Ann:=Z8 1 Int (upTo l) (λs j=>{put (flat s) [(10,.dat I j)]with mem:=Jy n p (Eb (Dk xs) (Dk (upR l b j))) (Ef xs (upR l b j))}) λj=>Dc (Di (Df l) j)
abbrev xo:=wK [.mp 2,.val I,.val R] (λ(_,b,l,_) _ _ k e=>rsP b l e k) (λ_ _ _=>.tup []) λ(_,b,l,_) _ _=>upR l b (Df l)
def KW2: Kt:=kOr 67 xo KW1
abbrev Ia:=wR [.mp 2,.val I,.val I] (λ(_,o,t,_) n _ _ _=>gA n o t) λ(_,o,t,_) n _=>.dat I (aH n o t)
abbrev xh:=al [.row C,.val I,.val I] (λ(c,m,t,_)=>Lr c m t) λ(c,m,t,_)=>.tup [.dat I (iY c m t),.dat I (mB c m t)]
abbrev sZ:=al [.val I,.val I] (λ_=>True) λ(i,l,_)=>.dat .bool (du i l)
abbrev Ib:=wR [.mp 2,.val I,.val I] (λ_ _ _ _ _=>True) λ(_,c,o,_) _ _=>.fn 206 [.ipv (.ptr 2 1 0 0),.ip I o,.ip I c]
def KW3: Kt:=kOr 136 (aFW (wR [.mp 2,.val I] (λ(_,o,_) n _ _ _=>nH n o) λ(_,o,_) n _=>cal (aC n o).1 (aC n o).2.1 (aC n o).2.2) (wI [.val I] (λ(o,_) n _=>nH n o) λ(o,_) n _=>cal (aC n o).1 (aC n o).2.1 (aC n o).2.2)) <|
 kOr 139 Ia <|
 kOr 138 xh <|
 kOr 137 (al [.val I,.val I] (λ(_,e,_)=>True/\isZero e=true) λ(v,_,_)=>.dat I v) <|
 kOr 205 sZ <|
 kOr 134 Ib KW2
def aIr: KPt:=pOr 137 (Ao [.val I,.val I] λ(_,e,_)=>⟨True,isZero e,zx 39 e⟩) Go.Eng.noP
def Uo{P:Program}{G:List (Nat×AV)}{f:FuncId}{a b:List AV->Mem->Option jG}(g:∀args m c,a args m=some c->ah P G f args m c)(e:∀args m c,b args m=some c->ah P G f args m c): ∀args m c,aFW a b args m=some c->ah P G f args m c:=by
 intro args m c h;unfold aFW at h;split at h
 .rename_i i;cases h;exact g _ _ _ i
 .exact e _ _ _ h
def bL{t:Ty}{a:AV}{x:t.den}(h:iT t a=some x): a=.dat t x:=by
 unfold iT at h;split at h
 .split at h
  .rename_i e;subst e;cases h;rfl
  .cases h
 .cases h
def VB{l:List AV}{n:Net}{p:Plan}{a:AV}(h:aF8 l=some (n,p,a)): l=wHd n p a:=by
 unfold aF8 at h;split at h
 .split at h
  .rename_i x v u r j i g f e b;cases h;rw[bL x,bL v,bL u,bL r,bL j,bL i,bL g,bL f,bL e,bL b];rfl
  .cases h
 .cases h
def Vz{m:Mem}{n:Net}{p:Plan}{k:Nat}{xs:Li}(h:asW m=some (n,p,k,xs)): m=Jy n p k xs:=by
 unfold asW at h;split at h
 .split at h
  .rename_i f b;split at h
   .rename_i e;cases h;rw[VB f,e];have:=bL b;cases this;rfl
   .cases h
  .cases h
 .cases h
def gS{a:AV}{n:Net}{p:Plan}(h:asI a=some (n,p)): a=.ips (wHd n p .top):=by
 unfold asI at h;split at h
 .split at h
  .rename_i b;cases h;rw[VB b]
  .cases h
 .cases h
def V6{P:Program}{G:List (Nat×AV)}{f:FuncId}{l:List AK}{g:AKs l->Net->Plan->Nat->Li->Prop}{ret:AKs l->Net->Plan->AV}{b:AKs l->Net->Plan->Li}
  (h:∀x n p k e,ah P G f (avK l x) (Jy n p k e) ⟨g x n p k e,ret x n p,Jy n p (Eb k (Dk (b x n p))) (Ef e (b x n p))⟩):∀args m c,wK l g ret b args m=some c->ah P G f args m c:=by
 intro args m c i;unfold wK at i;split at i
 .rename_i n p k e x u r;cases i;rw[Vz u];exact(h x n p k e).args λC v _ j=>fS r j
 .cases i
def xD{P:Program}{G:List (Nat×AV)}{f:FuncId}{l:List AK}{b:AKs l->Net->Plan->Nat->Li->Prop}{ret:AKs l->Net->Plan->AV}
  (h:∀x n p k e,ah P G f (avK l x) (Jy n p k e) ⟨b x n p k e,ret x n p,[]⟩):∀args m c,wR l b ret args m=some c->ah P G f args m c:=by
 intro args m c g;unfold wR at g;split at g
 .rename_i n p k e x r j;cases g;rw[Vz r];exact(h x n p k e).args λC u _ i=>fS j i
 .cases g
def aDk{P:Program}{G:List (Nat×AV)}{f:FuncId}{l:List AK}{q:AKs l->Net->Plan->Nat->Li->zz}(h:∀x n p k b,dt P G f (avK l x) (Jy n p k b) (q x n p k b)): ∀args m r,wP l q args m=some r->dt P G f args m r:=by
 intro args m r e;unfold wP at e;split at e
 .rename_i n p k b x L A;cases e;rw[Vz L];exact λj u w D E g z y i v=>h x n p k b j u w D E g z y (fS A i) v
 .cases e
def aGq{P:Program}{G:List (Nat×AV)}{f:FuncId}{l:List AK}{g:AKs l->Net->Plan->Prop}{ret:AKs l->Net->Plan->AV}
  (h:∀x n p,ah P G f (.ips (wHd n p .top)::avK l x) [] ⟨g x n p,ret x n p,[]⟩):∀args m c,wI l g ret args m=some c->ah P G f args m c:=by
 intro args m c b;unfold wI at b;split at b
 .split at b
  .rename_i n p x v r;cases b;rw[gS v];refine(h x n p).args λC y _ j=>?_
   obtain⟨u,i,e,g1,g2⟩:=j;exact⟨u,i,e,g1,fS r g2⟩
  .cases b
 .cases b
def aGP: eO 66 NK:=V6 λ(_,(e:Li),_) (n:Net) (p:Plan) (k:Nat) (b:Li)=>by
 refine zE (A:=az) (p:=let g:=n.2.2.2;let h:=Dk (Ef b e);let f:=k+Dk e;(aFJ b k/\V5 b e->1=1/\Dk b<=h/\Q3 1 1 1 0 (Dk b=k/\(f*8)<=140737488355328/\f<=9223372036854775807/\Q3 1 1 1 0 (h=f/\L3 n.1 n.2.1 n.2.2.1 g.1 g.2.1 g.2.2 p.1 p.2.1 p.2.2.1 (v6 p.2.2.2 f (Ef b e) 1 (Dk b)))))) Av λ⟨f,g⟩=>?_
 have f:b.length=k:=f;have g:b.length+e.length<=1000000000000:=g;refine Z9 ?_;simp only[qc,qF];exact⟨Z,f,Z,Z,Z⟩
def aIV: ai Tryz.prog G0 KW1:=af aGP Av
def Q5{l:Li}{b k:Int}(h:upTo l k): (upR l b k).length=k.toNat:=by
 unfold upR;rw[qY,qL];have:=h.1;have:=h.2;omega
def Wl{l:Li}{b k:Int}(f:0<=k)(e:k<l.length): upR l b (k+1)=upR l b k++[l.getD k.toNat 0+b]:=by
 unfold upR;rw[show(k+1).toNat=k.toNat+1 by omega,wU,qA,qB (show k.toNat<l.length by omega),zZ];rfl
def WJ: eO 67 xo:=V6 λ(_,(b:Int),(l:Li),_) (n:Net) (p:Plan) (k:Nat) (e:Li)=>by
 refine zE (A:=(lvA [(1,[0,1,7,8,9,10])] (rsA b l e n p))) (p:=let A:=n.2.1;let G:=p.2.1;let L:=n.2.2.1;let i:=p.2.2;let j:=n.2.2.2;let O:=upR l b (Df l);let T:=Ef e O;(rsP b l e k->1=1/\Dk e<=Dk T/\(∃x,upTo l x/\T6 1 0 0 b l (Df l) (0=x/\L3 n.1 A L j.1 j.2.1 j.2.2 p.1 G i.1 (i.2=i.2/\k=Dk e+Dk (upR l b x)/\e=Ef e (upR l b x)/\T7 1 (Dk e))))/\∀(x:Int),let z:=Dp x (Df l);let v:=Du l (Dc x) 0+b;let f:=Ef e (upR l b x);let h:=Dk e+Dk (upR l b x);let g:=[v];let u:=Ef f g;let r:=x+1;upTo l x->(z->0<=x/\x<Df l/\inR .i64 v/\(aFJ f h/\V5 f g)/\1=1/\Dk f<=Dk u/\inR .i64 r/\∃y,upTo l y/\(T6 1 0 0 b l (Df l) (r=y/\L3 n.1 A L j.1 j.2.1 j.2.2 p.1 G i.1 (i.2=i.2/\h+Dk g=Dk e+Dk (upR l b y)/\u=Ef e (upR l b y)/\T7 1 (Dk e))))/\Dc (Df l-y)<Dc (Df l-x))/\(z=false->L3 n.1 A L j.1 j.2.1 j.2.2 p.1 G i.1 (i.2=i.2/\h=k+Dk O/\f=T/\T7 1 (Dk e))))) aIV λV=>?_
 refine Z9 ?_;simp only[qc,qF];obtain⟨⟨hk,hr⟩,b0,b1,X⟩:=V;have eN:upTo l l.length:=⟨qM _,qH _⟩;refine⟨Z,⟨0,⟨qH _,qM _⟩,rfl,by show k=e.length+0;omega,(vY _).symm⟩,λx G=>⟨λj=>?_,λhge=>?_⟩⟩
 .have L:=G.1;have e1:=Q5 (b:=b) G;have O:=Wl (b:=b) L j;have hv:=X _ (getD_mem (l:=l) (i:=x.toNat) (d:=0) Z);refine⟨L,j,aB Z,⟨by show(e++upR l b x).length=_;rw[qF],by show(e++upR l b x).length+_<=1000000000000;rw[qF,qV];omega⟩,Z,aB Z,x+1,⟨Z,Z⟩,⟨rfl,by rw[O,qF];rfl,by rw[O,wG]⟩,Z⟩
 .have T:=G.2;have:x=l.length:=Z;rw[this,Q5 eN];exact⟨Z,rfl⟩
def aJX: ai Tryz.prog G0 KW2:=af WJ aIV
def aDt(o:Int)(k:Nat)(xs:Li)(n:Net)(p:Plan): ah Tryz.prog G0 136 [.ptr 2 1 0 0,.dat I o] (Jy n p k xs) ⟨nH n o,cal (aC n o).1 (aC n o).2.1 (aC n o).2.2,[]⟩:=by
 refine zE (A:=az) (p:=let b:=n.2.2.2;let e:=(Du b.1 (Dc o) (ByteArray.mk #[],(0:Int),(0:Int),(0:Int),(0:Int),(0:Int),Dt ByteArray)).2.2.1;let f:=Du n.1 (Dc e) ((0:Int),Dt Bool,Dt Int);let g:=(aC n o).2;(nH n o->L3 1 1 1 1 0 1 1 1 1 (0=0/\0<=o/\o<Df b.1/\0<=e/\e<Df n.1/\Q3 1 0 1 0 (f.1=(aC n o).1/\f.2.1=g.1/\f.2.2=g.2/\L3 n.1 n.2.1 n.2.2.1 b.1 b.2.1 b.2.2 p.1 p.2.1 p.2.2.1 (v6 p.2.2.2 k xs 1 (Dk xs)))))) Av λb=>?_
 obtain⟨j,f,e,i,g,h⟩:=n;obtain⟨g1,g2,_⟩:=gC j f e i g h b;refine Z9 ?_;exact⟨b.2.1,b.2.2,g1,g2,rfl,rfl,rfl⟩
def aAm(o:Int)(n:Net)(p:Plan): ah Tryz.prog G0 136 [.ips (wHd n p .top),.dat I o] [] ⟨nH n o,cal (aC n o).1 (aC n o).2.1 (aC n o).2.2,[]⟩:=by
 refine zE (A:=az) (p:=let b:=(Du n.2.2.2.1 (Dc o) (ByteArray.mk #[],(0:Int),(0:Int),(0:Int),(0:Int),(0:Int),Dt ByteArray)).2.2.1;let e:=Du n.1 (Dc b) ((0:Int),Dt Bool,Dt Int);let f:=(aC n o).2;(nH n o->0<=o/\o<Df n.2.2.2.1/\0<=b/\b<Df n.1/\Q3 1 0 1 0 (e.1=(aC n o).1/\e.2.1=f.1/\e.2.2=f.2/\True))) Av λb=>?_
 obtain⟨j,f,e,i,g,h⟩:=n;obtain⟨g1,g2,_⟩:=gC j f e i g h b;refine Z9 ?_;exact⟨b.2.1,b.2.2,g1,g2,rfl,rfl,rfl⟩
def v8(i:LC)(e b:LB)(h:Lo)(f:Ll)(g:Lk){o t:Int}(j:gA (i,e,b,h,f,g) o t): inR .i64 ((bI (i,e,b,h,f,g) o).2.2.2.2.1*(bI (i,e,b,h,f,g) o).2.2.2.2.2.1)/\inR .i64 (aH (i,e,b,h,f,g) o t)/\t<=aH (i,e,b,h,f,g) o t/\aH (i,e,b,h,f,g) o t<=t+960:=by
 obtain⟨r,A,z⟩:=j;obtain⟨_,_,_,g1,g2,g3,g4⟩:=gC i e b h f g r;unfold aH;generalize (bI (i,e,b,h,f,g) o).2.2.2.2.1=x at *;generalize (bI (i,e,b,h,f,g) o).2.2.2.2.2.1=y at *;have v:0<=x*y:=qAi Z Z;have u:x*y<=4*240:=kL g2 g4 Z Z;exact⟨aB Z,aB Z,Z,Z⟩
def aDr: eO 139 Ia:=xD λ(_,(o:Int),(t:Int),_) (n:Net) (p:Plan) (k:Nat) (e:Li)=>by
 refine zE (A:=az) (p:=let b:=n.2.2.2;let f:=(Du b.1 (Dc o) (ByteArray.mk #[],(0:Int),(0:Int),(0:Int),(0:Int),(0:Int),Dt ByteArray)).2.2.2.2;let g:=f.1*f.2.1;let h:=t+g;(gA n o t->T2 1 1 1 1 0 (0<=o/\o<Df b.1/\T2 1 1 1 1 0 (0<=o/\o<Df b.1/\inR .i64 g/\inR .i64 h/\h=aH n o t/\L3 n.1 n.2.1 n.2.2.1 b.1 b.2.1 b.2.2 p.1 p.2.1 p.2.2.1 (v6 p.2.2.2 k e 1 (Dk e)))))) Av λb=>?_
 obtain⟨v,i,h,u,j,r⟩:=n;obtain⟨g,f,_⟩:=v8 v i h u j r b;refine Z9 ?_;exact⟨b.1.2.1,b.1.2.2,b.1.2.1,b.1.2.2,g,f,rfl⟩
def WA: eO 138 xh:=ae λ((c:C.den),(m:Int),(t:Int),_)=>by
 obtain⟨z,w,h⟩:=c
 refine zE (A:=az) (p:=let j:=(z,w,h);let r:=Dp m (JC z t);let b:=bE z t+1;let u:=dX w h b;let v:=Dw u 0;let e:=iY j m t;let f:=mB j m t;let L:=eQ w h b;let x:=dX w h (bE z t);let i:=Dw x 0;let g:=eQ w h (bE z t);(Lr j m t->dW z w h t/\(r->inR .i64 b/\gT z w h b/\(v->0=e/\u=f/\True)/\(v=false->iV z w h L m/\fx z L m=e/\0=f/\True))/\(r=false->gT z w h (bE z t)/\(i->0=e/\x=f/\True)/\(i=false->iV z w h g m/\fx z g m=e/\0=f/\True)))) Av λG=>?_
 obtain⟨b1,b2⟩:=U3 G;obtain⟨j,T,O,X,V⟩:=id G;refine Z9 ?_;have b:∀d,d=d0F (z,w,h) m t->gT z w h d/\(¬dX w h d=0->(0:Int)=iY (z,w,h) m t/\dX w h d=mB (z,w,h) m t)/\(dX w h d=0->iV z w h (eQ w h d) m/\fx z (eQ w h d) m=iY (z,w,h) m t/\(0:Int)=mB (z,w,h) m t):=by
  rintro d rfl;refine⟨⟨j,dd Z Z⟩,λf=>⟨(if_neg f).symm,rfl⟩,λf=>?_⟩;obtain⟨y,x,v⟩:=pR f;exact⟨⟨j,dd Z Z,T,O⟩,(if_pos f).symm,f.symm⟩
 refine⟨⟨j,Z,Z⟩,λr=>?_,λu=>?_⟩
 .have e:bE z t+1=d0F (z,w,h) m t:=(if_pos r).symm;obtain⟨y,x,v⟩:=b _ e;exact⟨by unfold inR;simp only;omega,y,x,v⟩
 .have e:bE z t=d0F (z,w,h) m t:=(if_neg u).symm;exact b _ e
def Rj(v e:Int): ah Tryz.prog G0 137 [.dat I v,.dat I e] [] ⟨True/\isZero e=true,.dat I v,[]⟩/\dt Tryz.prog G0 137 [.dat I v,.dat I e] [] ⟨True,isZero e,zx 39 e⟩:=by
 refine zC (c:=mkc KR2) (A:=az) (q:=⟨True,isZero e,zx 39 e⟩) Av iI hm sU (p:=let b:=Dw e 0;let f:=chainOf (Value.iface 39 (Value.int .i64 e));true/\(True->(b->(true->True/\(false=false->isZero e=false/\true/\f=f))/\True)/\(b=false->isZero e/\T3 v))) ⟨rfl,λ_=>⟨λh=>⟨λ_=>⟨trivial,λ_=>⟨?_,rfl,rfl⟩⟩,trivial⟩,λh=>⟨?_,rfl,trivial⟩⟩⟩
 .unfold isZero;simpa[Dw]using h
 .unfold isZero;simpa[Dw]using h
def aAl(e:Int): ah Tryz.prog G0 63 [.ifc 39 (.dat I e)] [] ⟨True,.dat I e,[]⟩:=
 zE (A:=az) (p:=(True->(true->T3 e)/\(true=false->1=e/\True))) Av λ_=>⟨λ_=>⟨rfl,trivial⟩,λh=>by cases h⟩
def Rl: eO 205 sZ:=ae λ((i:Int),(l:Int),_)=>by
 refine zE (A:=az) (p:=let b:=Ed i 0;(True->Q2 b ((Dh true b->b)/\Ea b (Dp i l) false=du i l/\True))) Av λ_=>⟨λh _=>h,λh _=>h,λh=>by simpa[Dh]using h,?_,trivial⟩
 unfold du;simp only[Ea,Ed,Dp,kM];by_cases h:0<=i<;>simp[h]
def aDs: eO 134 Ib:=xD λ(_,(c:Int),(o:Int),_) (n:Net) (p:Plan) (k:Nat) (b:Li)=>by
 refine zE (A:=az) (p:=let e:=n.2.2.2;(True->1=1/\0=0/\0=0/\o=o/\c=c/\n.1=n.1/\n.2.1=n.2.1/\n.2.2.1=n.2.2.1/\e.1=e.1/\e.2.1=e.2.1/\e.2.2=e.2.2/\p.1=p.1/\p.2.1=p.2.1/\p.2.2.1=p.2.2.1/\p.2.2.2=p.2.2.2/\k=k/\b=b/\1=1/\Dk b=Dk b/\True)) Av λ_=>?_
 simp only[qc,Dh,Eu,Dj,qd,Dt,Ec,Dw,Dp,Ei,Ee,Ed,Ez,Df,Eo,Dl,Dn,Es,Dy,Dx,Di,Dq,Eh,Fh,Dc,Dz,Dk,Eb,Ej,Du,Ey,Ew,Em,Ef,Fg,Fj,Fe,Et,En,Ep,Fb]
def aDb: ai Tryz.prog G0 KW3:=af (Uo (xD λ(_,o,_) n p k b=>aDt o k b n p) (aGq λ(o,_) n p=>aAm o n p))<|af aDr<|af WA<|af (ae λ(v,e,_)=>(Rj v e).1)<|af Rl<|af aDs aJX
def VL: bJ Tryz.prog G0 aIr:=jt (kg λ(v,e,_)=>(Rj v e).2) sU
def iP(w:List Bool)(h:Li)(a b:Int): Int:=if b<=a+2000 then((cC w h (a+1) (b-a)).length:Int)else -1
def countP(z:Int)(w:List Bool)(h:Li)(a b:Int): Prop:=ay z w h=true/\bC a=true/\bC b=true
def Q8(k:Nat)(l:Li): Prop:=k<=l.length/\l.length<=100000
def fY(x:Int): Bool:=decide (-1<=x/\x<=65518)
def jb(b x:Int): Bool:=fY x
def sgR(g:Int->Int->Bool)(m o:Int)(b:Li): Bool:=decide ((b.length:Int)=m)&&b.all (g o)
def sgF(g:Int->Int->Bool)(t:Lj)(m:Int): Bool:=decide ((t.length:Int)=m)&&(List.range t.length).all λi=>sgR g m i (t.getD i [])
def Jz(g:Int->Int->Bool)(t:Lj)(m k:Int): Prop:=0<=k/\k<=t.length/\(t.length:Int)=m/\∀i:Nat,(i:Int)<k->sgR g m i (t.getD i [])=true
def nX(g:Int->Int->Bool)(b:Li)(m o k:Int): Prop:=0<=k/\k<=b.length/\(b.length:Int)=m/\∀i:Nat,(i:Int)<k->g o (b.getD i 0)=true
def lu(p:Plan): Prop:=dw p.2.2.1/\p.2.2.2.length<=1000000/\∀t∈p.2.2.2,dw t
def k9(p:Plan): Bool:=decide (0<=p.1/\p.1<p.2.1/\p.2.1<=600/\p.2.1-p.1<=60)
def nY(n:Net)(p:Plan): Bool:=decide ((p.2.2.2.length:Int)=n.2.2.2.2.2.length)&&p.2.2.2.all λt=>sgF jb t n.2.2.2.1.length
def iN(n:Net)(p:Plan): Bool:=k9 p&&(mf n p.2.2.1&&nY n p)
def tV(n:Net)(p:Plan)(k:Int): Prop:=0<=k/\k<=p.2.2.2.length/\k9 p=true/\mf n p.2.2.1=true/\(p.2.2.2.length:Int)=n.2.2.2.2.2.length/\∀i:Nat,(i:Int)<k->sgF jb (p.2.2.2.getD i []) n.2.2.2.1.length=true
def aE8(w:List Bool)(h:Li)(a b:Int): Ann:=Z8 5 Nat (λk=>Q8 k (cC w h (Dq a 1) (Di b a))) (λs k=>fu (flat s) 0 (.var [.dat I (Dz k)])) λk=>k
abbrev Ip:=al [.val I,.val I] (λ_=>True) λ(o,x,_)=>.dat .bool (jb o x)
abbrev BU:=al [.ptr N] (λ_=>True) λ(n,_)=>.fn 204 [.ipv (.ip N n)]
abbrev BV:=al [.val I,.val I,.bp N] (λ_=>True) λ(o,x,n,_)=>.dat .bool (bq n o x)
def KW4: Kt:=kOr 133 Ip <|
 kOr 132 BU <|
 kOr 204 BV <|
 kOr 140 (al [.row C,.val I,.val I] (λ(c,a,b,_)=>countP c.1 c.2.1 c.2.2 a b) λ(c,a,b,_)=>.dat I (iP c.2.1 c.2.2 a b)) KW3
def sgA(g:Int->Int->Bool)(t:Lj)(m:Int): Ann:=⟨λb s=>match b with
 | 4=>some {α:=Int,inv:=λk=>Jz g t m k,st:=λk=>put s [(17,.dat I k)],μ:=λk=>Dc (Di (Df t) k)}
 | 9=>match s.sig.T 17,s.sig.T 26 with
  | .dat (.int .i64) o,.dat (.sl (.int .i64)) row=>some {α:=Int,inv:=λk=>nX g row m o k,st:=λk=>put s [(28,.dat I k)],μ:=λk=>Dc (Di (Df row) k)}
  | _,_=>none
 | _=>none,λ_ _=>none,λ_ _=>none⟩
def KW5: Kt:=kOr 131 (aFW (al [.val M,.val I,.fnb 204 N] (λ(t,_,_,_)=>dw t) λ(t,m,n,_)=>.dat .bool (sgF (bq n) t m)) (al [.val M,.val I,.fn0 133] (λ(t,_,_)=>dw t) λ(t,m,_)=>.dat .bool (sgF jb t m))) KW4
def aHL(n:Net)(p:Plan): Ann:=Z8 7 Int (tV n p) (λs k=>put s [(74,.dat I k)]) λk=>Dc (Di (Df p.2.2.2) k)
def SL(z:Int)(w:List Bool)(h:Li)(a b:Int): ah Tryz.prog G0 140 [cal z w h,.dat I a,.dat I b] [] ⟨countP z w h a b,.dat I (iP w h a b),[]⟩:=by
 refine zF (c:=aIF KR1) (A:=(aE8 w h a b)) aIc aFD hm (p:=let i:=Dj (ay z w h);let v:=Dj i;let r:=Ea i true (Dj (bC a));let A:=Dj r;let u:=Ea r true (Dj (bC b));let G:=Dj u;let O:=a+2000;let j:=Ea u true (Ei b O);let T:=iP w h a b;let e:=a+1;let f:=cC w h e (b-a);let L:=(z,w,h);true/\(countP z w h a b->True/\L4 v ((v->True)/\L4 v ((Dh true v->v)/\L4 A ((A->True)/\L4 A ((Dh true A->A)/\L4 G ((G->inR .i64 O)/\Q2 G ((Dh true G->G)/\(j->(-1:Int)=T/\True)/\(j=false->L5 1 0 (inR .i64 e/\inR .i64 (b-a)/\Dk w=7/\Ql w h e (b-a)/\(∃x,Q8 x f/\x=0/\L3 z w h a b L Q1 1 0 (L3 0 z w h (ay z w h) i i r r (L3 u u j z w h a e b (T6 a (b-a) e (b-a) w L (0=Dz x/\True)))))/\(∀(x:Nat),let V:=Dz x+1;∀(y:Int),Q8 x f->m4 f x y->L5 1 0 (inR .i64 V/\L5 1 0 (∃g,Q8 g f/\g=x+1/\L3 z w h a b L Q1 1 0 (L3 0 z w h (ay z w h) i i r r (L3 u u j z w h a e b (T6 a (b-a) e (b-a) w L (V=Dz g/\True)))))))/\∀(x:Nat),Q8 x f->x=Dk f->L5 1 0 (Dz x=T/\True))))))))))) ⟨rfl,λ⟨u,O,L⟩=>?_⟩
 have G:=FT u;have ha':=okd O;have X:=okd L;have hl:(cC w h (a+1) (b-a)).length<=(b-a).toNat:=by
  unfold cC;exact wH (zQ _ _) (by simp)
 simp only[u,O,L,qc,Dh,Eu,Dj,qd,Dt,Ec,Dw,Dp,Ei,Ee,Ed,Ez,Df,Eo,Dl,Dn,Es,Dy,Dx,Di,Dq,Eh,Fh,Dc,Dz,Dk,Eb,Ej,Du,Ey,Ew,Em,Ef,Fg,Fj,Fe,Et,En,Ep,Fb,yO,yR,qBj,qAv,gW,wE,xM,reduceCtorEq,qAt,gG,qBb];refine⟨⟨Z,Z⟩,λV=>(if_neg Z).symm,λhab=>⟨⟨Z,Z⟩,⟨Z,Z⟩,G.1,⟨G,Z,Z,Z,Z⟩,⟨0,⟨Z,Z⟩,rfl,rfl⟩,λk y v r=>?_,λk v i=>?_⟩⟩
 .have r:(cC w h (a+1) (b-a))[k]?=some y:=r;have:=(qG.1 r).1;obtain⟨k1,T⟩:=v;refine⟨⟨Z,Z⟩,k+1,⟨Z,T⟩,rfl,Z⟩
 .rw[i];exact(if_pos Z).symm
def aDJ: eO 133 Ip:=ae λ((o:Int),(x:Int),_)=>by
 refine zE (A:=az) (p:=let b:=Ed x (-1);(True->L4 b ((Dh true b->b)/\Ea b (Ee x 65518) false=jb o x/\True))) aDb λ_=>⟨λh _=>h,λh=>by simpa[Dh]using h,?_,trivial⟩
 unfold jb fY;simp only[Ea,Ed,Ee,kM];by_cases h:-1<=x<;>simp[h]
def aAO: eO 132 BU:=ae λ((n:Net),_)=>zE (A:=az) (p:=(True->T3 n)) aDb λ_=>⟨rfl,trivial⟩
def aAP: eO 204 BV:=ae λ((o:Int),(x:Int),((r,g,f,j,b,i):Net),_)=>by
 refine zE (A:=az) (p:=let v:=Ec x (-1);let e:=Dj v;let y:=Df b;let h:=du x y;let u:=Dh e h;(True->Q4 e (Q4 e ((e->True)/\L4 e (Q2 u (Q4 u ((Dh e h->0<=x)/\(Dh e h->x<y)/\L4 u (Q4 u (L4 e ((e->Dh e h->Dh e h)/\(Dh true e->e)/\Ea v true (Ea h (Ec (Du b (Dc x) (ByteArray.mk #[],(0:Int),(0:Int),(0:Int),(0:Int),(0:Int))).2.1 o) false)=bq (r,g,f,j,b,i) o x/\True)))))))))) aDb λ_=>?_
 have e:Ea (Ec x (-1)) true (Ea (du x (Df b)) (Ec (Du b (Dc x) (ByteArray.mk (Dt UInt8).toArray,(0:Int),(0:Int),(0:Int),(0:Int),(0:Int))).snd.fst o) false)=bq (r,g,f,j,b,i) o x:=by
  unfold bq;rw[ua,jA]
  congr 1
 rw[e];refine Z9 ?_;unfold du;simp only[qE];exact⟨λh=>h.2.1,λh=>h.2.2⟩
def aGd: ai Tryz.prog G0 KW4:=af aDJ<|af aAO<|af aAP<|af (ae λ((z,w,h),a,b,_)=>SL z w h a b) aDb
def G4{g:Int->Int->Bool}{t:Lj}{m:Int}(b:(t.length:Int)=m): sgF g t m=true↔∀i:Nat,(i:Int)<t.length->sgR g m i (t.getD i [])=true:=by
 unfold sgF;simp only[qC,qE,qO,qZ];exact⟨λh i e=>h.2 i Z,λh=>⟨b,λi e=>h i Z⟩⟩
def JZ{g:Int->Int->Bool}{m o:Int}{b:Li}(j:(b.length:Int)=m): sgR g m o b=true↔∀i:Nat,(i:Int)<b.length->g o (b.getD i 0)=true:=by
 unfold sgR;simp only[qC,qE,qO];refine⟨λh i e=>h.2 _ ?_,λh=>⟨j,λx f=>?_⟩⟩
 .rw[qA,qB Z,qK];exact wL _
 .obtain⟨i,e,rfl⟩:=wZ.1 f;have:=h i Z;rw[qA,qB e,qK]at this;exact this
def DK(g:Int->Int->Bool){t:Lj}{m:Int}(V:dw t): ((t.length:Int)≠m->false=sgF g t m)/\((t.length:Int)=m->Jz g t m 0/\∀x:Int,Jz g t m x->
  (x<t.length->0<=x/\x<t.length/\(((t.getD x.toNat []).length:Int)≠m->false=sgF g t m)/\(((t.getD x.toNat []).length:Int)=m->nX g (t.getD x.toNat []) m x 0/\∀y:Int,nX g (t.getD x.toNat []) m x y->
   (y<(t.getD x.toNat []).length->0<=y/\y<(t.getD x.toNat []).length/\(g x ((t.getD x.toNat []).getD y.toNat 0)=false->false=sgF g t m)/\
    (g x ((t.getD x.toNat []).getD y.toNat 0)=true->inR .i64 (y+1)/\∃z,nX g (t.getD x.toNat []) m x z/\y+1=z/\(((t.getD x.toNat []).length:Int)-z).toNat<(((t.getD x.toNat []).length:Int)-y).toNat))/\
   (¬y<(t.getD x.toNat []).length->inR .i64 (x+1)/\∃z,Jz g t m z/\x+1=z/\((t.length:Int)-z).toNat<((t.length:Int)-x).toNat)))/\(¬x<t.length->true=sgF g t m)):=by
 have f:∀x:Int,0<=x->((x.toNat:Nat):Int)=x:=λx h=>Z
 refine⟨λh=>?_,λe=>⟨⟨qH _,Z,e,λi h=>Z⟩,λx ⟨r,x1,_,G⟩=>⟨λO=>?_,λO=>?_⟩⟩⟩
 .unfold sgF;rw[vC h];rfl
 .have hr:=V.2 _ (getD_mem (l:=t) (i:=x.toNat) (d:=[]) Z);have hfl:=V.1;refine⟨r,O,λh=>?_,λhm=>⟨⟨qH _,Z,hm,λi h=>Z⟩,λy ⟨X,y1,_,A⟩=>⟨λL=>⟨X,L,λh=>?_,λh=>?_⟩,λL=>?_⟩⟩⟩
  .refine(kC.2 λu=>h ?_).symm;have b:=(G4 e).1 u x.toNat Z;unfold sgR at b;simp only[qC,qE]at b;exact b.1
  .refine(kC.2 λu=>?_).symm;have b:=(JZ hm).1 ((G4 e).1 u x.toNat Z) y.toNat Z;rw[f x r,h]at b;cases b
  .refine⟨aB Z,y+1,⟨Z,Z,hm,λi T=>?_⟩,rfl,Z⟩;by_cases v:(i:Int)<y
   .exact A i v
   .have:i=y.toNat:=by omega
    subst this;exact h
  .refine⟨aB Z,x+1,⟨Z,Z,e,λi T=>?_⟩,rfl,Z⟩;by_cases v:(i:Int)<x
   .exact G i v
   .have:i=x.toNat:=by omega
    subst this;exact(JZ hm).2 λj hj=>by rw[f x r];exact A j Z
 .exact((G4 e).2 λi T=>G i Z).symm
def aGy(t:Lj)(m:Int): ah Tryz.prog G0 131 [.dat M t,.dat I m,.fn 133 []] [] ⟨dw t,.dat .bool (sgF jb t m),[]⟩:=by
 refine zE (A:=(lvA [(4,[1,2,6,7,8,10,15,16,17,26,27,28]),(9,[1,2,6,7,8,10,15,16,17,26,27,28])] (sgA jb t m))) (p:=let h:=Dw (Df t) m;(dw t->(h->false=sgF jb t m/\True)/\(h=false->(∃x,Jz jb t m x/\L7 m t (Df t) (0=x/\True))/\∀(x:Int),let i:=Dp x (Df t);let f:=Du t (Dc x) [];let g:=Df f;let j:=Dw g m;let r:=x+1;Jz jb t m x->(i->0<=x/\x<Df t/\(j->false=sgF jb t m/\True)/\(j=false->(∃b,nX jb f m x b/\T5 m x f t (Df t) x f g (0=b/\True))/\∀(b:Int),let u:=Dj (jb x (Du f (Dc b) 0));let e:=b+1;nX jb f m x b->(Dp b g->0<=b/\b<g/\True/\(u->false=sgF jb t m/\True)/\(u=false->inR .i64 e/\∃y,nX jb f m x y/\(T5 m x f t (Df t) x f g (e=y/\True))/\Dc (g-y)<Dc (g-b)))/\(Dp b g=false->inR .i64 r/\∃y,Jz jb t m y/\(L7 m t (Df t) (r=y/\True))/\Dc (Df t-y)<Dc (Df t-x))))/\(i=false->true=sgF jb t m/\True)))) aGd λf=>?_
 refine Z9 ?_;exact DK jb f
def aGx(t:Lj)(m:Int)(n:Net): ah Tryz.prog G0 131 [.dat M t,.dat I m,.fn 204 [.ipv (.ip N n)]] [] ⟨dw t,.dat .bool (sgF (bq n) t m),[]⟩:=by
 refine zE (A:=(lvA [(4,[1,2,6,7,8,10,15,16,17,26,27,28]),(9,[1,2,6,7,8,10,15,16,17,26,27,28])] (sgA (bq n) t m))) (p:=let i:=Dw (Df t) m;let h:=sgF (bq n) t m;(dw t->(i->false=h/\True)/\(i=false->(∃x,Jz (bq n) t m x/\Q3 m n t (Df t) (0=x/\True))/\∀(x:Int),let j:=Dp x (Df t);let f:=Du t (Dc x) [];let g:=Df f;let r:=Dw g m;let u:=x+1;Jz (bq n) t m x->(j->0<=x/\x<Df t/\(r->false=h/\True)/\(r=false->(∃b,nX (bq n) f m x b/\L3 m n x f t (Df t) x f g (0=b/\True))/\∀(b:Int),let e:=Dj (bq n x (Du f (Dc b) 0));let v:=b+1;nX (bq n) f m x b->(Dp b g->0<=b/\b<g/\True/\(e->false=h/\True)/\(e=false->inR .i64 v/\∃y,nX (bq n) f m x y/\(L3 m n x f t (Df t) x f g (v=y/\True))/\Dc (g-y)<Dc (g-b)))/\(Dp b g=false->inR .i64 u/\∃y,Jz (bq n) t m y/\(Q3 m n t (Df t) (u=y/\True))/\Dc (Df t-y)<Dc (Df t-x))))/\(j=false->true=h/\True)))) aGd λf=>?_
 refine Z9 ?_;exact DK (bq n) f
def aIU: ai Tryz.prog G0 KW5:=af (Uo (ae λ(t,m,n,_)=>aGx t m n) (ae λ(t,m,_)=>aGy t m)) aGd
abbrev Bz:=al [.ptr N,.ptr Pl] (λ(_,p,_)=>lu p) λ(n,p,_)=>.dat .bool (iN n p)
def aAi: eO 65 Bz:=ae λ((n:Net),(p:Plan),_)=>by
 refine zE (A:=(lvA [(7,[0,4,5,7,72,73,74])] (aHL n p))) (p:=let i:=p.2.2.2;let O:=Dp p.1 0;let h:=Dj O;let T:=Ea O true (Ee p.2.1 p.1);let A:=Dj T;let c8:=Ea T true (Ei p.2.1 600);let f:=Dj c8;let L:=p.2.1-p.1;let G:=Ea c8 true (Ei L 60);let e:=Df i;let z:=Dw e (Df n.2.2.2.2.2);let b:=Dj z;let v:=Df n.2.2.2.1;let u:=Ea z true (Dj (sgF (bq n) p.2.2.1 v));(lu p->Q2 h (Q4 h (Q4 h ((Dh true h->h)/\L4 A (Q4 A ((Dh true A->A)/\Q2 f (Q4 f (Q4 f ((f->inR .i64 L)/\L4 f ((Dh true f->f)/\(G->false=iN n p/\True)/\(G=false->Q2 b (Q4 b (Q4 b ((b->True)/\Q4 b ((b->dw p.2.2.1)/\L4 b ((Dh true b->b)/\(u->false=iN n p/\True)/\(u=false->(∃x,tV n p x/\L7 n i e (0=x/\True))/\∀(x:Int),let r:=Du i (Dc x) (Dt (Li));let j:=Dj (sgF jb r v);let g:=x+1;tV n p x->(Dp x e->0<=x/\x<e/\dw r/\(j->false=iN n p/\True)/\(j=false->inR .i64 g/\∃y,tV n p y/\(L7 n i e (g=y/\True))/\Dc (e-y)<Dc (e-x)))/\(Dp x e=false->true=iN n p/\True))))))))))))))))))) aIU λ⟨a3,a4,a5⟩=>?_
 refine Z9 ?_;have eT:sgF (bq n) p.2.2.1 n.2.2.2.1.length=mf n p.2.2.1:=rfl;rw[eT];have e1:∀i:Nat,(i:Int)<p.2.2.2.length->p.2.2.2.getD i []∈p.2.2.2:=λi f=>getD_mem Z
 have eD:(p.2.2.2.length:Int)=n.2.2.2.2.2.length->(nY n p=true↔∀i:Nat,(i:Int)<p.2.2.2.length->sgF jb (p.2.2.2.getD i []) n.2.2.2.1.length=true):=λhl=>by
  unfold nY;simp only[qC,qE,qO];refine⟨λh i f=>h.2 _ (e1 i f),λh=>⟨hl,λx O=>?_⟩⟩;obtain⟨i,f,rfl⟩:=wZ.1 O;have:=h i Z;rw[qA,qB f,qK]at this;exact this
 refine⟨λh=>aB Z,λh=>?_,λh=>⟨λ_=>a3,λe=>?_,λ⟨e,h3⟩=>?_⟩⟩
 .unfold iN k9;rw[vC Z];rfl
 .unfold iN nY;rcases e with e | e
  .rw[vC e];simp
  .rw[e];simp
 .have V:k9 p=true:=by unfold k9;exact qW Z
  refine⟨⟨qH _,Z,V,h3,e,λi f=>Z⟩,λx ⟨x0,x1,_,_,_,x5⟩=>⟨λO=>⟨x0,O,a5 _ (getD_mem Z),λX=>?_,λX=>?_⟩,λO=>?_⟩⟩
  .refine(kC.2 λT=>?_).symm;unfold iN at T;simp only[qC]at T;have:=(eD e).1 T.2.2 x.toNat Z;rw[X]at this;cases this
  .refine⟨aB Z,x+1,⟨Z,Z,V,h3,e,λi f=>?_⟩,rfl,Z⟩;by_cases h5:(i:Int)<x
   .exact x5 i h5
   .have:i=x.toNat:=by omega
    subst this;exact X
  .unfold iN;rw[V,h3,(eD e).2 λi f=>x5 i Z];rfl
def aIG(n:Net)(f:Int)(s:Stop): Int:=bE (aC n s.1).1 s.2.2.1+(2-f)
def rU(n:Net)(f:Int)(l:List Stop): Li:=l.map (aIG n f)
def QY(n:Net)(p:Plan)(o d t:Int): Li:=rU n p.1 (mD n p.2.2.1 o d t).dropLast
def zv(n:Net)(p:Plan)(o d t:Int): Int:=((mD n p.2.2.1 o d t).getLastD (0,0,0,0)).2.1
def Da(n:Net)(p:Plan)(o d t:Int)(k:Nat)(xs:Li): Prop:=Jw n p.2.2.1 o d t/\(0<=p.1/\p.1<=600)/\xs.length=k/\xs.length<=950000000000
def aGj(n:Net)(p:Plan)(e d b:Int)(xs:Li): Ann:=Z8 2 (List Stop×Int×Int) (QR n p.2.2.1 e d b) (λs x=>{put (flat s) [(1,.dat I x.2.1),(3,.dat I x.2.2),(9,.dat I (Dq (Df x.1) 1))]with mem:=Jy n p (Eb (Dk xs) (Dk (rU n p.1 x.1))) (Ef xs (rU n p.1 x.1))}) λx=>Dc (Di 20 (Df x.1))
def cWw: Cfg:=mkp KW3 (λ_=>false) aIr (λf=>f==137)
def Zv(o d t:Int)(k:Nat)(xs:Li)(n:Net)(p:Plan): ah Tryz.prog G0 135 [.ptr 2 1 0 0,.dat I o,.dat I d,.dat I t] (Jy n p k xs) ⟨Da n p o d t k xs/\isZero (iS n p.2.2.1 o d t)=true,.dat I (zv n p o d t),Jy n p (Eb k (Dk (QY n p o d t))) (Ef xs (QY n p o d t))⟩/\
  dt Tryz.prog G0 135 [.ptr 2 1 0 0,.dat I o,.dat I d,.dat I t] (Jy n p k xs) ⟨Da n p o d t k xs,isZero (iS n p.2.2.1 o d t),zx 39 (iS n p.2.2.1 o d t)⟩:=by
 refine zM (c:=cWw) (A:=(aGj n p o d t xs)) (q:=⟨Da n p o d t k xs,isZero (iS n p.2.2.1 o d t),zx 39 (iS n p.2.2.1 o d t)⟩) aDb iI hm VL (p:=let j:=QY n p o d t;let u:=Ef xs j;let v:=p.2;let z:=v.2;let b:=z.1;let f:=n.1;let A:=n.2;let c8:=A.1;let L:=A.2;let c10:=L.1;let c11:=L.2;let g:=c11.1;let O:=c11.2;let e:=O.1;let h:=O.2;let r:=p.1;let c17:=v.1;let G:=z.2;let c19:=iS n b o d t;let T:=isZero c19;let c21:=chainOf (Value.iface 39 (Value.int .i64 c19));let c22:=(f,c8,c10,g,e,h);let c23:=(ByteArray.mk #[],(0:Int),(0:Int),(0:Int),(0:Int),(0:Int));let c24:=2-r;true/\(Da n p o d t k xs->1=1/\Dk xs<=Dk u/\(∃(x:List Stop×Int×Int),let c25:=x.2;let c26:=x.1;let c27:=rU n r c26;QR n b o d t x/\L7 1 0 0 (o=c25.1/\d=d/\t=c25.2/\(0:Int)=(0:Int)/\1=Df c26+1/\L3 f c8 c10 g e h r c17 b (G=G/\k=Dk xs+Dk c27/\xs=Ef xs c27/\T7 1 (Dk xs))))/\∀(x:List (Int×Int×Int×Int)×Int×Int),let c28:=x.2;let i:=c28.1;let c30:=Dw i d;let c31:=Du b (Dc i) [];let c32:=Du c31 (Dc d) 0;let c33:=Ec c32 (-1);let c34:=c28.2;let X:=aH c22 i c34;let c36:=Ei X 2000000;let c37:=aC c22 i;let c38:=c37.1;let c39:=c37.2;let c40:=c39.1;let c41:=c39.2;let c42:=(c38,c40,c41);let c43:=(Du e (Dc c32) c23).2.2;let c44:=c43.2;let c45:=c44.1;let c46:=mB c42 c45 X;let c47:=isZero c46;let c48:=x.1;let c49:=Df c48;let c50:=c49+1;let c51:=Ec c50 20;let c52:=iY c42 c45 X;let c53:=[bE c38 c52];let c54:=rU n r c48;let V:=Ef xs c54;let c56:=Dk xs+Dk c54;let c57:=upR c53 c24 (Df c53);let c58:=Ef V c57;let c59:=c52+c44.2.1;let c60:=c50+1;
  QR n b o d t x->(c30->T2 1 1 1 1 0 (0<=i/\i<Df b/\0<=d/\d<Df c31/\(c33->(true->True/\(false=false->T=false/\true/\chainOf (Value.iface 39 (Value.int IntKind.i64 (170:Int)))=c21))/\True)/\(c33=false->gA c22 i c34/\(c36->(true->True/\(false=false->T=false/\true/\chainOf (Value.iface 39 (Value.int .i64 (1:Int)))=c21))/\True)/\(c36=false->T2 1 1 1 1 0 (0<=c32/\c32<Df e/\L5 1 0 (nH c22 i/\T4 1 0 1 0 1 1 0 (Lr c42 c45 X/\(true->True/\(c47=false->T=false/\true/\chainOf (Value.iface 39 (Value.int .i64 c46))=c21))/\((true->c47)->(True/\c47)/\(c51->(true->True/\(false=false->T=false/\true/\chainOf (Value.iface 39 (Value.int .i64 (170:Int)))=c21))/\True)/\(c51=false->L5 1 0 (dW c38 c40 c41 c52/\T2 1 1 1 1 0 (inR .i64 c24/\rsP c24 c53 V c56/\1=1/\Dk V<=Dk c58/\T6 1 1 0 1 1 0 (inR .i64 c59/\inR .i64 c60/\∃(y:List Stop×Int×Int),let c61:=y.2;let c62:=y.1;let c63:=Df c62;let c64:=rU n r c62;QR n b o d t y/\(L7 1 0 0 (c43.1=c61.1/\d=d/\c59=c61.2/\(0:Int)=(0:Int)/\c60=c63+1/\L3 f c8 c10 g e h r c17 b (G=G/\c56+Dk c57=Dk xs+Dk c64/\c58=Ef xs c64/\T7 1 (Dk xs))))/\Dc (20-c63)<Dc (20-c49)))))))))))))/\(c30=false->T/\c34=zv n p o d t/\L3 f c8 c10 g e h r c17 b (G=G/\c56=k+Dk j/\V=u/\T7 1 (Dk xs))))) ⟨rfl,λhp=>?_⟩
 obtain⟨hp,hp1,hk,hxl⟩:=hp;have eN:(n.1,n.2.1,n.2.2.1,n.2.2.2.1,n.2.2.2.2.1,n.2.2.2.2.2)=n:=rfl;have eC:∀c:Int×List Bool×Li,(c.1,c.2.1,c.2.2)=c:=λ_=>rfl
 have eX:∀l:Int,n.2.2.2.2.1.getD l.toNat (⟨#[]⟩,0,0,0,0,0)=rS n l:=λ_=>rfl
 have eM:∀u:Int,(p.2.2.1.getD u.toNat []).getD d.toNat 0=nxt p.2.2.1 u d:=λ_=>rfl
 have eU:∀x b:Int,upR [x] b (([x]:Li).length:Int)=[x+b]:=λ_ _=>rfl
 refine Z9 ?_;simp only[qc,eN,eC,eX,eM,eU];refine⟨by rw[qF];omega,⟨([],o,t),⟨hp,by simp,(D9 19 o t).symm⟩,rfl,rfl,rfl,by rw[hk];rfl,(vY _).symm⟩,?_⟩;rintro⟨l,u,v⟩ hx;simp only;generalize f:nxt p.2.2.1 u d=g at *;obtain⟨⟨hs,ht,u0,u1,o0,o1,v0,v1⟩,hd,hw⟩:=hx;simp only at u0 u1 o0 o1 v0 v1 hd hw;have hno:noF n=true:=aS n.1 n.2.1 n.2.2.1 n.2.2.2.1 n.2.2.2.2.1 n.2.2.2.2.2 hs
 obtain⟨c1,c2,c3⟩:(p.2.2.1.length:Int)=n.2.2.2.1.length/\((p.2.2.1.getD u.toNat []).length:Int)=n.2.2.2.1.length/\(nxt p.2.2.1 u d≠-1->(0<=nxt p.2.2.1 u d/\nxt p.2.2.1 u d<n.2.2.2.2.1.length)/\b7 n (nxt p.2.2.1 u d)=u):=dY n.1 n.2.1 n.2.2.1 n.2.2.2.1 n.2.2.2.2.1 n.2.2.2.2.2 ht u0 u1 o0 o1;rw[f]at c3;have L:nH n u:=⟨hno,u0,u1⟩;have hr:gA n u v:=⟨L,Z,Z⟩
 obtain⟨_,_,r1,r2⟩:inR .i64 ((bI n u).2.2.2.2.1*(bI n u).2.2.2.2.2.1)/\inR .i64 (aH n u v)/\v<=aH n u v/\aH n u v<=v+960:=v8 n.1 n.2.1 n.2.2.1 n.2.2.2.1 n.2.2.2.2.1 n.2.2.2.2.2 hr;have hE:iS n p.2.2.1 o d t=(A7 l (lH n p.2.2.1 d (19-l.length) u v)).2:=by unfold iS;rw[hw]
 have hL:mD n p.2.2.1 o d t=(A7 l (lH n p.2.2.1 d (19-l.length) u v)).1:=by unfold mD;rw[hw]
 have z:∀e:Int,e≠0->lH n p.2.2.1 d (19-l.length) u v=([],e)->iS n p.2.2.1 o d t=e:=λe he h=>by rw[hE,h];unfold A7;rw[if_neg he]
 refine⟨λO=>⟨u0,by rw[c1];exact u1,o0,by rw[c2];exact o1,λhm=>?_,λhm=>⟨hr,λhgt=>?_,λhle=>?_⟩⟩,λhe=>?_⟩
 .rw[z 170 (by decide) (mC _ O (f.trans hm))];exact⟨rfl,rfl⟩
 .have e1:uN n g (aH n u v)=1:=if_neg (by unfold ct;rw[qE];omega);rw[z 1 (by decide) ((ru _ O (by rw[f];exact hm) (by rw[f,e1];decide)).trans (by rw[f,e1]))];exact⟨rfl,rfl⟩
 .obtain⟨⟨l0,l1⟩,lf⟩:=c3 hm;have hlin:T9 n g:=⟨hno,l0,l1⟩;obtain⟨g1,g2,g3,g4,g5,g6,g7,g8⟩:0<=b7 n g/\b7 n g<n.2.2.2.1.length/\0<=JD n g/\JD n g<n.2.2.2.1.length/\0<=Ai n g/\Ai n g<=1439/\1<=iW n g/\iW n g<=5000:=Bo n.1 n.2.1 n.2.2.1 n.2.2.2.1 n.2.2.2.2.1 n.2.2.2.2.2 hlin;have htm:ct (aH n u v)=true:=by unfold ct;rw[qE];omega
  have eE:uN n g (aH n u v)=mB (aC n u) (rS n g).2.2.2.1 (aH n u v):=by unfold uN;rw[if_pos htm,lf];rfl
  have eD:uA n g (aH n u v)=iY (aC n u) (rS n g).2.2.2.1 (aH n u v):=by unfold uA;rw[if_pos htm,lf];rfl
  have hv:ay (aC n u).1 (aC n u).2.1 (aC n u).2.2=true:=(gC n.1 n.2.1 n.2.2.1 n.2.2.2.1 n.2.2.2.2.1 n.2.2.2.2.2 L).2.2.1;have g5':0<=(rS n g).2.2.2.1:=g5;have g6':(rS n g).2.2.2.1<=1439:=g6;have g7':1<=(rS n g).2.2.2.2.1:=g7;have g8':(rS n g).2.2.2.2.1<=5000:=g8;refine⟨l0,l1,L,⟨hv,Z,Z,Z,Z⟩,λhz=>?_,λhz=>⟨hz,λh20=>?_,λh20=>?_⟩⟩
  .have j:=gi.1 hz;rw[z _ j ((ru _ O (by rw[f];exact hm) (by rw[f,eE];exact j)).trans (by rw[f,eE]))];exact⟨hz,rfl⟩
  .have j:=dR.1 hz;rw[z 170 (by decide) (by rw[show 19-l.length=0 by omega];exact pu O (by rw[f];exact hm) (by rw[f,eE];exact j))];exact⟨rfl,rfl⟩
  .have j:=dR.1 hz;obtain⟨b1,b2⟩:=lS hv j g5' g6';have hnx:=pq (n:=n) (nx:=p.2.2.1) (to:=d) (o:=u) (t:=v) (19-(l.length+1)) O (by rw[f];exact hm) (by rw[f,eE];exact j);rw[show 19-(l.length+1)+1=19-l.length by omega,f,eD]at hnx;have lD:(rU n p.1 l).length=l.length:=by unfold rU;rw[qY]
   generalize hq:iY (aC n u) (rS n g).2.2.2.1 (aH n u v)=q at *;have lA:rU n p.1 (l++[(u,v,q,g)])=rU n p.1 l++[bE (aC n u).1 q+(2-p.1)]:=by unfold rU aIG;rw[zZ];rfl
   have dq:-1000000<=bE (aC n u).1 q/\bE (aC n u).1 q<=1000000:=by
    obtain⟨⟨z1,z2,_,_⟩,_⟩:=bM.1 hv;unfold bE;omega
   refine⟨⟨hv,Z,Z⟩,aB Z,⟨⟨by rw[qF],by rw[qF,lD];show _+1<=_;omega⟩,Z,Z,λx hx=>by rw[vG]at hx;omega⟩,by simp only[qF];omega,aB Z,aB Z,
    (l++[(u,v,q,g)],JD n g,q+iW n g),⟨⟨hs,ht,g3,g4,o0,o1,by simp only;omega,by simp only;omega⟩,by simp;omega,?_⟩,⟨rfl,rfl,by simp,by rw[lA];simp;omega,by rw[lA,wG]⟩,by simp;omega⟩
   show lH n p.2.2.1 d 19 o t=_;rw[hw,hnx,uD];simp
 .rw[Gq _ he]at hE hL;have hL':mD n p.2.2.1 o d t=l++[(u,v,-1,-1)]:=hL;have eG:QY n p o d t=rU n p.1 l:=by unfold QY;rw[hL',List.dropLast_concat]
  have eT:zv n p o d t=v:=by unfold zv;rw[hL'];simp
  have hE':iS n p.2.2.1 o d t=0:=hE;rw[hE',eG,eT];exact⟨rfl,rfl,Z,rfl⟩
def gD(c:Int×List Bool×Li)(m b:Int): Nat->Int->Li
 | 0,_=>[]
 | f+1,t=>if mB c m t=0 then if iY c m t<b then iY c m t::gD c m b f (iY c m t+1)else[]else[]
def fT(p:Plan): Nat:=(1440*(p.2.1-p.1)).toNat+1
def VU(n:Net)(p:Plan)(c o:Int)(f:Nat)(t:Int): Li:=gD (aC n o) (bF n c).2.1 (1440*p.2.1) f t
def ni(n:Net)(p:Plan)(c o:Int): Li:=VU n p c o (fT p) (1440*p.1)
def Ap(n:Net)(p:Plan)(c o:Int): Prop:=nH n o/\F8 n c/\k9 p=true
def CQ(n:Net)(p:Plan)(c o:Int)(x:Nat×Int): Prop:=(1440*p.1+x.1<=x.2/\x.2<=1440*p.2.1)/\x.1<=(ni n p c o).length/\(ni n p c o).drop x.1=VU n p c o (fT p-x.1) x.2
def aHF: AV->AV
 | .pin u a=>.pin u a
 | .yld l=>.yld l
 | _=>.top
def aGl(n:Net)(p:Plan)(c o:Int): Jv:=⟨λb y=>match b with
 | 1=>some {α:=Nat×Int,inv:=λx=>CQ n p c o x,st:=λx=>⟨put {y.s with tm:=y.s.tm.map aHF} [(5,.dat I x.2)],x.1,true⟩,μ:=λx=>Dc (Di (Dq (Eh 1440 p.2.1) 1) x.2)}
 | _=>none,λ_ _=>none,λb=>b==2⟩
def aAk(c o:Int)(n:Net)(p:Plan): Jt Tryz.prog G0 206 [.ipv (.ips (wHd n p .top)),.ip I o,.ip I c] ⟨Ap n p c o,I,ni n p c o⟩:=by
 refine zL (c:=mkc KW3) (A:=aGl n p c o) aDb iI hm (p:=let A:=n.2.1;let r:=p.2.1;let G:=n.2.2.1;let h:=p.2.2;let g:=n.2.2.2;let L:=1440*p.1;let c21:=(aC n o);let c22:=(Du g.2.2 (Dc c) (ByteArray.mk #[],(0:Int),(0:Int))).2.1;let X:=1440*r;let c24:=ni n p c o;let V:=Dk c24;let f:=X+1;true/\true/\false=false/\∀(l:Nat) (u:Nat->Value),Ap n p c o->inR .i64 L/\(∃(x:Nat×Int),CQ n p c o x/\(l=l/\u 0=u 0/\n.1=n.1/\A=A/\G=G/\g.1=g.1/\g.2.1=g.2.1/\g.2.2=g.2.2/\p.1=p.1/\r=r/\h.1=h.1/\h.2=h.2/\u 1=u 1/\o=o/\u 2=u 2/\c=c/\L=x.2/\True)/\0=x.1/\true)/\∀(x:Nat×Int),let c27:=Dw (mB c21 c22 x.2) 0;let e:=Dj c27;let z:=e->e->e;let T:=iY c21 c22 x.2;let O:=Ea c27 true (Ed T X);let b:=Dj O;let c8:=Dh true b->b;let c32:=Ea O true (Dj true);let v:=x.1+1;let i:=T+1;let j:=Ea O true (Dj false);
  CQ n p c o x->nH n o/\0<=c/\c<Df g.2.2/\Lr c21 c22 x.2/\z/\z/\z/\z/\z/\(e->inR .i64 X)/\z/\z/\(Dh true e->e)/\(b->(b->b)/\(b->b)/\u 0=u 0/\u 1=u 1/\u 2=u 2/\l=l/\true/\m4 c24 x.1 T/\(c8/\(c32->true->v=V)/\(c32=false->inR .i64 i/\∃(y:Nat×Int),CQ n p c o y/\((l=l/\u 0=u 0/\n.1=n.1/\A=A/\G=G/\g.1=g.1/\g.2.1=g.2.1/\g.2.2=g.2.2/\p.1=p.1/\r=r/\h.1=h.1/\h.2=h.2/\u 1=u 1/\o=o/\u 2=u 2/\c=c/\i=y.2/\True)/\v=y.1/\true)/\Dc (f-y.2)<Dc (f-x.2)))/\c8/\(j->false->v=V)/\(j=false->inR .i64 i/\∃(y:Nat×Int),CQ n p c o y/\(False/\v=y.1/\false)/\Dc (f-y.2)<Dc (f-x.2)))/\(b=false->(b->b->b)/\c8/\(j->true->x.1=V)/\(j=false->inR .i64 i/\∃(y:Nat×Int),CQ n p c o y/\((l=l/\u 0=u 0/\n.1=n.1/\A=A/\G=G/\g.1=g.1/\g.2.1=g.2.1/\g.2.2=g.2.2/\p.1=p.1/\r=r/\h.1=h.1/\h.2=h.2/\u 1=u 1/\o=o/\u 2=u 2/\c=c/\i=y.2/\True)/\x.1=y.1/\true)/\Dc (f-y.2)<Dc (f-x.2)))) ⟨rfl,rfl,rfl,λl u ⟨g,L,hR⟩=>?_⟩
 have eN:(n.1,n.2.1,n.2.2.1,n.2.2.2.1,n.2.2.2.2.1,n.2.2.2.2.2)=n:=rfl;have eC:∀c:Int×List Bool×Li,(c.1,c.2.1,c.2.2)=c:=λ_=>rfl
 have eK:n.2.2.2.2.2.getD c.toNat (⟨#[]⟩,0,0)=bF n c:=rfl;have hR':0<=p.1/\p.1<p.2.1/\p.2.1<=600/\p.2.1-p.1<=60:=vN hR;have hv:ay (aC n o).1 (aC n o).2.1 (aC n o).2.2=true:=(gC n.1 n.2.1 n.2.2.1 n.2.2.2.1 n.2.2.2.2.1 n.2.2.2.2.2 g).2.2.1;obtain⟨⟨m0,m1⟩,_⟩:=oG n.1 n.2.1 n.2.2.1 n.2.2.2.1 n.2.2.2.2.1 n.2.2.2.2.2 g.1 L;have m0:0<=(bF n c).2.1:=m0;have m1:(bF n c).2.1<=1439:=m1
 simp only[qc,Dh,Eu,Dj,qd,Dt,Ec,Dw,Dp,Ei,Ee,Ed,Ez,Df,Eo,Dl,Dn,Es,Dy,Dx,Di,Dq,Eh,Fh,Dc,Dz,Dk,Eb,Ej,Du,Ey,Ew,Em,Ef,Fg,Fj,Fe,Et,En,Ep,Fb,eN,eC,eK,yO,yR,wE,xM,false_and,and_false,exists_false,imp_false,qCt,reduceCtorEq];obtain⟨q,hq⟩:∃q,q=1440*p.1:=⟨_,rfl⟩;obtain⟨r,hr⟩:∃r,r=1440*p.2.1:=⟨_,rfl⟩;refine⟨aB zoo,⟨(0,1440*p.1),⟨⟨by simp only;omega,by simp only;omega⟩,zA _,rfl⟩,rfl,rfl⟩,?_⟩
 rintro⟨k,t⟩ ⟨⟨t0,t1⟩,k1,G⟩;simp only at t0 t1 k1 G ⊢;have hU:fT p-k=(fT p-(k+1))+1:=by unfold fT;omega
 have hst:VU n p c o (fT p-k) t=if mB (aC n o) (bF n c).2.1 t=0 then if iY (aC n o) (bF n c).2.1 t<1440*p.2.1 then iY (aC n o) (bF n c).2.1 t::VU n p c o (fT p-(k+1)) (iY (aC n o) (bF n c).2.1 t+1)else[]else[]:=by rw[hU];rfl
 rw[hst]at G;have z:∀{l:Li},(ni n p c o).drop k=l->(ni n p c o).length=k+l.length:=λh=>by
  have:=yP List.length h;rw[wJ]at this;omega
 refine⟨g,L.1,L.2,⟨hv,m0,zoo,zoo,zoo⟩,λ_=>aB zoo,λ⟨h1,h2⟩=>?_,λh _=>?_⟩
 .have h2':iY (aC n o) (bF n c).2.1 t<1440*p.2.1:=by omega
  obtain⟨b1,b2⟩:=lS hv h1 m0 m1;rw[if_pos h1,if_pos h2']at G;have hl:=z G;rw[wS]at hl;refine⟨?_,λh=>absurd h zoo,λ_=>⟨aB zoo,(k+1,iY (aC n o) (bF n c).2.1 t+1),⟨⟨by simp only;omega,by simp only;omega⟩,by simp only;omega,?_⟩,⟨rfl,rfl⟩,by simp only;omega⟩⟩
  .show(ni n p c o)[k]?=some _;have:=yP (λl=>l[0]?) G;simpa[vJ]using this
  .show(ni n p c o).drop (k+1)=_;have:=yP (List.drop 1) G
   rwa [yX]at this
 .have:(ni n p c o).drop k=[]:=by
   rw[G];by_cases h1:mB (aC n o) (bF n c).2.1 t=0
   .rw[if_pos h1,if_neg zoo]
   .rw[if_neg h1]
  have hl:=z this;rw[xI]at hl;omega
def U7{n:Net}{p:Plan}{c o:Int}(h:Ap n p c o): (ni n p c o).length<=86401:=by
 have g:0<=p.1/\p.1<p.2.1/\p.2.1<=600/\p.2.1-p.1<=60:=vN h.2.2;have:∀(f:Nat) (t:Int),(VU n p c o f t).length<=f:=λf=>by
  induction f with
  | zero=>intro t;exact qJ _
  | succ f b=>
   intro t;have e:VU n p c o (f+1) t=if mB (aC n o) (bF n c).2.1 t=0 then if iY (aC n o) (bF n c).2.1 t<1440*p.2.1 then iY (aC n o) (bF n c).2.1 t::VU n p c o f (iY (aC n o) (bF n c).2.1 t+1)else[]else[]:=rfl
   rw[e];split
   .split
    .rw[wS];exact qCf (b _)
    .exact zA _
   .exact zA _
 refine wH (this _ _) ?_;unfold fT;omega
def U6{n:Net}{p:Plan}{c o x:Int}(h:Ap n p c o)(j:x∈ni n p c o): 1440*p.1<=x/\x<1440*p.2.1:=by
 have r:ay (aC n o).1 (aC n o).2.1 (aC n o).2.2=true:=(gC n.1 n.2.1 n.2.2.1 n.2.2.2.1 n.2.2.2.2.1 n.2.2.2.2.2 h.1).2.2.1;obtain⟨⟨g,b⟩,_⟩:=oG n.1 n.2.1 n.2.2.1 n.2.2.2.1 n.2.2.2.2.1 n.2.2.2.2.2 h.1.1 h.2.1;have g:0<=(bF n c).2.1:=g;have b:(bF n c).2.1<=1439:=b;have:∀(f:Nat) (t:Int),x∈VU n p c o f t->t<=x/\x<1440*p.2.1:=λf=>by
  induction f with
  | zero=>intro t h;cases h
  | succ f i=>
   intro t h;have e:VU n p c o (f+1) t=if mB (aC n o) (bF n c).2.1 t=0 then if iY (aC n o) (bF n c).2.1 t<1440*p.2.1 then iY (aC n o) (bF n c).2.1 t::VU n p c o f (iY (aC n o) (bF n c).2.1 t+1)else[]else[]:=rfl
   rw[e]at h;split at h
   .rename_i u;obtain⟨v,y⟩:=lS r u g b;split at h
    .rcases zK.1 h with rfl | h
     .exact⟨v,by assumption⟩
     .have:=i _ h;omega
    .cases h
   .cases h
 exact this _ _ j
def ly(p:Plan)(k o d:Int): Int:=((p.2.2.2.getD k.toNat []).getD o.toNat []).getD d.toNat 0
def aID(n:Net)(p:Plan)(o d cut:Int): Int:=aH n d (zv n p o d cut)
def aIK(n:Net)(p:Plan)(c o d cut:Int): Int:=iY (aC n d) (bF n c).2.2 (aID n p o d cut)
def F7(n:Net)(p:Plan)(c o d cut:Int): Int:=mB (aC n d) (bF n c).2.2 (aID n p o d cut)
def YX(n:Net)(p:Plan)(c o d cut:Int): Int:=iP (aC n d).2.1 (aC n d).2.2 (bE (aC n d).1 cut) (bE (aC n d).1 (aIK n p c o d cut))
def I4(n:Net)(p:Plan)(c o d cut:Int): Int:=if iS n p.2.2.1 o d cut≠0 then iS n p.2.2.1 o d cut else if F7 n p c o d cut≠0 then F7 n p c o d cut else if YX n p c o d cut>ly p c o d then 190 else 0
def Ls(l:Li): Int:=(l.find? λe=>decide (e≠0)).getD 0
def jJ(n:Net)(p:Plan)(c o d:Int): Int:=Ls ((ni n p c o).map (I4 n p c o d))
def oU(n:Net)(p:Plan)(c o d:Int)(j:Nat): Li:=((ni n p c o).take j).flatMap (QY n p o d)
def keepA(n:Net)(p:Plan)(c o d:Int): Li:=oU n p c o d (ni n p c o).length
def uo(n:Net)(p:Plan): Prop:=aR n=true/\iN n p=true
def ou(n:Net)(p:Plan)(c o d:Int)(k:Nat)(xs:Li): Prop:=(uo n p/\F8 n c/\nH n o/\nH n d)/\xs.length=k/\xs.length<=900000000000
def tO(n:Net)(p:Plan)(c o d:Int)(k:Nat)(xs:Li)(j:Nat): Prop:=ou n p c o d k xs/\j<=(ni n p c o).length/\∀i:Nat,i<j->I4 n p c o d ((ni n p c o).getD i 0)=0
def KIW: FuncId->List AV->Option jF:=λf b=>if f=206+Aj then match b with
  | [.ipv x,.ip (.int .i64) o,.ip (.int .i64) c]=>match asI x with
   | some (n,p)=>some ⟨Ap n p c o,I,ni n p c o⟩
   | none=>none
  | _=>none
 else none
def KW6: Kt:=kOr 135 (wK [.mp 2,.val I,.val I,.val I] (λ(_,o,d,t,_) n p k b=>Da n p o d t k b/\isZero (iS n p.2.2.1 o d t)=true) (λ(_,o,d,t,_) n p=>.dat I (zv n p o d t)) λ(_,o,d,t,_) n p=>QY n p o d t) KW4
def aIq: KPt:=pOr 135 (wP [.mp 2,.val I,.val I,.val I] λ(_,o,d,t,_) n p k b=>⟨Da n p o d t k b,isZero (iS n p.2.2.1 o d t),zx 39 (iS n p.2.2.1 o d t)⟩) aIr
def aHV: Cfg:=⟨Tryz.prog,G0,KW6,λ_=>false,KIW,true,aIq,λf=>f==137||f==135⟩
def aDf(n:Net)(p:Plan)(c o d:Int)(k:Nat)(xs:Li): Ann:=Z8 2 Nat (tO n p c o d k xs) (λs j=>{flat s with mem:=Jy n p (Eb (Dk xs) (Dk (oU n p c o d j))) (Ef xs (oU n p c o d j))}) λj=>j
def EX{l:Li}{j:Nat}(b:j<l.length)(f:∀i:Nat,i<j->l.getD i 0=0)(e:l.getD j 0≠0): Ls l=l.getD j 0:=by
 induction l generalizing j with
 | nil=>simp at b
 | cons x l g=>
  unfold Ls;rw[gY];cases j with
  | zero=>
   have:x≠0:=e;rw[qW this];rfl
  | succ j=>
   have h:x=0:=f 0 Z;rw[vC (by rw[h];decide)];exact g (by simpa using b) (λi r=>by simpa using f (i+1) Z) (by simpa using e)
def qx{l:Li}(h:∀i:Nat,i<l.length->l.getD i 0=0): Ls l=0:=by
 unfold Ls;have:l.find? (λe=>decide (e≠0))=none:=by
  rw[qBw];intro x f;obtain⟨i,b,rfl⟩:=wZ.1 f;have:=h i b;rw[qA,qB b,qK]at this;simp[this]
 rw[this];rfl
def lT{l:Li}(h:Ls l=0): ∀x∈l,x=0:=by
 intro x u;obtain⟨i,g,rfl⟩:=wZ.1 u;induction i using Nat.strongRecOn with
 | ind i r=>
  have e:∀j (f:j<l.length),l.getD j 0=l[j]:=λj f=>by rw[qA,qB f,qK]
  rw[<- e i g];refine Decidable.byContradiction λb=>?_
  have:=EX g (λj f=>by rw[e j Z];exact r j f Z (wL _)) b;exact b (this.symm.trans h)
def iD{n:Net}{p:Plan}(h:iN n p=true): k9 p=true/\mf n p.2.2.1=true/\nY n p=true:=by
 unfold iN at h;simpa only[qC]using h
def U2{n:Net}{p:Plan}(h:nY n p=true){c o d:Int}(g:F8 n c)(x:0<=o)(v:o<n.2.2.2.1.length)(A:0<=d)(z:d<n.2.2.2.1.length):
  (c<p.2.2.2.length/\o<(p.2.2.2.getD c.toNat []).length/\d<((p.2.2.2.getD c.toNat []).getD o.toNat []).length)/\-1<=ly p c o d/\ly p c o d<=65518:=by
 obtain⟨c0,c1⟩:=g;unfold nY at h;simp only[qC,qE,qO]at h;obtain⟨y,u⟩:=h;have e:=u _ (getD_mem (l:=p.2.2.2) (i:=c.toNat) (d:=[]) Z);have r:((p.2.2.2.getD c.toNat []).length:Int)=n.2.2.2.1.length:=by
  unfold sgF at e;simp only[qC,qE]at e;exact e.1
 have b:=(G4 r).1 e o.toNat Z;have j:(((p.2.2.2.getD c.toNat []).getD o.toNat []).length:Int)=n.2.2.2.1.length:=by
  unfold sgR at b;simp only[qC,qE]at b;exact b.1
 have f:jb ((o.toNat:Nat):Int) (ly p c o d)=true:=(JZ j).1 b d.toNat Z;unfold jb fY at f;rw[qE]at f;exact⟨⟨Z,Z,Z⟩,f⟩
def C9{n:Net}{nx:Lj}{to:Int}: ∀(k:Nat) (o t:Int),Jw n nx o to t->(lH n nx to k o t).2=0->
  (lH n nx to k o t).1.length<=k+1/\(lH n nx to k o t).1≠[]/\t<=((lH n nx to k o t).1.getLastD (0,0,0,0)).2.1/\((lH n nx to k o t).1.getLastD (0,0,0,0)).2.1<=2200000
 | k,o,t,V,h=>by
  obtain⟨G,A,u,r,x,v,X,L⟩:=id V;by_cases f:o=to
  .rw[Gq k f];exact⟨by simp,by simp,qH _,L⟩
  by_cases hm:nxt nx o to=-1
  .rw[mC k f hm]at h;cases h
  by_cases g:uN n (nxt nx o to) (aH n o t)=0
  case neg=>rw[ru k f hm g]at h;exact absurd h g
  cases k with
  | zero=>rw[pu f hm g]at h;cases h
  | succ k=>
   have e:noF n=true:=aS n.1 n.2.1 n.2.2.1 n.2.2.2.1 n.2.2.2.2.1 n.2.2.2.2.2 G;obtain⟨_,_,c3⟩:(nx.length:Int)=n.2.2.2.1.length/\((nx.getD o.toNat []).length:Int)=n.2.2.2.1.length/\(nxt nx o to≠-1->(0<=nxt nx o to/\nxt nx o to<n.2.2.2.2.1.length)/\b7 n (nxt nx o to)=o):=dY n.1 n.2.1 n.2.2.1 n.2.2.2.1 n.2.2.2.2.1 n.2.2.2.2.2 A u r x v;obtain⟨⟨T,O⟩,lf⟩:=c3 hm;have b:T9 n (nxt nx o to):=⟨e,T,O⟩
   obtain⟨g1,g2,g3,g4,g5,g6,g7,g8⟩:0<=b7 n (nxt nx o to)/\b7 n (nxt nx o to)<n.2.2.2.1.length/\0<=JD n (nxt nx o to)/\JD n (nxt nx o to)<n.2.2.2.1.length/\0<=Ai n (nxt nx o to)/\Ai n (nxt nx o to)<=1439/\1<=iW n (nxt nx o to)/\iW n (nxt nx o to)<=5000:=Bo n.1 n.2.1 n.2.2.1 n.2.2.2.1 n.2.2.2.2.1 n.2.2.2.2.2 b
   obtain⟨b1,b2,b3,b4⟩:0<=aH n o t/\aH n o t<=2000000/\aH n o t<=uA n (nxt nx o to) (aH n o t)/\uA n (nxt nx o to) (aH n o t)<=aH n o t+90000:=sg n.1 n.2.1 n.2.2.1 n.2.2.2.1 n.2.2.2.2.1 n.2.2.2.2.2 b g;obtain⟨_,_,r1,r2⟩:inR .i64 ((bI n o).2.2.2.2.1*(bI n o).2.2.2.2.2.1)/\inR .i64 (aH n o t)/\t<=aH n o t/\aH n o t<=t+960:=v8 n.1 n.2.1 n.2.2.1 n.2.2.2.1 n.2.2.2.2.1 n.2.2.2.2.2 ⟨⟨e,u,r⟩,Z,Z⟩
   rw[pq k f hm g]at h ⊢;by_cases j:(lH n nx to k (JD n (nxt nx o to)) (uA n (nxt nx o to) (aH n o t)+iW n (nxt nx o to))).2=0
   case neg=>rw[MY j]at h;exact absurd h j
   obtain⟨i1,i,z,y⟩:=C9 k _ _ ⟨G,A,g3,g4,x,v,Z,Z⟩ j;rw[Kp j];refine⟨by simp;omega,by simp,?_,?_⟩
   .show t<=(([_]++(lH n nx to k _ _).1).getLastD (0,0,0,0)).2.1;rw[List.singleton_append,List.getLastD_cons,kZ,gU i];rw[kZ,gU i]at z;simp only[qK]at z ⊢;omega
   .show(([_]++(lH n nx to k _ _).1).getLastD (0,0,0,0)).2.1<=_;rw[List.singleton_append,List.getLastD_cons,kZ,gU i];rw[kZ,gU i]at y;exact y
def L1{n:Net}{p:Plan}{o d t:Int}(b:Jw n p.2.2.1 o d t)(h:iS n p.2.2.1 o d t=0): (QY n p o d t).length<=19/\t<=zv n p o d t/\zv n p o d t<=2200000:=by
 obtain⟨g,_,f,e⟩:=C9 19 o t b h;refine⟨?_,f,e⟩;unfold QY rU;rw[qY,List.length_dropLast];show(lH n p.2.2.1 d 19 o t).1.length-1<=19;omega
def U4{n:Net}{p:Plan}{c o d x:Int}(e:uo n p)(b:Ap n p c o)(hd:nH n d)(f:x∈ni n p c o): Jw n p.2.2.1 o d x:=by
 obtain⟨i,h⟩:=U6 b f;have g:0<=p.1/\p.1<p.2.1/\p.2.1<=600/\p.2.1-p.1<=60:=vN b.2.2;exact⟨e.1,(iD e.2).2.1,b.1.2.1,b.1.2.2,hd.2.1,hd.2.2,Z,Z⟩
def YO{n:Net}{p:Plan}{c o d x:Int}(h:I4 n p c o d x=0): iS n p.2.2.1 o d x=0/\F7 n p c o d x=0/\YX n p c o d x<=ly p c o d:=by
 unfold I4 at h;by_cases e:iS n p.2.2.1 o d x=0
 .rw[if_neg (λg=>g e)]at h;by_cases b:F7 n p c o d x=0
  .rw[if_neg (λg=>g b)]at h;split at h
   .cases h
   .exact⟨e,b,Z⟩
  .rw[if_pos b]at h;exact absurd h b
 .rw[if_pos e]at h;exact absurd h e
def yh{n:Net}{p:Plan}{c o d:Int}{k:Nat}{xs:Li}: ∀{j:Nat},tO n p c o d k xs j->(oU n p c o d j).length<=19*j
 | 0,_=>by unfold oU;simp
 | j+1,⟨b,h,e⟩=>by
  have f:=yh (j:=j) ⟨b,Z,λi r=>e i Z⟩;have g:Ap n p c o:=⟨b.1.2.2.1,b.1.2.1,(iD b.1.1.2).1⟩;have hm:(ni n p c o).getD j 0∈ni n p c o:=getD_mem Z;have:=(L1 (U4 b.1.1 g b.1.2.2.2 hm) (YO (e j Z)).1).1;unfold oU at f ⊢;rw[wU,qAq,qF,qB (show j<(ni n p c o).length by omega)];rw[qA,qB (show j<(ni n p c o).length by omega),qK]at this;simp only[qAy,qAf,qDi,vY];omega
def aJW: ai Tryz.prog G0 KW6:=af (V6 λ(_,o,d,t,_) n p k b=>(Zv o d t k b n p).1) aGd
def VK: bJ Tryz.prog G0 aIq:=jt (aDk λ(_,o,d,t,_) n p k b=>(Zv o d t k b n p).2) VL
def aCU{P:Program}{G:List (Nat×AV)}{g N:Nat}{b:List AV}{e:jF}(h:Jt P G g b e): if g+N<N then mA P G (g+N) b e else Jt P G (g+N-N) b e:=by
 rw[if_neg Z,Nat.add_sub_cancel];exact h
def aFB: bf Tryz.prog G0 KIW:=by
 unfold bf KIW;generalize Aj=N;intro f b i h;split at h
 case isFalse=>cases h
 rename_i g;split at h
 case h_2=>cases h
 rename_i x o c;split at h
 case h_2=>cases h
 rename_i n p e;cases h;subst g;rw[gS e];exact aCU (aAk c o n p)
def Rk(c o d:Int)(k:Nat)(xs:Li)(n:Net)(p:Plan): ah Tryz.prog G0 68 [.ptr 2 1 0 0,.dat I c,.dat I o,.dat I d] (Jy n p k xs) ⟨ou n p c o d k xs/\isZero (jJ n p c o d)=true,.tup [],Jy n p (Eb k (Dk (keepA n p c o d))) (Ef xs (keepA n p c o d))⟩/\
  dt Tryz.prog G0 68 [.ptr 2 1 0 0,.dat I c,.dat I o,.dat I d] (Jy n p k xs) ⟨ou n p c o d k xs,isZero (jJ n p c o d),zx 39 (jJ n p c o d)⟩:=by
 refine zM (c:=aHV) (A:=(aDf n p c o d k xs)) (q:=⟨ou n p c o d k xs,isZero (jJ n p c o d),zx 39 (jJ n p c o d)⟩) aJW aFB hm VK (p:=let c10:=Ty.int IntKind.i64;let e:=Ty.int .i64;let h:=n.2.1;let i:=p.2.1;let j:=n.2.2.1;let g:=p.2.2;let f:=n.2.2.2;let c8:=AV.ips [AV.dat (e.pair (Ty.bool.sl.pair e.sl)).sl n.1,AV.dat Ty.str.sl h,AV.dat Ty.str.sl j,AV.dat (Ty.str.pair (e.pair (e.pair (e.pair (e.pair (c10.pair Ty.str.sl)))))).sl f.1,AV.dat (Ty.str.pair (e.pair (e.pair (e.pair (c10.pair e))))).sl f.2.1,AV.dat (Ty.str.pair (e.pair e)).sl f.2.2,AV.dat e p.1,AV.dat e i,AV.dat e.sl.sl g.1,AV.dat e.sl.sl.sl g.2,AV.top];let r:=keepA n p c o d;let u:=Ef xs r;let c21:=ni n p c o;let c22:=jJ n p c o d;let O:=isZero c22;let c24:=chainOf (Value.iface 39 (Value.int .i64 c22));let b:=aC n d;let L:=(Du f.2.2 (Dc c) (ByteArray.mk #[],(0:Int),(0:Int))).2.2;let c32:=Du g.2 (Dc c) (Dt (Li));let c33:=Du c32 (Dc o) [];true/\(ou n p c o d k xs->1=1/\Dk xs<=Dk u/\True/\true/\(∀(x:Nat),tO n p c o d k xs x->some [c8.ipv,AV.ip e o,AV.ip e c]=some [c8.ipv,AV.ip e o,AV.ip e c])/\Ap n p c o/\(∃x,let c34:=oU n p c o d x;tO n p c o d k xs x/\x=0/\L3 1 0 0 c o d 1 0 0 (L3 c o d 1 0 0 c o 1 (L3 0 0 o c n.1 h j f.1 f.2.1 (T2 f.2.2 p.1 i g.1 g.2 (k=Dk xs+Dk c34/\xs=Ef xs c34/\T7 1 (Dk xs))))))/\(∀(x:Nat),let c35:=oU n p c o d x;let c36:=Dk xs+Dk c35;let G:=Ef xs c35;∀(y:Int),let c38:=iS n g.1 o d y;let c39:=isZero c38;let c40:=QY n p o d y;let c41:=Ef G c40;let c42:=zv n p o d y;let v:=aH n d c42;let c44:=mB b L v;let X:=isZero c44;let c46:=iY b L v;let c47:=bE b.1 c46;
  let c48:=Ei (iP b.2.1 b.2.2 (bE b.1 y) c47) (Du c33 (Dc d) 0);tO n p c o d k xs x->m4 c21 x y->(true->Da n p o d y c36 G/\(c39=false->O=false/\true/\chainOf (Value.iface 39 (Value.int .i64 c38))=c24))/\((true->c39)->(Da n p o d y c36 G/\c39)/\1=1/\Dk G<=Dk c41/\nH n d/\L3 1 0 1 0 1 1 1 1 0 (0<=c/\c<Df f.2.2/\gA n d c42/\Lr b L v/\True/\(X->T4 1 0 1 1 1 1 0 (0<=c/\c<Df f.2.2/\gA n d c42/\Lr b L v/\(True/\X)/\L5 1 0 (dW b.1 b.2.1 b.2.2 y/\L5 1 0 (dW b.1 b.2.1 b.2.2 c46/\L5 1 0 (countP b.1 b.2.1 b.2.2 (bE b.1 y) c47/\T2 1 1 1 1 0 (0<=c/\c<Df g.2/\0<=o/\o<Df c32/\0<=d/\d<Df c33/\(c48->(true->True/\(false=false->O=false/\true/\chainOf (Value.iface 39 (Value.int .i64 (190:Int)))=c24))/\True)/\(c48=false->∃z,let c49:=oU n p c o d z;tO n p c o d k xs z/\z=x+1/\L3 1 0 0 c o d 1 0 0 (L3 c o d 1 0 0 c o 1 (L3 0 0 o c n.1 h j f.1 f.2.1 (T2 f.2.2 p.1 i g.1 g.2 (c36+Dk c40=Dk xs+Dk c49/\c41=Ef xs c49/\T7 1 (Dk xs))))))))))))/\(X=false->O=false/\true/\chainOf (Value.iface 39 (Value.int .i64 c44))=c24))))/\∀(x:Nat),let c50:=oU n p c o d x;tO n p c o d k xs x->x=Dk c21->O/\L3 n.1 h j f.1 f.2.1 f.2.2 p.1 i g.1 (g.2=g.2/\Dk xs+Dk c50=k+Dk r/\Ef xs c50=u/\T7 1 (Dk xs)))) ⟨rfl,λhp=>?_⟩
 have eN:(n.1,n.2.1,n.2.2.1,n.2.2.2.1,n.2.2.2.2.1,n.2.2.2.2.2)=n:=rfl;have eP:(p.1,p.2.1,p.2.2.1,p.2.2.2)=p:=rfl;have eC:∀c:Int×List Bool×Li,(c.1,c.2.1,c.2.2)=c:=λ_=>rfl
 have eK:n.2.2.2.2.2.getD c.toNat (⟨#[]⟩,0,0)=bF n c:=rfl;have eA:((p.2.2.2.getD c.toNat []).getD o.toNat []).getD d.toNat 0=ly p c o d:=rfl;refine Z9 ?_;simp only[qc,eN,eP,eC,eK,eA];obtain⟨⟨hpl,f,ho,hd⟩,hk,hxl⟩:=id hp;obtain⟨hR,hT,hDy⟩:=iD hpl.2;have hc:Ap n p c o:=⟨ho,f,hR⟩;have hR':0<=p.1/\p.1<p.2.1/\p.2.1<=600/\p.2.1-p.1<=60:=vN hR;have hlen:=U7 hc
 have hv:ay (aC n d).1 (aC n d).2.1 (aC n d).2.2=true:=(gC n.1 n.2.1 n.2.2.1 n.2.2.2.1 n.2.2.2.2.1 n.2.2.2.2.2 hd).2.2.1;obtain⟨⟨z1,z2,_,_⟩,_⟩:=bM.1 hv;obtain⟨_,⟨m0,m1⟩⟩:=oG n.1 n.2.1 n.2.2.1 n.2.2.2.1 n.2.2.2.2.1 n.2.2.2.2.2 hd.1 f;have m0:0<=(bF n c).2.2:=m0;have m1:(bF n c).2.2<=1439:=m1;obtain⟨⟨q1,q2,q3⟩,q4⟩:=U2 hDy f ho.2.1 ho.2.2 hd.2.1 hd.2.2
 have kE:∀(x:Nat),tO n p c o d k xs x->x<(ni n p c o).length->I4 n p c o d ((ni n p c o).getD x 0)≠0->jJ n p c o d=I4 n p c o d ((ni n p c o).getD x 0):=λx V hl hne=>by
  have eg:∀i:Nat,i<(ni n p c o).length->((ni n p c o).map (I4 n p c o d)).getD i 0=I4 n p c o d ((ni n p c o).getD i 0):=λi u=>by
   rw[qA,qR,qA,qB u];rfl
  unfold jJ;rw[EX (j:=x) (by rw[qY];exact hl) (λi u=>by rw[eg i Z];exact V.2.2 i u) (by rw[eg x hl];exact hne),eg x hl]
 refine⟨by rw[qF];omega,hc,⟨0,⟨hp,zA _,λi u=>Z⟩,rfl,by rw[hk];rfl,(vY _).symm⟩,λx y V hy=>?_,λx V hl=>?_⟩
 .have hy:(ni n p c o)[x]?=some y:=hy;have T:x<(ni n p c o).length:=(qG.1 hy).1;have ey:(ni n p c o).getD x 0=y:=by rw[qA,hy];rfl
  have hym:y∈ni n p c o:=zV hy;have kE:=kE x V T;rw[ey]at kE;obtain⟨y0,y1⟩:=U6 hc hym;have hgl:=yh V;have hwP:=U4 hpl hc hd hym;have hW:Da n p o d y (xs.length+(oU n p c o d x).length) (xs++oU n p c o d x):=⟨hwP,⟨Z,Z⟩,by rw[qF],by rw[qF];omega⟩;refine⟨⟨hW,λhz=>?_⟩,λhz=>?_⟩
  .have h:=gi.1 hz;have e:I4 n p c o d y=iS n p.2.2.1 o d y:=if_pos h;rw[kE (by rw[e];exact h),e];exact⟨hz,rfl⟩
  .have h:=dR.1 hz;obtain⟨_,w1,w2⟩:=L1 hwP h;have hr:gA n d (zv n p o d y):=⟨hd,Z,Z⟩;obtain⟨_,_,r1,r2⟩:inR .i64 ((bI n d).2.2.2.2.1*(bI n d).2.2.2.2.2.1)/\inR .i64 (aH n d (zv n p o d y))/\zv n p o d y<=aH n d (zv n p o d y)/\aH n d (zv n p o d y)<=zv n p o d y+960:=v8 n.1 n.2.1 n.2.2.1 n.2.2.2.1 n.2.2.2.2.1 n.2.2.2.2.2 hr
   have hf:Lr (aC n d) (bF n c).2.2 (aH n d (zv n p o d y)):=⟨hv,m0,Z,Z,Z⟩;refine⟨⟨hW,hz⟩,by simp only[qF];omega,hd,f.1,f.2,hr,hf,λh0=>?_,λh0=>?_⟩
   .have r:=dR.1 h0;obtain⟨b1,b2⟩:=lS hv r m0 m1;have dB:∀t:Int,0<=t->t<=3000000->bC (bE (aC n d).1 t)=true:=λt t0 t1=>dd (by unfold bE;omega) (by unfold bE;omega)
    refine⟨f.1,f.2,hr,hf,h0,⟨hv,Z,Z⟩,⟨hv,Z,Z⟩,⟨hv,dB _ Z Z,dB _ Z Z⟩,f.1,q1,ho.2.1,q2,hd.2.1,q3,λhgt=>?_,λhle=>?_⟩
    .have e:I4 n p c o d y=190:=by
      unfold I4;rw[if_neg (λg=>g h),if_neg (λg=>g (show F7 n p c o d y=0 from r)),if_pos (show YX n p c o d y>ly p c o d from hgt)]
     rw[kE (by rw[e];decide),e];exact⟨rfl,rfl⟩
    .have e:I4 n p c o d y=0:=by
      unfold I4;rw[if_neg (λg=>g h),if_neg (λg=>g (show F7 n p c o d y=0 from r)),if_neg (show ¬YX n p c o d y>ly p c o d from hle)]
     have eG:oU n p c o d (x+1)=oU n p c o d x++QY n p o d y:=by
      unfold oU;rw[wU,hy,qAq];simp
     refine⟨x+1,⟨hp,T,λi u=>?_⟩,rfl,by rw[eG,qF];omega,by rw[eG,wG]⟩;by_cases h3:i<x
     .exact V.2.2 i h3
     .have:i=x:=by omega
      rw[this,ey];exact e
   .have r:=gi.1 h0;have e:I4 n p c o d y=F7 n p c o d y:=by
     unfold I4;rw[if_neg (λg=>g h),if_pos (show F7 n p c o d y≠0 from r)]
    rw[kE (by rw[e];exact r),e];exact⟨h0,rfl⟩
 .have e:jJ n p c o d=0:=by
   unfold jJ;refine qx λi u=>?_
   rw[qY]at u;rw[qA,qR,qB u];have:=V.2.2 i Z;rw[qA,qB u]at this;exact this
  rw[e,hl];exact⟨rfl,by rw[hk];rfl,rfl⟩
end Go.Eng.Sv
set_option maxHeartbeats 4000000
namespace Go.Eng.Sv
open Go.Proofs
def up1(r:Li): Li:=upR r 1 (r.length:Int)
def h4N(n:Net)(p:Plan): Li:=[p.1,p.2.1,n.2.2.2.1.length,n.2.2.2.2.2.length]
def h1N(n:Net)(p:Plan)(j:Int): Li:=h4N n p++(p.2.2.1.take j.toNat).flatMap up1
def h2N(n:Net)(p:Plan)(i:Int): Li:=h1N n p p.2.2.1.length++(p.2.2.2.take i.toNat).flatMap λt=>t.flatMap up1
def h3N(n:Net)(p:Plan)(i j:Int): Li:=h2N n p i++((p.2.2.2.getD i.toNat []).take j.toNat).flatMap up1
def hdN(n:Net)(p:Plan): Li:=h2N n p p.2.2.2.length
def FP(n:Net)(p:Plan)(c o d:Int): Li:=if ly p c o d=-1 then[]else keepA n p c o d
def ZE(n:Net)(p:Plan)(c o:Int)(k:Nat): Li:=(List.range k).flatMap λd:Nat=>FP n p c o (d:Int)
def Zt(n:Net)(p:Plan)(c:Int)(k:Nat): Li:=(List.range k).flatMap λo:Nat=>ZE n p c (o:Int) ((p.2.2.2.getD c.toNat []).getD o []).length
def aCK(n:Net)(p:Plan)(k:Nat): Li:=(List.range k).flatMap λc:Nat=>Zt n p (c:Int) (p.2.2.2.getD c []).length
def FQ(n:Net)(p:Plan)(c o d:Int): Int:=if ly p c o d=-1 then 0 else jJ n p c o d
def aBE(n:Net)(p:Plan)(c o:Int)(k:Nat): Int:=Ls ((List.range k).map λd:Nat=>FQ n p c o (d:Int))
def Zu(n:Net)(p:Plan)(c:Int)(k:Nat): Int:=Ls ((List.range k).map λo:Nat=>aBE n p c (o:Int) ((p.2.2.2.getD c.toNat []).getD o []).length)
def QW(n:Net)(p:Plan)(k:Nat): Int:=Ls ((List.range k).map λc:Nat=>Zu n p (c:Int) (p.2.2.2.getD c []).length)
def KA(n:Net)(p:Plan): Li:=hdN n p++aCK n p p.2.2.2.length
def k1N(n:Net)(p:Plan)(c:Int): Li:=hdN n p++aCK n p c.toNat
def k2N(n:Net)(p:Plan)(c o:Int): Li:=k1N n p c++Zt n p c o.toNat
def k3N(n:Net)(p:Plan)(c o d:Int): Li:=k2N n p c o++ZE n p c o d.toNat
def wrE(n:Net)(p:Plan): Int:=if aR n=true/\iN n p=true then if QW n p p.2.2.2.length≠0 then QW n p p.2.2.2.length else if(KA n p).length>40000 then 2 else 0 else 1
def wrN(n:Net)(p:Plan): Li:=if wrE n p=0 then KA n p else[]
def wrS(n:Net)(p:Plan): Int:=if wrE n p=0 then Go.Eng.In.rD (KA n p)else 0
def tA(n:Net)(p:Plan)(k:Int): Prop:=uo n p/\0<=k/\k<=p.2.2.1.length
def tB(n:Net)(p:Plan)(i:Int): Prop:=uo n p/\0<=i/\i<=p.2.2.2.length
def tC(n:Net)(p:Plan)(i j:Int): Prop:=(uo n p/\0<=i/\i<p.2.2.2.length)/\0<=j/\j<=(p.2.2.2.getD i.toNat []).length
def t1(n:Net)(p:Plan)(c:Int): Prop:=tB n p c/\QW n p c.toNat=0
def t2(n:Net)(p:Plan)(c o:Int): Prop:=tC n p c o/\QW n p c.toNat=0/\Zu n p c o.toNat=0
def t3(n:Net)(p:Plan)(c o d:Int): Prop:=((tC n p c o/\o<(p.2.2.2.getD c.toNat []).length)/\0<=d/\d<=((p.2.2.2.getD c.toNat []).getD o.toNat []).length)/\QW n p c.toNat=0/\Zu n p c o.toNat=0/\aBE n p c o d.toNat=0
def aEu(l:List Nat)(s:St): St:={s with tm:=(List.range s.tm.length).map λi=>if l.contains i then aDl (s.tm.getD i .top)else .top}
def aC5(s:St)(l:List Nat)(n:Net)(p:Plan)(b:List (Tmp×AV))(xs:Li): St:=fu (fu (put (aEu ([2,3,4,5,6]++l) s) b) 2 (.var (wHd n p (.buf 3 (Dk xs))))) 3 (.buf 3 I xs [])
def wrA(n:Net)(p:Plan): Ann:=⟨λb s=>match b with
 | 7=>some {α:=Int,inv:=λj=>tA n p j,st:=λj=>aC5 s [53,54] n p [(55,.dat I j)] (h1N n p j),μ:=λj=>Dc (Di (Df p.2.2.1) j)}
 | 12=>some {α:=Int,inv:=λj=>tB n p j,st:=λj=>aC5 s [64,65] n p [(66,.dat I j)] (h2N n p j),μ:=λj=>Dc (Di (Df p.2.2.2) j)}
 | 15=>match s.sig.T 66,s.sig.T 70 with
  | .dat (.int .i64) i,.dat (.sl (.sl (.int .i64))) t=>some {α:=Int,inv:=λj=>tC n p i j,st:=λj=>aC5 s [64,65,66,70,71] n p [(72,.dat I j)] (h3N n p i j),μ:=λj=>Dc (Di (Df t) j)}
  | _,_=>none
 | 21=>some {α:=Int,inv:=λj=>t1 n p j,st:=λj=>aC5 s [82,83] n p [(84,.dat I j)] (k1N n p j),μ:=λj=>Dc (Di (Df p.2.2.2) j)}
 | 24=>match s.sig.T 84,s.sig.T 89 with
  | .dat (.int .i64) c,.dat (.sl (.sl (.int .i64))) t=>some {α:=Int,inv:=λj=>t2 n p c j,st:=λj=>aC5 s [82,83,84,13,89,90] n p [(91,.dat I j)] (k2N n p c j),μ:=λj=>Dc (Di (Df t) j)}
  | _,_=>none
 | 27=>match s.sig.T 84,s.sig.T 91,s.sig.T 96 with
  | .dat (.int .i64) c,.dat (.int .i64) o,.dat (.sl (.int .i64)) t=>some {α:=Int,inv:=λj=>t3 n p c o j,st:=λj=>aC5 s [82,83,84,13,89,90,91,15,96,97] n p [(98,.dat I j)] (k3N n p c o j),μ:=λj=>Dc (Di (Df t) j)}
  | _,_,_=>none
 | _=>none,λb s=>match b with
 | 5=>some (fu (fu (aEu [2,3,4,5,6] s) 2 (.var (wHd n p (.buf 3 0)))) 3 (.buf 3 I [] []))
 | 36=>some (frz [3] s)
 | _=>none,λ_ _=>none⟩
def KW7: Kt:=kOr 68 (wK [.mp 2,.val I,.val I,.val I] (λ(_,c,o,d,_) n p k b=>ou n p c o d k b/\isZero (jJ n p c o d)=true) (λ_ _ _=>.tup []) λ(_,c,o,d,_) n p=>keepA n p c o d) <|
 kOr 65 Bz <|
 kOr 63 Qw <|
 kOr 36 (al [.val R] (λ(l,_)=>Go.Eng.In.ZT l) λ(l,_)=>.dat I (Go.Eng.In.rD l)) KW5
def aJo: KPt:=pOr 68 (wP [.mp 2,.val I,.val I,.val I] λ(_,c,o,d,_) n p k b=>⟨ou n p c o d k b,isZero (jJ n p c o d),zx 39 (jJ n p c o d)⟩) aIq
def cWr: Cfg:=mkp KW7 (λt=>t==32) aJo (λf=>f==68)
def Vb: ∀args m c,Qw args m=some c->ah Tryz.prog G0 63 args m c:=by
 intro args m c h;unfold Qw at h;split at h
 .split at h
  .rename_i e;subst e;cases h;exact aAl _
  .cases h
 .cases h
def aCe{P:Program}{G:List (Nat×AV)}{f:FuncId}{args:List AV}{m:Mem}{c:jG}(h:ah P [] f args m c): ah P G f args m c:=
 λb w D E e j _ g i=>h b w D E e j (λp b=>by cases b) g i
def aJV: ai Tryz.prog G0 KW7:=af (V6 λ(_,c,o,d,_) n p k b=>(Rk c o d k b n p).1)<|af aAi<|af Vb<|af (λa m c h=>aCe (Go.Eng.In.JR a m c h)) aIU
def aCQ: bJ Tryz.prog G0 aJo:=jt (aDk λ(_,c,o,d,_) n p k b=>(Rk c o d k b n p).2) VK
def uY{α:Type}{l:List α}{f:α->Li}{x:Int}(d:α)(e:0<=x)(b:x<l.length): (l.take (x+1).toNat).flatMap f=(l.take x.toNat).flatMap f++f (l.getD x.toNat d):=by
 rw[show(x+1).toNat=x.toNat+1 by omega,wU,qAq,qA,qB (show x.toNat<l.length by omega)];simp
def rJ{f:Nat->Li}{x:Int}(b:0<=x): (List.range (x+1).toNat).flatMap f=(List.range x.toNat).flatMap f++f x.toNat:=by
 rw[show(x+1).toNat=x.toNat+1 by omega,zJ,qAq];simp
def yu{f:Nat->Int}{x:Int}(j:0<=x)(h:Ls ((List.range x.toNat).map f)=0)(g:f x.toNat=0): Ls ((List.range (x+1).toNat).map f)=0:=by
 refine qx λi b=>?_
 rw[qY,qU]at b;rw[qA,qR,vO b];show f i=0;by_cases e:i<x.toNat
 .exact lT h _ (vM.2 ⟨i,qZ.2 e,rfl⟩)
 .have:i=x.toNat:=by omega
  rw[this];exact g
def EW{f:Nat->Int}{k N:Nat}(b:k<N)(h:Ls ((List.range k).map f)=0)(r:f k≠0): Ls ((List.range N).map f)=f k:=by
 have g:∀i,i<N->((List.range N).map f).getD i 0=f i:=λi e=>by
  rw[qA,qR,vO e];rfl
 rw[EX (j:=k) (by simpa using b) (λi e=>by rw[g i Z];exact lT h _ (vM.2 ⟨i,qZ.2 e,rfl⟩)) (by rw[g k b];exact r),g k b]
def nO{α:Type}{f:α->Li}{B:Nat}: ∀{l:List α},(∀x∈l,(f x).length<=B)->(l.flatMap f).length<=l.length*B
 | [],_=>by simp
 | a::l,h=>by
  have:=nO (l:=l) λx b=>h x (wX _ b)
  have:=h a (wB ..);rw[qAf,qF,wS,Nat.succ_mul];omega
def aAc(r:Li): (up1 r).length=r.length:=by unfold up1 upR;simp
structure aGb (n:Net) (p:Plan):Prop where
 m:n.2.2.2.1.length<=12
 q:n.2.2.2.2.2.length<=4
 nl:p.2.2.1.length=n.2.2.2.1.length
 nr:∀r∈p.2.2.1,r.length=n.2.2.2.1.length/\∀x∈r,-1<=x/\x<=40
 dl:p.2.2.2.length=n.2.2.2.2.2.length
 dr:∀t∈p.2.2.2,t.length=n.2.2.2.1.length/\∀r∈t,r.length=n.2.2.2.1.length/\∀x∈r,-1<=x/\x<=65518
def Kr{n:Net}{p:Plan}(h:uo n p): aGb n p:=by
 obtain⟨T,X⟩:=h;obtain⟨_,f,z⟩:=iD X;have e:noF n=true:=aS n.1 n.2.1 n.2.2.1 n.2.2.2.1 n.2.2.2.2.1 n.2.2.2.2.2 T;have G:(n.2.2.2.1.length:Int)<=12:=(dE n.1 n.2.1 n.2.2.1 n.2.2.2.1 n.2.2.2.2.1 n.2.2.2.2.2 e).1;have L:(n.2.2.2.2.1.length:Int)<=40:=(mQ n.1 n.2.1 n.2.2.1 n.2.2.2.1 n.2.2.2.2.1 n.2.2.2.2.2 e).1
 have c4:(n.2.2.2.2.2.length:Int)<=4:=((lR (by decide) (λl:Cla=>l.1) kp n.2.2.2.2.2).1 (jU n.1 n.2.1 n.2.2.1 n.2.2.2.1 n.2.2.2.2.1 n.2.2.2.2.2 e).2.2.2.2.2).1;have V:(p.2.2.1.length:Int)=n.2.2.2.1.length:=by
  unfold mf at f;simp only[qC,qE]at f;exact f.1
 unfold nY at z;simp only[qC,qE,qO]at z;refine⟨Z,Z,Z,λr v=>?_,Z,λt O=>?_⟩
 .obtain⟨i,y,rfl⟩:=wZ.1 v;have b:=(oK (n:=n) V).1 f i Z;rw[qA,qB y,qK]at b;unfold rowOk at b;simp only[qC,qE,qO]at b;refine⟨Z,λx u=>?_⟩;have j:=b.2 x u;unfold bq du at j;simp only[yF,qC,qE]at j;omega
 .have b:=z.2 t O;have j:(t.length:Int)=n.2.2.2.1.length:=by
   unfold sgF at b;simp only[qC,qE]at b;exact b.1
  refine⟨Z,λr v=>?_⟩;obtain⟨i,y,rfl⟩:=wZ.1 v;have g:=(G4 j).1 b i Z;rw[qA,qB y,qK]at g;unfold sgR at g;simp only[qC,qE,qO]at g;refine⟨Z,λx u=>?_⟩;have A:=g.2 x u;unfold jb fY at A;rw[qE]at A;exact A
def DZ{m:Nat}(hm:m<=12){l:Lj}(e:l.length<=12)(h:∀r∈l,r.length=m): (l.flatMap up1).length<=144:=by
 have g:=nO (l:=l) (f:=up1) (B:=12) λr b=>by rw[aAc,h r b];exact hm
 have:=wF 12 e;omega
def Z3{n:Net}{p:Plan}(h:aGb n p)(j:Int): (h1N n p j).length<=148:=by
 have:=DZ h.m (l:=p.2.2.1.take j.toNat) (by rw[qL,h.nl];have:=h.m;omega) λr b=>(h.nr r (qAh b)).1
 unfold h1N h4N;rw[qF];simp only[wS,xI];omega
def Z2{n:Net}{p:Plan}(h:aGb n p)(i:Int): (h2N n p i).length<=724:=by
 have x:=Z3 h p.2.2.1.length;have v:=nO (l:=p.2.2.2.take i.toNat) (f:=λt:Lj=>t.flatMap up1) (B:=144) λt g=>by
  obtain⟨e,b⟩:=h.dr t (qAh g);exact DZ h.m (by rw[e];exact h.m) λr j=>(b r j).1
 have u:(p.2.2.2.take i.toNat).length<=4:=by rw[qL,h.dl];have:=h.q;omega
 have:=wF 144 u;unfold h2N;rw[qF];omega
def aEM{n:Net}{p:Plan}(h:aGb n p){i:Int}(j:Int)(v:0<=i)(u:i<p.2.2.2.length): (h3N n p i j).length<=868:=by
 have g:=Z2 h i;obtain⟨e,b⟩:=h.dr _ (getD_mem (l:=p.2.2.2) (i:=i.toNat) (d:=[]) Z);have:=DZ h.m (l:=(p.2.2.2.getD i.toNat []).take j.toNat) (by rw[qL,e];have:=h.m;omega) λr f=>(b r (qAh f)).1
 unfold h3N;rw[qF];omega
def Ul{n:Net}{p:Plan}{c o d:Int}(h:jJ n p c o d=0): ∀x∈ni n p c o,I4 n p c o d x=0:=λx b=>lT h _ (vM.2 ⟨x,b,rfl⟩)
def Y2{n:Net}{p:Plan}{c o d:Int}(e:uo n p)(u:F8 n c)(r:0<=o/\o<n.2.2.2.1.length)(hd:0<=d/\d<n.2.2.2.1.length)(h:FQ n p c o d=0): (FP n p c o d).length<=1641619:=by
 unfold FQ at h;unfold FP;split
 .exact zA _
 .rename_i f;rw[if_neg f]at h;have b:noF n=true:=aS n.1 n.2.1 n.2.2.1 n.2.2.2.1 n.2.2.2.2.1 n.2.2.2.2.2 e.1;have g:Ap n p c o:=⟨⟨b,r⟩,u,(iD e.2).1⟩;have:=yh (n:=n) (p:=p) (c:=c) (o:=o) (d:=d) (k:=0) (xs:=[]) (j:=(ni n p c o).length) ⟨⟨⟨e,u,⟨b,r⟩,⟨b,hd⟩⟩,rfl,zA _⟩,qJ _,λi v=>Ul h _ (getD_mem v)⟩;have x:=U7 g;unfold keepA;omega
def S8{n:Net}{p:Plan}{c o:Int}{k:Nat}(b:uo n p)(g:F8 n c)(e:0<=o/\o<n.2.2.2.1.length)(r:k<=n.2.2.2.1.length)(h:aBE n p c o k=0): (ZE n p c o k).length<=19699428:=by
 have j:=(Kr b).m;have i:=nO (l:=List.range k) (f:=λd:Nat=>FP n p c o (d:Int)) (B:=1641619) λd hd=>by
  have hd:=qZ.1 hd;exact Y2 b g e ⟨Z,Z⟩ (lT h _ (vM.2 ⟨d,qZ.2 hd,rfl⟩))
 rw[qU]at i;have:=wF 1641619 (show k<=12 by omega);unfold ZE;omega
def aGt{n:Net}{p:Plan}(g:uo n p){c o:Int}(h:F8 n c)(j:0<=o/\o<n.2.2.2.1.length): (p.2.2.2.getD c.toNat []).length=n.2.2.2.1.length/\((p.2.2.2.getD c.toNat []).getD o.toNat []).length=n.2.2.2.1.length:=by
 have b:=Kr g;obtain⟨c0,c1⟩:=h;have r:=b.dl;obtain⟨f,e⟩:=b.dr _ (getD_mem (l:=p.2.2.2) (i:=c.toNat) (d:=[]) Z);exact⟨f,(e _ (getD_mem Z)).1⟩
def Ri{n:Net}{p:Plan}{c:Int}{k:Nat}(b:uo n p)(i:F8 n c)(u:k<=n.2.2.2.1.length)(h:Zu n p c k=0): (Zt n p c k).length<=236393136:=by
 have r:=(Kr b).m;have j:=nO (l:=List.range k) (f:=λo:Nat=>ZE n p c (o:Int) ((p.2.2.2.getD c.toNat []).getD o []).length) (B:=19699428) λo g=>by
  have g:=qZ.1 g;have e:=(aGt b i (o:=(o:Int)) ⟨Z,Z⟩).2;rw[qP]at e;exact S8 b i ⟨Z,Z⟩ Z (lT h _ (vM.2 ⟨o,qZ.2 g,rfl⟩))
 rw[qU]at j;have:=wF 19699428 (show k<=12 by omega);unfold Zt;omega
def VG{n:Net}{p:Plan}{k:Nat}(b:uo n p)(v:k<=n.2.2.2.2.2.length)(h:QW n p k=0): (aCK n p k).length<=945572544:=by
 have u:=(Kr b).q;have j:=nO (l:=List.range k) (f:=λc:Nat=>Zt n p (c:Int) (p.2.2.2.getD c []).length) (B:=236393136) λc g=>by
  have g:=qZ.1 g;have e:F8 n (c:Int):=⟨Z,Z⟩;have x:=(Kr b).dl;have r:=((Kr b).dr _ (getD_mem (l:=p.2.2.2) (i:=c) (d:=[]) Z)).1;exact Ri b e Z (lT h _ (vM.2 ⟨c,qZ.2 g,rfl⟩))
 rw[qU]at j;have:=wF 236393136 (show k<=4 by omega);unfold aCK;omega
abbrev Bv:=al [.row N,.row Pl] (λ(_,p,_)=>lu p) λ(n,p,_)=>.tup [.agg [.dat R (wrN n p),.dat I (wrS n p)],.dat I (wrE n p)]
def aAg: eO 20 Bv:=ae λ(((cs,ns,os,X,ls,V):Net),((p1,p2,nx,G):Plan),_)=>by
 refine zG (c:=cWr) (A:=(lvA [(7,[3,4,5,6,8,10,12,13,14,15,16,17,18,53,54,55,64,65,66,70,71,72,82,83,84,89,90,91,96,97,98]),(12,[3,4,5,6,10,12,13,14,15,16,17,18,64,65,66,70,71,72,82,83,84,89,90,91,96,97,98]),(15,[3,4,5,6,10,12,13,14,15,16,17,18,64,65,66,70,71,72,82,83,84,89,90,91,96,97,98]),(21,[4,5,6,13,14,15,16,17,18,82,83,84,89,90,91,96,97,98]),(24,[4,5,6,13,14,15,16,17,18,82,83,84,89,90,91,96,97,98]),(27,[4,5,6,13,14,15,16,17,18,82,83,84,89,90,91,96,97,98])] (wrA (cs,ns,os,X,ls,V) (p1,p2,nx,G)))) (Ac:=az) aJV iI hm aCQ (p:=let e:=(p1,p2,nx,G);let g:=(cs,ns,os,X,ls,V);let O:=Ei (Df (ew g)) 0;let r:=Dj O;let c5:=Ea O true (Dj (iN g e));let h:=wrN g e;let i:=wrS g e;let c8:=wrE g e;let z:=[p1,p2,Df X,Df V];let c10:=Ef (Dt Int) z;let j:=Df G;(false=false/\true)/\(lu e->true/\True/\(r->lu e)/\(r->r->r)/\(Dh true r->r)/\(c5->(true->True/\(false=false->true/\true/\(Dj false->True/\T5 1 0 1 0 1 0 1 0 (h=Dt Int/\0=i/\1=c8/\True))/\(Dj false=false->Q3 1 0 1 0 (h=Dt Int/\0=i/\0=c8/\True))))/\True)/\(c5=false->L3 g e 1 0 0 1 0 0 1 (L3 0 0 Z0 Q1 Q1 cs ns os X (L3 ls V p1 p2 nx G 0 (Dt Int) (Dt Int) (L3 1 0 0 1 0 0 1 1 1 (T4 1 0 1 1 1 1 0 ((aFJ [] 0/\V5 [] z)/\1=1/\Dk (Dt Int)<=Dk c10/\(∃x,tA g e x/\L3 e 1 0 0 1 0 0 1 0 (L7 0 nx (Df nx) (0=x/\L3 Z0 Q1 Q1 cs ns os X ls V (Q3 p1 p2 nx G (0+Dk z=Dk (h1N g e x)/\c10=h1N g e x/\z7 1 0 0 1 0 0)))))/\∀(x:Int),let c12:=Dp x (Df nx);let A:=Du nx (Dc x) [];let u:=Dk (h1N g e x);let c15:=upR A 1 (Df A);let c16:=Ef (h1N g e x) c15;let c17:=x+1;
  tA g e x->(c12->0<=x/\x<Df nx/\rsP 1 A (h1N g e x) u/\1=1/\u<=Dk c16/\inR .i64 c17/\∃y,tA g e y/\(L3 e 1 0 0 1 0 0 1 0 (L7 0 nx (Df nx) (c17=y/\L3 Z0 Q1 Q1 cs ns os X ls V (Q3 p1 p2 nx G (u+Dk c15=Dk (h1N g e y)/\c16=h1N g e y/\z7 1 0 0 1 0 0)))))/\Dc (Df nx-y)<Dc (Df nx-x))/\(c12=false->(∃x_3,tB g e x_3/\L3 e 1 0 0 1 0 0 1 0 (L7 0 G j (0=x_3/\L3 Z0 Q1 Q1 cs ns os X ls V (Q3 p1 p2 nx G (u=Dk (h2N g e x_3)/\h1N g e x=h2N g e x_3/\z7 1 0 0 1 0 0)))))/\∀(x:Int),let c18:=Du G (Dc x) (Dt (Li));let c19:=Df c18;let c20:=Dk (h2N g e x);let c21:=x+1;tB g e x->(Dp x j->0<=x/\x<j/\(∃v,let c22:=h3N g e x v;tC g e x v/\L3 e 1 0 0 1 0 0 1 0 (T6 0 G j x c18 c19 (0=v/\L3 Z0 Q1 Q1 cs ns os X ls V (Q3 p1 p2 nx G (c20=Dk c22/\h2N g e x=c22/\z7 1 0 0 1 0 0)))))/\∀(v:Int),let c23:=Du c18 (Dc v) [];let c24:=h3N g e x v;let c25:=Dk c24;let c26:=upR c23 1 (Df c23);let c27:=Ef c24 c26;let c28:=v+1;tC g e x v->(Dp v c19->0<=v/\v<c19/\rsP 1 c23 c24 c25/\1=1/\c25<=Dk c27/\inR .i64 c28/\∃y,let c29:=h3N g e x y;
  tC g e x y/\(L3 e 1 0 0 1 0 0 1 0 (T6 0 G j x c18 c19 (c28=y/\L3 Z0 Q1 Q1 cs ns os X ls V (Q3 p1 p2 nx G (c25+Dk c26=Dk c29/\c27=c29/\z7 1 0 0 1 0 0)))))/\Dc (c19-y)<Dc (c19-v))/\(Dp v c19=false->inR .i64 c21/\∃y,tB g e y/\(L3 e 1 0 0 1 0 0 1 0 (L7 0 G j (c21=y/\L3 Z0 Q1 Q1 cs ns os X ls V (Q3 p1 p2 nx G (c25=Dk (h2N g e y)/\c24=h2N g e y/\z7 1 0 0 1 0 0)))))/\Dc (j-y)<Dc (j-x)))/\(Dp x j=false->(∃v,t1 g e v/\L3 1 0 0 1 0 0 1 0 0 (L5 G j (0=v/\L3 Z0 Q1 Q1 cs ns os X ls V (Q3 p1 p2 nx G (c20=Dk (k1N g e v)/\h2N g e x=k1N g e v/\z7 1 0 0 1 0 0)))))/\∀(x:Int),let c30:=Du G (Dc x) (Dt (Li));let T:=Df c30;let c32:=Dk (k1N g e x);let c33:=x+1;let c34:=Int.ofNat c32;let c35:=Ei c34 40000;t1 g e x->(Dp x j->0<=x/\x<j/\(∃b,let c36:=k2N g e x b;t2 g e x b/\L3 1 0 0 1 0 0 1 0 0 (T6 x G j x c30 T (0=b/\L3 Z0 Q1 Q1 cs ns os X ls V (Q3 p1 p2 nx G (c32=Dk c36/\k1N g e x=c36/\z7 1 0 0 1 0 0)))))/\∀(b:Int),let c37:=Du c30 (Dc b) [];let L:=Df c37;let c39:=k2N g e x b;let c40:=Dk c39;let c41:=b+1;t2 g e x b->(Dp b T->0<=b/\b<T/\(∃f,let c42:=k3N g e x b f;
  t3 g e x b f/\L3 1 0 0 1 0 0 1 0 0 (L3 x b G j x c30 T b c37 (L=L/\0=f/\L3 Z0 Q1 Q1 cs ns os X ls V (Q3 p1 p2 nx G (c40=Dk c42/\c39=c42/\z7 1 0 0 1 0 0)))))/\∀(f:Int),let c43:=Dw (Du c37 (Dc f) 0) (-1);let c44:=k3N g e x b f;let c45:=Dk c44;let c46:=jJ g e x b f;let c47:=isZero c46;let c48:=keepA g e x b f;let c49:=Ef c44 c48;let c50:=f+1;t3 g e x b f->(Dp f L->0<=f/\f<L/\(c43->(true->ou g e x b f c45 c44/\(c47=false->true/\true/\(Dj false->True/\T5 1 0 1 0 1 0 1 0 (h=Dt Int/\0=i/\c46=c8/\True))/\(Dj false=false->Q3 1 0 1 0 (h=Dt Int/\0=i/\0=c8/\True))))/\((true->c47)->(ou g e x b f c45 c44/\c47)/\1=1/\c45<=Dk c49/\inR .i64 c50/\∃y,let c51:=k3N g e x b y;t3 g e x b y/\(L3 1 0 0 1 0 0 1 0 0 (L3 x b G j x c30 T b c37 (L=L/\c50=y/\L3 Z0 Q1 Q1 cs ns os X ls V (Q3 p1 p2 nx G (c45+Dk c48=Dk c51/\c49=c51/\z7 1 0 0 1 0 0)))))/\Dc (L-y)<Dc (L-f)))/\(c43=false->inR IntKind.i64 c50/\∃y,let c52:=k3N g e x b y;t3 g e x b y/\(L3 1 0 0 1 0 0 1 0 0 (L3 x b G j x c30 T b c37 (L=L/\c50=y/\L3 Z0 Q1 Q1 cs ns os X ls V (Q3 p1 p2 nx G (c45=Dk c52/\c44=c52/\z7 1 0 0 1 0 0)))))/\Dc (L-y)<Dc (L-f)))/\(Dp f L=false->inR .i64 c41/\∃y,let c53:=k2N g e x y;
  t2 g e x y/\(L3 1 0 0 1 0 0 1 0 0 (T6 x G j x c30 T (c41=y/\L3 Z0 Q1 Q1 cs ns os X ls V (Q3 p1 p2 nx G (c45=Dk c53/\c44=c53/\z7 1 0 0 1 0 0)))))/\Dc (T-y)<Dc (T-b)))/\(Dp b T=false->inR .i64 c33/\∃y,t1 g e y/\(L3 1 0 0 1 0 0 1 0 0 (L5 G j (c33=y/\L3 Z0 Q1 Q1 cs ns os X ls V (Q3 p1 p2 nx G (c40=Dk (k1N g e y)/\c39=k1N g e y/\z7 1 0 0 1 0 0)))))/\Dc (j-y)<Dc (j-x)))/\(Dp x j=false->T2 1 1 1 0 c32 ((c35->(true->True/\(false=false->true/\true/\(Dj false->True/\T5 1 0 1 0 1 0 1 0 (h=Dt Int/\0=i/\2=c8/\True))/\(Dj false=false->Q3 1 0 1 0 (h=Dt Int/\0=i/\0=c8/\True))))/\True)/\(c35=false->L3 1 0 0 1 0 0 1 0 0 (L3 G j x (Dp x j) 1 0 0 1 0 (L3 0 1 0 10 c32 (k1N g e x) c34 c35 Z0 (L3 Q1 Q1 cs ns os X ls V p1 (L3 p2 nx G c32 (k1N g e x) 1 0 0 1 (L3 0 0 1 1 1 0 1 1 1 (0=0/\In.ZT (k1N g e x)/\Q3 1 0 1 0 (true/\true/\(Dj true->False)/\(Dj true=false->Q3 1 0 1 0 (k1N g e x=h/\In.rD (k1N g e x)=i/\0=c8/\True)))))))))))))))))))))) ⟨⟨rfl,rfl⟩,λhp=>?_⟩
 refine Z9 ?_;simp only[qc,yR,yO,wE,xM,qCt,kN,gB];obtain⟨n,hn⟩:∃n:Net,n=(cs,ns,os,X,ls,V):=⟨_,rfl⟩;obtain⟨p,hpe⟩:∃p:Plan,p=(p1,p2,nx,G):=⟨_,rfl⟩;have e1:X=n.2.2.2.1:=by rw[hn]
 have e2:V=n.2.2.2.2.2:=by rw[hn]
 have e3:nx=p.2.2.1:=by rw[hpe]
 have e4:G=p.2.2.2:=by rw[hpe]
 have e5:p1=p.1:=by rw[hpe]
 have e6:p2=p.2.1:=by rw[hpe]
 rw[<- hn,<- hpe]at *;clear hn hpe;subst e1 e2 e3 e4 e5 e6;have eS:aR n=decide (((ew n).length:Int)=0):=AN;have hbad:¬(aR n=true/\iN n p=true)->wrE n p=1:=λh=>if_neg h
 have hne:wrE n p≠0->wrN n p=[]/\(0:Int)=wrS n p:=λh=>⟨if_neg h,(if_neg h).symm⟩
 refine⟨λ_=>hp,λh=>?_,λ⟨h1,h2⟩=>?_⟩
 .have:wrE n p=1:=hbad λ⟨g1,g2⟩=>by
   rw[eS,qE]at g1;rcases h with h | h
   .omega
   .rw[h]at g2;cases g2
  obtain⟨q1,q2⟩:=hne (by rw[this];decide);exact⟨q1,q2,this.symm⟩
 have u:uo n p:=⟨by rw[eS,qE];omega,h2⟩;have O:=Kr u;have hW:wrE n p=if QW n p p.2.2.2.length≠0 then QW n p p.2.2.2.length else if(KA n p).length>40000 then 2 else 0:=if_pos u
 have hno:noF n=true:=aS n.1 n.2.1 n.2.2.1 n.2.2.2.1 n.2.2.2.2.1 n.2.2.2.2.2 u.1;have rs:∀(r:Li) (xs:Li),(∀x∈r,-1<=x/\x<=65518)->r.length<=12->xs.length<=10000->rsP 1 r xs xs.length:=λr xs q1 q2 q3=>⟨⟨rfl,Z⟩,by decide,by decide,λx hx=>by have:=q1 x hx;omega⟩
 have m12:=O.m;have q04:=O.q;have nl:=O.nl;have dl:=O.dl;refine⟨⟨rfl,by show 0+4<=1000000000000;decide⟩,by simp,⟨0,⟨u,qH _,Z⟩,rfl,rfl,rfl⟩,λx ⟨_,x0,x1⟩=>⟨λhx=>?_,λhx=>⟨⟨0,⟨u,qH _,Z⟩,rfl,?_,?_⟩,?_⟩⟩⟩
 .obtain⟨q1,q2⟩:=O.nr _ (getD_mem (l:=p.2.2.1) (i:=x.toNat) (d:=[]) Z);have e:h1N n p (x+1)=h1N n p x++up1 (p.2.2.1.getD x.toNat []):=by unfold h1N;rw[uY [] x0 hx,wG]
  refine⟨x0,hx,rs _ _ (λy hy=>by have:=q2 y hy;omega) Z (by have:=Z3 O x;omega),by rw[qF];omega,aB Z,x+1,⟨u,Z,Z⟩,⟨rfl,by rw[e,qF];rfl,e.symm⟩,Z⟩
 .have:x=p.2.2.1.length:=by omega
  rw[this];simp[h2N]
 .have:x=p.2.2.1.length:=by omega
  rw[this];simp[h2N]
 rintro x ⟨_,x0,x1⟩;refine⟨λhx=>⟨x0,hx,⟨0,⟨⟨u,x0,hx⟩,qH _,Z⟩,rfl,by simp[h3N],by simp[h3N]⟩,λy ⟨_,y0,y1⟩=>⟨λhy=>?_,λhy=>?_⟩⟩,λhx=>⟨⟨0,⟨⟨u,qH _,Z⟩,rfl⟩,rfl,?_,?_⟩,?_⟩⟩
 .obtain⟨q1,q2⟩:=O.dr _ (getD_mem (l:=p.2.2.2) (i:=x.toNat) (d:=[]) Z);obtain⟨q3,q4⟩:=q2 _ (getD_mem (l:=p.2.2.2.getD x.toNat []) (i:=y.toNat) (d:=[]) Z);have e:h3N n p x (y+1)=h3N n p x y++up1 ((p.2.2.2.getD x.toNat []).getD y.toNat []):=by unfold h3N;rw[uY [] y0 hy,wG]
  refine⟨y0,hy,rs _ _ q4 Z (by have:=aEM O y x0 hx;omega),by rw[qF];omega,aB Z,y+1,⟨⟨u,x0,hx⟩,Z,Z⟩,⟨rfl,by rw[e,qF];rfl,e.symm⟩,Z⟩
 .have ey:y=(p.2.2.2.getD x.toNat []).length:=by omega
  have e:h2N n p (x+1)=h3N n p x y:=by
   unfold h3N;rw[ey,qP,xQ];unfold h2N;rw[uY [] x0 hx,wG]
  exact⟨aB Z,x+1,⟨u,Z,Z⟩,⟨rfl,by rw[e],e.symm⟩,Z⟩
 .have:x=p.2.2.2.length:=by omega
  rw[this];simp[k1N,hdN,aCK]
 .have:x=p.2.2.2.length:=by omega
  rw[this];simp[k1N,hdN,aCK]
 rintro x ⟨⟨_,x0,x1⟩,xa⟩;have hd2:=Z2 O p.2.2.2.length;refine⟨λhx=>?_,λhx=>?_⟩
 .have hcl:F8 n x:=⟨x0,Z⟩;have xt:((x.toNat:Nat):Int)=x:=Z;have tl:=(aGt u hcl (o:=0));obtain⟨tr1,_⟩:=O.dr _ (getD_mem (l:=p.2.2.2) (i:=x.toNat) (d:=[]) Z);refine⟨x0,hx,⟨0,⟨⟨⟨u,x0,hx⟩,qH _,Z⟩,xa,rfl⟩,rfl,by simp[k2N,Zt],by simp[k2N,Zt]⟩,λy ⟨⟨_,y0,y1⟩,_,ya⟩=>⟨λhy=>?_,λhy=>?_⟩⟩
  .have yt:((y.toNat:Nat):Int)=y:=by omega
   obtain⟨_,tr2⟩:=aGt u hcl (o:=y) ⟨y0,Z⟩;refine⟨y0,hy,⟨0,⟨⟨⟨⟨⟨u,x0,hx⟩,y0,Z⟩,hy⟩,qH _,Z⟩,xa,ya,rfl⟩,rfl,by simp[k3N,ZE],by simp[k3N,ZE]⟩,λz ⟨⟨_,z0,z1⟩,_,_,za⟩=>⟨λhz=>?_,λhz=>?_⟩⟩
   .have zt:((z.toNat:Nat):Int)=z:=by omega
    have eD:((p.2.2.2.getD x.toNat []).getD y.toNat []).getD z.toNat 0=ly p x y z:=rfl;rw[eD];have hkl:(k3N n p x y z).length<=900000000000:=by
     have l1:=VG u (k:=x.toNat) Z xa;have l2:=Ri u hcl (k:=y.toNat) Z ya;have l3:=S8 u hcl (o:=y) (k:=z.toNat) ⟨y0,Z⟩ Z za;unfold k3N k2N k1N hdN;simp only[qF];omega
    have hK:ou n p x y z (k3N n p x y z).length (k3N n p x y z):=⟨⟨u,hcl,⟨hno,y0,Z⟩,⟨hno,z0,Z⟩⟩,rfl,hkl⟩
    have step:FQ n p x y z=0->(∃w,t3 n p x y w/\(z+1=w/\(k3N n p x y z).length+(FP n p x y z).length=(k3N n p x y w).length/\k3N n p x y z++FP n p x y z=k3N n p x y w)/\(((p.2.2.2.getD x.toNat []).getD y.toNat []).length-w).toNat<(((p.2.2.2.getD x.toNat []).getD y.toNat []).length-z).toNat):=λh0=>by
     have e:k3N n p x y (z+1)=k3N n p x y z++FP n p x y z:=by
      unfold k3N ZE;rw[rJ z0,zt,wG]
     exact⟨z+1,⟨⟨⟨⟨⟨u,x0,hx⟩,y0,Z⟩,hy⟩,Z,Z⟩,xa,ya,yu z0 za (by rw[zt];exact h0)⟩,⟨rfl,by rw[e,qF],e.symm⟩,Z⟩
    refine⟨z0,hz,λhne1=>⟨⟨hK,λhz0=>?_⟩,λhz0=>⟨⟨hK,hz0⟩,by rw[qF];omega,aB Z,?_⟩⟩,λh1=>⟨aB Z,?_⟩⟩
    .have hz1:=gi.1 hz0;have c1:FQ n p x y z=jJ n p x y z:=if_neg hne1;have r1:aBE n p x y ((p.2.2.2.getD x.toNat []).getD y.toNat []).length=jJ n p x y z:=by
      unfold aBE;rw[EW (k:=z.toNat) Z za (by rw[zt,c1];exact hz1),zt,c1]
     have r2:Zu n p x (p.2.2.2.getD x.toNat []).length=jJ n p x y z:=by
      unfold Zu;rw[EW (k:=y.toNat) Z ya (by rw[yt,r1];exact hz1),yt,r1]
     have r3:QW n p p.2.2.2.length=jJ n p x y z:=by
      unfold QW;rw[EW (k:=x.toNat) Z xa (by rw[xt,r2];exact hz1),xt,r2]
     have r4:wrE n p=jJ n p x y z:=by rw[hW,r3,if_pos hz1]
     obtain⟨q1,q2⟩:=hne (by rw[r4];exact hz1);exact⟨q1,q2,r4.symm⟩
    .have c1:FQ n p x y z=jJ n p x y z:=if_neg hne1;have c2:FP n p x y z=keepA n p x y z:=if_neg hne1;have:=step (by rw[c1];exact dR.1 hz0);rw[c2]at this;exact this
    .have c1:FQ n p x y z=0:=if_pos h1;have c2:FP n p x y z=[]:=if_pos h1;have:=step c1;rw[c2]at this;simpa using this
   .have ez:z=((p.2.2.2.getD x.toNat []).getD y.toNat []).length:=by omega
    have e:k2N n p x (y+1)=k3N n p x y z:=by
     unfold k3N;rw[ez,qP];unfold k2N Zt;rw[rJ y0,yt,wG]
    have za':aBE n p x y ((p.2.2.2.getD x.toNat []).getD y.toNat []).length=0:=by rw[ez,qP]at za;exact za
    exact⟨aB Z,y+1,⟨⟨⟨u,x0,hx⟩,Z,Z⟩,xa,yu y0 ya (by rw[yt];exact za')⟩,⟨rfl,by rw[e],e.symm⟩,Z⟩
  .have ey:y=(p.2.2.2.getD x.toNat []).length:=by omega
   have e:k1N n p (x+1)=k2N n p x y:=by
    unfold k2N;rw[ey,qP];unfold k1N aCK;rw[rJ x0,xt,wG]
   have ya':Zu n p x (p.2.2.2.getD x.toNat []).length=0:=by rw[ey,qP]at ya;exact ya
   exact⟨aB Z,x+1,⟨⟨u,Z,Z⟩,yu x0 xa (by rw[xt];exact ya')⟩,⟨rfl,by rw[e],e.symm⟩,Z⟩
 .have ex:x=p.2.2.2.length:=by omega
  have eN:k1N n p x=KA n p:=by unfold k1N KA;rw[ex,qP]
  rw[ex,qP]at xa;have hl:=VG u (k:=p.2.2.2.length) Z xa;rw[eN];rw[xa,if_neg (λg=>g rfl)]at hW;refine⟨λhgt=>?_,λhle=>?_⟩
  .rw[if_pos Z]at hW;obtain⟨q1,q2⟩:=hne (by rw[hW];decide);exact⟨q1,q2,hW.symm⟩
  .rw[if_neg Z]at hW;refine⟨?_,(if_pos hW).symm,(if_pos hW).symm,hW.symm⟩;show(KA n p).length<=9223372036854775807;omega
def pN(nx:Lj): Plan:=(0,0,nx,[])
def aHP(n:Net)(k o t:Int): Prop:=(nH n o/\F8 n k)/\0<=t/\t<=2200000
def LK(n:Net)(k o a b:Int): Li:=gD (aC n o) (bF n k).2.1 b ((b-a).toNat+1) a
def Qm(n:Net)(k o a b:Int): Prop:=nH n o/\F8 n k/\0<=a/\a<b/\b<=1000000
def I3(n:Net)(k o a b:Int)(x:Nat×Int): Prop:=(a+x.1<=x.2/\x.2<=b)/\x.1<=(LK n k o a b).length/\(LK n k o a b).drop x.1=gD (aC n o) (bF n k).2.1 b ((b-a).toNat+1-x.1) x.2
def An(n:Net)(nx:Lj)(k o d cut:Int): Int:=if iS n nx o d cut≠0 then iS n nx o d cut else if F7 n (pN nx) k o d cut≠0 then F7 n (pN nx) k o d cut else if YX n (pN nx) k o d cut<0 then 1 else 0
def fI(n:Net)(nx:Lj)(k o d cut:Int): Int:=YX n (pN nx) k o d cut
def FK(n:Net)(nx:Lj)(k o d cut:Int): Prop:=Jw n nx o d cut/\F8 n k
def aGs(n:Net)(nx:Lj)(a b:Int): Prop:=aR n=true/\mf n nx=true/\0<=a/\a<b/\b<=600/\b-a<=60
def aHw(n:Net)(o:Int): Prop:=0<=o/\o<n.2.2.2.1.length
def cellP(n:Net)(nx:Lj)(k o d a b:Int): Prop:=aGs n nx a b/\F8 n k/\aHw n o/\aHw n d
def JH(n:Net)(k o a b:Int): Li:=LK n k o (1440*a) (1440*b)
def PT(n:Net)(nx:Lj)(k o d a b:Int)(j:Nat): Int:=(((JH n k o a b).take j).map (fI n nx k o d)).foldl max (-1)
def PU(n:Net)(nx:Lj)(k o d a b:Int): Int:=Ls ((JH n k o a b).map (An n nx k o d))
def pU(n:Net)(nx:Lj)(k o d a b:Int): Int:=if PU n nx k o d a b=0 then PT n nx k o d a b (JH n k o a b).length else -1
def HV(n:Net)(nx:Lj)(k o d a b:Int)(j:Nat): Prop:=cellP n nx k o d a b/\j<=(JH n k o a b).length/\∀i:Nat,i<j->An n nx k o d ((JH n k o a b).getD i 0)=0
def aHu(n:Net)(k o a b:Int): Jv:=⟨λe y=>match e with
 | 1=>some {α:=Nat×Int,inv:=λx=>I3 n k o a b x,st:=λx=>⟨put y.s [(7,.dat I x.2)],x.1,true⟩,μ:=λx=>Dc (Di (Dq b 1) x.2)}
 | _=>none,λ_ _=>none,λe=>e==2⟩
abbrev BM:=al [.ptr N,.val I,.val I,.val I] (λ(n,k,o,t,_)=>aHP n k o t) λ(n,k,o,t,_)=>.tup [.dat I (Z6 n k o t),.dat I (aEZ n k o t)]
abbrev BN:=al [.ptr N,.val I,.val I,.val I,.val I] (λ_=>True) λ(n,k,o,a,b,_)=>.fn 173 [.ip I a,.ipv (.ip N n),.ip I o,.ip I k,.ip I b]
def KC0: Kt:=kOr 140 (al [.row C,.val I,.val I] (λ(c,a,b,_)=>countP c.1 c.2.1 c.2.2 a b) λ(c,a,b,_)=>.dat I (iP c.2.1 c.2.2 a b)) <|
 kOr 103 BM <|
 kOr 116 BN KR5
def aHW: Cfg:=mkp KC0 (λ_=>false) KPw (λf=>f==97||f==95||f==102)
def KC1: Kt:=kOr 117 (al [.ptr N,.val M,.val I,.val I,.val I,.val I] (λ(n,nx,k,o,d,c,_)=>FK n nx k o d c/\isZero (An n nx k o d c)=true) λ(n,nx,k,o,d,c,_)=>.dat I (fI n nx k o d c)) KC0
def aJp: KPt:=pOr 117 (Ao [.ptr N,.val M,.val I,.val I,.val I,.val I] λ(n,nx,k,o,d,c,_)=>⟨FK n nx k o d c,isZero (An n nx k o d c),zx 39 (An n nx k o d c)⟩) KPw
def KIC: FuncId->List AV->Option jF:=λf e=>if f=173 then match ofK [.ptr I,.bp N,.ptr I,.ptr I,.ptr I] e with
 | some (a,n,o,k,b,_)=>some ⟨Qm n k o a b,I,LK n k o a b⟩
 | none=>none
 else none
def aHU: Cfg:=⟨Tryz.prog,G0,KC1,λ_=>false,KIC,true,aJp,λf=>f==117⟩
def aHA(n:Net)(nx:Lj)(k o d a b:Int): Ann:=Z8 4 Nat (HV n nx k o d a b) (λs j=>fu (flat s) 0 (.var [.dat I (PT n nx k o d a b j)])) λj=>j
def aAC: eO 103 BM:=ae λ(((j,f,e,i,g,b):Net),(k:Int),(o:Int),(t:Int),_)=>by
 refine zE (A:=az) (p:=let h:=(j,f,e,i,g,b);let r:=(aC h o);let u:=(Du b (Dc k) (ByteArray.mk #[],(0:Int),(0:Int))).2.2;let v:=aH h o t;(aHP h k o t->nH h o/\0<=k/\k<Df b/\gA h o t/\Lr r u v/\iY r u v=Z6 h k o t/\mB r u v=aEZ h k o t/\True)) aIZ λv=>?_
 refine Z9 ?_;obtain⟨⟨h,r⟩,y,t1⟩:=v;have z:=mN (t:=t) j f e i g b h;have u:=(gC j f e i g b h).2.2.1;have x:=(oG j f e i g b h.1 r).2;exact⟨h,r.1,r.2,⟨h,Z,Z⟩,⟨u,x.1,by show(bF (j,f,e,i,g,b) k).2.2<1440;omega,Z,Z⟩,rfl,rfl⟩
def aAD: eO 116 BN:=ae λ((n:Net),(k:Int),(o:Int),(a:Int),(b:Int),_)=>zE (A:=az) (p:=(True->v6 a n o k b)) Av λ_=>⟨rfl,rfl,rfl,rfl,rfl,trivial⟩
def aAE(k o a b:Int)(n:Net): mA Tryz.prog G0 173 [.ip I a,.ipv (.ip N n),.ip I o,.ip I k,.ip I b] ⟨Qm n k o a b,I,LK n k o a b⟩:=by
 refine zI (c:=mkc KR3) (A:=aHu n k o a b) aGe iI hm (p:=let z:=(aC n o).2;let h:=((aC n o).1,z.1,z.2);let i:=(Du n.2.2.2.2.2 (Dc k) (ByteArray.mk #[],(0:Int),(0:Int))).2.1;let A:=LK n k o a b;let L:=Dk A;let f:=b+1;true/\true/\true/\false=false/\∀(l:Nat),Qm n k o a b->(∃(x:Nat×Int),I3 n k o a b x/\(T6 l a n o k b (a=x.2/\T3 a))/\0=x.1/\true)/\∀(x:Nat×Int),let c8:=Dw (mB h i x.2) 0;let j:=Dj c8;let u:=iY h i x.2;let r:=Ea c8 true (Ed u b);let e:=Dj r;let O:=Dh true e->e;let T:=x.1+1;let g:=u+1;let V:=Ea r true (Dj false);I3 n k o a b x->nH n o/\0<=k/\k<Df n.2.2.2.2.2/\Lr h i x.2/\Q2 j ((Dh true j->j)/\(e->(e->e)/\(e->e)/\l=l/\true/\m4 A x.1 u/\∀(v:Bool),let G:=Ea r true (Dj v);O/\(G->v->T=L)/\(G=false->inR .i64 g/\∃(y:Nat×Int),I3 n k o a b y/\((T6 l a n o k b (g=y.2/\T3 a))/\T=y.1/\v)/\Dc (f-y.2)<Dc (f-x.2)))/\(e=false->L4 e (O/\(V->true->x.1=L)/\(V=false->inR .i64 g/\∃(y:Nat×Int),I3 n k o a b y/\((T6 l a n o k b (g=y.2/\T3 a))/\x.1=y.1/\true)/\Dc (f-y.2)<Dc (f-x.2)))))) ⟨rfl,rfl,rfl,rfl,λl ⟨e,i,a0,hab,b1⟩=>?_⟩
 have eN:(n.1,n.2.1,n.2.2.1,n.2.2.2.1,n.2.2.2.2.1,n.2.2.2.2.2)=n:=rfl;have eC:∀c:Int×List Bool×Li,(c.1,c.2.1,c.2.2)=c:=λ_=>rfl
 have eK:n.2.2.2.2.2.getD k.toNat (⟨#[]⟩,0,0)=bF n k:=rfl;have hv:ay (aC n o).1 (aC n o).2.1 (aC n o).2.2=true:=(gC n.1 n.2.1 n.2.2.1 n.2.2.2.1 n.2.2.2.2.1 n.2.2.2.2.2 e).2.2.1;obtain⟨⟨L,T⟩,_⟩:=oG n.1 n.2.1 n.2.2.1 n.2.2.2.1 n.2.2.2.2.1 n.2.2.2.2.2 e.1 i;have L:0<=(bF n k).2.1:=L;have T:(bF n k).2.1<=1439:=T;refine Z9 ?_
 simp only[qc,eN,eC,eK,yO,yR,wE,xM,false_and,and_false,exists_false,imp_false,qCt,reduceCtorEq];refine⟨⟨(0,a),⟨⟨by simp only;omega,by simp only;omega⟩,zA _,rfl⟩,rfl,rfl⟩,?_⟩;rintro⟨j,t⟩ ⟨⟨t0,t1⟩,k1,g⟩;simp only at t0 t1 k1 g ⊢;have hU:(b-a).toNat+1-j=((b-a).toNat+1-(j+1))+1:=Z
 have V:gD (aC n o) (bF n k).2.1 b ((b-a).toNat+1-j) t=if mB (aC n o) (bF n k).2.1 t=0 then if iY (aC n o) (bF n k).2.1 t<b then iY (aC n o) (bF n k).2.1 t::gD (aC n o) (bF n k).2.1 b ((b-a).toNat+1-(j+1)) (iY (aC n o) (bF n k).2.1 t+1)else[]else[]:=by rw[hU];rfl
 rw[V]at g;have f:∀{l:Li},(LK n k o a b).drop j=l->(LK n k o a b).length=j+l.length:=λh=>by
  have:=yP List.length h;rw[wJ]at this;omega
 refine⟨e,i.1,i.2,⟨hv,L,Z,Z,Z⟩,λ⟨z,h2⟩=>?_,λh=>?_⟩
 .have h2':iY (aC n o) (bF n k).2.1 t<b:=by omega
  obtain⟨b1,b2⟩:=lS hv z L T;rw[if_pos z,if_pos h2']at g;have X:=f g;rw[wS]at X;refine⟨?_,λbb=>⟨λh O=>?_,λ⟨_,O⟩=>⟨aB Z,(j+1,iY (aC n o) (bF n k).2.1 t+1),⟨⟨by simp only;omega,by simp only;omega⟩,by simp only;omega,?_⟩,⟨rfl,rfl,O⟩,by simp only;omega⟩⟩⟩
  .show(LK n k o a b)[j]?=some _;have:=yP (λl=>l[0]?) g;simpa[vJ]using this
  .rcases h with(h | h) | h
   .exact absurd z h
   .omega
   .rw[h]at O;cases O
  .show(LK n k o a b).drop (j+1)=_;have:=yP (List.drop 1) g
   rwa [yX]at this
 .have:(LK n k o a b).drop j=[]:=by
   rw[g];by_cases z:mB (aC n o) (bF n k).2.1 t=0
   .rw[if_pos z,if_neg Z]
   .rw[if_neg z]
  have X:=f this;rw[xI]at X;omega
def aJh: ai Tryz.prog G0 KC0:=af (ae λ((z,w,h),a,b,_)=>SL z w h a b)<|af aAC<|af aAD aIZ
def QX{n:Net}{nx:Lj}{o d t:Int}(h:mD n nx o d t≠[]): ((mD n nx o d t).getD ((mD n nx o d t).length-1) (0,0,0,0)).2.1=zv n (pN nx) o d t:=by
 show _=((mD n nx o d t).getLastD (0,0,0,0)).2.1;rw[kZ,List.getLast?_eq_getElem?,qA]
def YJ{n:Net}{nx:Lj}{k o d cut:Int}(h:iS n nx o d cut≠0): An n nx k o d cut=iS n nx o d cut:=if_pos h
def YK{n:Net}{nx:Lj}{k o d cut:Int}(h:iS n nx o d cut=0)(b:F7 n (pN nx) k o d cut≠0): An n nx k o d cut=F7 n (pN nx) k o d cut:=by
 unfold An;rw[if_neg (λg=>g h),if_pos b]
def Ov{n:Net}{nx:Lj}{k o d cut:Int}(h:iS n nx o d cut=0)(b:F7 n (pN nx) k o d cut=0): An n nx k o d cut=if YX n (pN nx) k o d cut<0 then 1 else 0:=by
 unfold An;rw[if_neg (λg=>g h),if_neg (λg=>g b)]
def RH(k o d cut:Int)(nx:Lj)(j:LC)(e b:LB)(i:Lo)(f:Ll)(g:Lk): ah Tryz.prog G0 117 [.ip N (j,e,b,i,f,g),.dat M nx,.dat I k,.dat I o,.dat I d,.dat I cut] [] ⟨FK (j,e,b,i,f,g) nx k o d cut/\isZero (An (j,e,b,i,f,g) nx k o d cut)=true,.dat I (fI (j,e,b,i,f,g) nx k o d cut),[]⟩/\dt Tryz.prog G0 117 [.ip N (j,e,b,i,f,g),.dat M nx,.dat I k,.dat I o,.dat I d,.dat I cut] [] ⟨FK (j,e,b,i,f,g) nx k o d cut,isZero (An (j,e,b,i,f,g) nx k o d cut),zx 39 (An (j,e,b,i,f,g) nx k o d cut)⟩:=by
 refine zC (c:=aHW) (A:=az) (q:=⟨FK (j,e,b,i,f,g) nx k o d cut,isZero (An (j,e,b,i,f,g) nx k o d cut),zx 39 (An (j,e,b,i,f,g) nx k o d cut)⟩) aJh iI hm oF (p:=let r:=(j,e,b,i,f,g);let L:=iS r nx o d cut;let z:=isZero L;let T:=An r nx k o d cut;let x:=isZero T;let A:=chainOf (Value.iface 39 (Value.int .i64 T));let c7:=mD r nx o d cut;let c8:=Df c7;let y:=c8-1;let v:=(Du c7 (Dc y) ((0:Int),(0:Int),(0:Int),(0:Int))).2.1;let c11:=aEZ r k d v;let G:=isZero c11;let h:=aC r d;let c18:=Z6 r k d v;let X:=bE h.1 cut;let V:=bE h.1 c18;let O:=iP h.2.1 h.2.2 X V;let u:=Ed O 0;true/\(FK r nx k o d cut->(true->Jw r nx o d cut/\(z=false->x=false/\true/\chainOf (Value.iface 39 (Value.int .i64 L))=A))/\((true->z)->(Jw r nx o d cut/\z)/\inR .i64 y/\0<=y/\y<c8/\aHP r k d v/\(true->True/\(G=false->x=false/\true/\chainOf (Value.iface 39 (Value.int .i64 c11))=A))/\((true->G)->(True/\G)/\nH r d/\Q3 1 0 1 0 (dW h.1 h.2.1 h.2.2 cut/\L5 1 0 (dW h.1 h.2.1 h.2.2 c18/\L5 1 0 (countP h.1 h.2.1 h.2.2 X V/\(true->True/\(u=false->x=false/\true/\chainOf (Value.iface 39 (Value.int IntKind.i64 (1:Int)))=A))/\((true->u)->(True/\u)/\x/\O=fI r nx k o d cut/\True)))))))) ⟨rfl,λhp=>?_⟩
 obtain⟨n,hn⟩:∃n:Net,n=(j,e,b,i,f,g):=⟨_,rfl⟩;rw[<- hn]at hp ⊢;obtain⟨hW,L⟩:=id hp;obtain⟨hs,ht,u0,u1,o0,o1,v0,v1⟩:=id hW;have G:noF n=true:=aS n.1 n.2.1 n.2.2.1 n.2.2.2.1 n.2.2.2.2.1 n.2.2.2.2.2 hs;have hd:nH n d:=⟨G,o0,o1⟩;have z:ay (aC n d).1 (aC n d).2.1 (aC n d).2.2=true:=(gC n.1 n.2.1 n.2.2.1 n.2.2.2.1 n.2.2.2.2.1 n.2.2.2.2.2 hd).2.2.1;obtain⟨⟨z1,z2,_,_⟩,_⟩:=bM.1 z
 obtain⟨_,⟨m0,m1⟩⟩:=oG n.1 n.2.1 n.2.2.1 n.2.2.2.1 n.2.2.2.2.1 n.2.2.2.2.2 G L;have m0:0<=(bF n k).2.2:=m0;have m1:(bF n k).2.2<=1439:=m1;refine Z9 ?_;refine⟨⟨hW,λy=>?_⟩,λy=>⟨⟨hW,y⟩,?_⟩⟩
 .have h:=gi.1 y;rw[YJ h];exact⟨y,rfl⟩
 have h:=dR.1 y;obtain⟨w1,w2,w3,w4⟩:(mD n nx o d cut).length<=20/\mD n nx o d cut≠[]/\cut<=zv n (pN nx) o d cut/\zv n (pN nx) o d cut<=2200000:=C9 19 o cut hW h;have hlen:0<(mD n nx o d cut).length:=qCm.2 w2;have eI:((mD n nx o d cut).length-1:Int).toNat=(mD n nx o d cut).length-1:=Z;rw[eI,QX w2];obtain⟨T,hT⟩:∃T,T=zv n (pN nx) o d cut:=⟨_,rfl⟩;rw[<- hT]at w3 w4 ⊢
 have eE:aEZ n k d T=F7 n (pN nx) k o d cut:=by rw[hT];rfl
 have eD:Z6 n k d T=aIK n (pN nx) k o d cut:=by rw[hT];rfl
 refine⟨aB Z,Z,Z,⟨⟨hd,L⟩,Z,w4⟩,λx=>?_,λx=>⟨x,hd,?_⟩⟩
 .have r:=gi.1 x;rw[eE]at r x ⊢;rw[YK h r];exact⟨x,rfl⟩
 have r:=dR.1 x;have hf0:mB (aC n d) (bF n k).2.2 (aH n d T)=0:=r;obtain⟨b1,b2⟩:=lS z hf0 m0 m1;have hr:gA n d T:=⟨hd,Z,Z⟩;obtain⟨_,_,r1,r2⟩:inR .i64 ((bI n d).2.2.2.2.1*(bI n d).2.2.2.2.2.1)/\inR .i64 (aH n d T)/\T<=aH n d T/\aH n d T<=T+960:=v8 n.1 n.2.1 n.2.2.1 n.2.2.2.1 n.2.2.2.2.1 n.2.2.2.2.2 hr;have b1:aH n d T<=Z6 n k d T:=b1;have b2:Z6 n k d T<=aH n d T+90000:=b2
 have dB:∀t:Int,0<=t->t<=3000000->bC (bE (aC n d).1 t)=true:=λt t0 t1=>dd (by unfold bE;omega) (by unfold bE;omega)
 have eV:iP (aC n d).2.1 (aC n d).2.2 (bE (aC n d).1 cut) (bE (aC n d).1 (Z6 n k d T))=YX n (pN nx) k o d cut:=by rw[eD];rfl
 have eR:F7 n (pN nx) k o d cut=0:=eE▸r;refine⟨⟨z,Z,Z⟩,⟨z,Z,Z⟩,⟨z,dB _ Z Z,dB _ Z Z⟩,λh1=>?_,λh1=>⟨h1,?_,eV⟩⟩
 .rw[eV]at h1;rw[Ov h eR,if_pos Z];exact⟨rfl,rfl⟩
 .rw[eV]at h1;rw[Ov h eR,if_neg Z];rfl
def aFt: ai Tryz.prog G0 KC1:=af (ae λ((i,e,b,h,f,g),nx,k,o,d,c,_)=>(RH k o d c nx i e b h f g).1) aJh
def aCR: bJ Tryz.prog G0 aJp:=jt (kg λ((i,e,b,h,f,g),nx,k,o,d,c,_)=>(RH k o d c nx i e b h f g).2) oF
def aFF: bf Tryz.prog G0 KIC:=by
 intro f e y h;unfold KIC at h;split at h
 case isFalse=>cases h
 rename_i u;subst u;split at h
 case h_2=>cases h
 rename_i a n o k b _ i;cases h;exact λr l J JX JP w D g x v j=>aAE k o a b n r l J JX JP w D g x v (fS i j)
def YM{n:Net}{k o a b x:Int}(h:Qm n k o a b)(j:x∈LK n k o a b): a<=x/\x<b:=by
 have r:ay (aC n o).1 (aC n o).2.1 (aC n o).2.2=true:=(gC n.1 n.2.1 n.2.2.1 n.2.2.2.1 n.2.2.2.2.1 n.2.2.2.2.2 h.1).2.2.1;obtain⟨⟨g,e⟩,_⟩:=oG n.1 n.2.1 n.2.2.1 n.2.2.2.1 n.2.2.2.2.1 n.2.2.2.2.2 h.1.1 h.2.1;have g:0<=(bF n k).2.1:=g;have e:(bF n k).2.1<=1439:=e;have:∀(f:Nat) (t:Int),x∈gD (aC n o) (bF n k).2.1 b f t->t<=x/\x<b:=λf=>by
  induction f with
  | zero=>intro t h;cases h
  | succ f i=>
   intro t h;rw[gD]at h;split at h
   .rename_i u;obtain⟨v,y⟩:=lS r u g e;split at h
    .rcases zK.1 h with rfl | h
     .exact⟨v,by assumption⟩
     .have:=i _ h;omega
    .cases h
   .cases h
 exact this _ _ j
def aBW{n:Net}{nx:Lj}{k o d a b y:Int}{j:Nat}(h:(JH n k o a b)[j]?=some y): PT n nx k o d a b (j+1)=max (PT n nx k o d a b j) (fI n nx k o d y):=by
 unfold PT;rw[wU,h,qAy,zZ,qAe];rfl
abbrev BL:=al [.ptr N,.val M,.val I,.val I,.val I,.val I,.val I] (λ(n,nx,k,o,d,a,b,_)=>cellP n nx k o d a b) λ(n,nx,k,o,d,a,b,_)=>.dat I (pU n nx k o d a b)
def aAB: eO 55 BL:=ae λ((n:Net),(nx:Lj),(k:Int),(o:Int),(d:Int),(a:Int),(b:Int),_)=>by
 refine zR (c:=aHU) (A0:=az) (A:=(aHA n nx k o d a b)) (Ac:=az) ((λ_ _ _ _ h=>by cases h):ai Tryz.prog [] λ_ _ _=>none) aFt aFF hm aCR (p:=let e:=1440*a;let f:=1440*b;let i:=LK n k o e f;let g:=pU n nx k o d a b;(true/\true)/\(cellP n nx k o d a b->true/\L5 1 0 (inR .i64 e/\inR .i64 f/\True/\Qm n k o e f/\(∃x,HV n nx k o d a b x/\x=0/\L3 n nx k o d a b n nx (L3 k o d 1 0 0 1 0 0 (L3 n k o a e b f e n (L7 o k f ((-1:Int)=PT n nx k o d a b x/\z6 1 0 0)))))/\(∀(x:Nat),let j:=PT n nx k o d a b x;∀(y:Int),let h:=isZero (An n nx k o d y);HV n nx k o d a b x->m4 i x y->L5 1 0 (FK n nx k o d y/\(h->L5 1 0 ((FK n nx k o d y/\h)/\L5 1 0 (∃z,HV n nx k o d a b z/\z=x+1/\L3 n nx k o d a b n nx (L3 k o d 1 0 0 1 0 0 (L3 n k o a e b f e n (L7 o k f (Ew j (fI n nx k o d y)=PT n nx k o d a b z/\z6 1 0 0)))))))/\(h=false->true/\true/\(Dj false->Q3 1 0 1 0 ((-1:Int)=g/\True))/\(Dj false=false->L5 1 0 (j=g/\True)))))/\∀(x:Nat),HV n nx k o d a b x->x=Dk i->Q3 1 0 1 0 (true/\true/\(Dj true->Q3 1 0 1 0 ((-1:Int)=g/\True))/\(Dj true=false->L5 1 0 (PT n nx k o d a b x=g/\True)))))) ⟨⟨rfl,rfl⟩,λO=>?_⟩
 refine Z9 ?_;obtain⟨⟨hs,ht,a0,ab,b6,b60⟩,u,L,hd⟩:=id O;have T:noF n=true:=aS n.1 n.2.1 n.2.2.1 n.2.2.2.1 n.2.2.2.2.1 n.2.2.2.2.2 hs;have hX:Qm n k o (1440*a) (1440*b):=⟨⟨T,L.1,L.2⟩,u,Z,Z,Z⟩;have hcB:LK n k o (1440*a) (1440*b)=JH n k o a b:=rfl;refine⟨aB Z,aB Z,hX,⟨0,⟨O,zA _,λi e=>Z⟩,rfl,rfl⟩,λx y G g=>?_,λx G hl=>?_⟩
 .have g:(JH n k o a b)[x]?=some y:=g;have f:x<(JH n k o a b).length:=(qG.1 g).1;have ey:(JH n k o a b).getD x 0=y:=by rw[qA,g];rfl
  obtain⟨y0,y1⟩:=YM hX (zV g);have hD:FK n nx k o d y:=⟨⟨hs,ht,L.1,L.2,hd.1,hd.2,Z,Z⟩,u⟩;refine⟨hD,λv=>⟨⟨hD,v⟩,x+1,⟨O,f,λi e=>?_⟩,rfl,(aBW g).symm⟩,λv=>?_⟩
  .by_cases h3:i<x
   .exact G.2.2 i h3
   .have:i=x:=by omega
    rw[this,ey];exact dR.1 v
  .have r:=gi.1 v;have eg:∀i:Nat,i<(JH n k o a b).length->((JH n k o a b).map (An n nx k o d)).getD i 0=An n nx k o d ((JH n k o a b).getD i 0):=λi e=>by
    rw[qA,qR,qA,qB e];rfl
   have X:PU n nx k o d a b=An n nx k o d y:=by
    unfold PU;rw[EX (j:=x) (by rw[qY];exact f) (λi e=>by rw[eg i Z];exact G.2.2 i e) (by rw[eg x f,ey];exact r),eg x f,ey]
   have V:pU n nx k o d a b=-1:=by
    unfold pU;rw[if_neg (by rw[X];exact r)]
   rw[V];simp
 .have X:PU n nx k o d a b=0:=by
   unfold PU;refine qx λi e=>?_
   rw[qY]at e;rw[qA,qR,qB e];have:=G.2.2 i (by rw[hl];exact e);rw[qA,qB e]at this;exact this
  have V:pU n nx k o d a b=PT n nx k o d a b x:=by
   unfold pU;rw[if_pos X,hl];rfl
  rw[V];simp
end Go.Eng.Sv
namespace Go.Eng.Mp
open Go.Proofs
open Go.Eng.Sv (I R M G0 KI0)
open Go.Eng.Sv (iI hm)
def dS(x:Int): Bool:=decide (x<=-549755813888)
def uz(x:Int): Bool:=dS x||(decide (x≥-1000000000)&&decide (x<=1000000000))
def jI(x y:Int): Int:=bif dS x&&dS y then -1099511627776 else max x y
def ky(x y:Int): Int:=bif dS x||dS y then -1099511627776 else x+y
def AH(x y:Int): Prop:=dS x=false->dS y=false->inR .i64 (x+y)
def fF(x y:Bool): Bool:=x||y
def oV{α:Type}(b:α->α->α)(g:Int->α)(z:α): Nat->α
 | 0=>z
 | k+1=>b (oV b g z k) (g k)
def jK(b:Bool->Bool->Bool)(g:Int->Bool)(z:Bool)(n:Int): Bool:=oV b g z n.toNat
def jS(n:Int)(e:Bool->Bool->Prop)(b:Int->Prop)(g:Int->Bool): Prop:=n<=9223372036854775807/\∀k,0<=k->k<n->b k/\∀x,e x (g k)
def upto(k n:Int): Prop:=0<=k/\(k<=n\/k=0)
def idx(k:Int)(b:Li): Prop:=0<=k/\k<(b.length:Int)
def at1(b:Li)(k:Int): Int:=b.getD k.toNat 0
def mP(b:Li)(k:Int): Bool:=!(uz (at1 b k))
def pn(b:Li): Bool:=jK fF (mP b) false b.length
def Ye(b:Li): Prop:=(b.length:Int)<=9223372036854775807
def K0: Kt:=λ_ _ _=>none
def c0: Cfg:=Sv.mkc K0
def KS0: ai Tryz.prog G0 K0:=λf args m c h=>by cases h
def aHh(x:Int): ah Tryz.prog G0 260 [.dat I x] [] ⟨True,.dat .bool (dS x),[]⟩:=
 zF (c:=c0) (A:=az) KS0 iI hm (p:=true/\(True->Ee x (-549755813888)=dS x/\True)) ⟨rfl,λ_=>⟨rfl,trivial⟩⟩
def MO(x y:Bool): ah Tryz.prog G0 262 [.dat .bool x,.dat .bool y] [] ⟨True,.dat .bool (fF x y),[]⟩:=
 zF (c:=c0) (A:=az) KS0 iI hm (p:=true/\(True->(Dh true (Dj x)->Dj x)/\Ea x true y=fF x y/\True)) (by cases x<;>cases y<;>simp[fF])
def aER(n:Int)(z:Bool)(b:Bool->Bool->Bool)(g:Int->Bool): Ann:=Z8 3 Int (λk=>upto k n) (λs k=>put s [(13,.dat I k),(9,.dat .bool (jK b g z k))]) λk=>Dc (Di n k)
def Qe(b:Bool->Bool->Bool)(g:Int->Bool)(z:Bool): jK b g z 0=z:=rfl
def Qf(b:Bool->Bool->Bool)(g:Int->Bool)(z:Bool)(k:Int)(h:0<=k): jK b g z (k+1)=b (jK b g z k) (g k):=by
 unfold jK;have e:(k+1).toNat=k.toNat+1:=Z;rw[e];show b _ (g (k.toNat:Int))=_;rw[vI h]
def UK(b:Bool->Bool->Bool)(g:Int->Bool)(z:Bool)(k n:Int)(h:upto k n)(f:¬k<n): jK b g z k=jK b g z n:=by
 unfold jK;unfold upto at h;have e:k.toNat=n.toNat:=Z;rw[e]
def aBw(n:Int)(z:Bool)(e:Bool->Bool->Prop)(f:Bool->Bool->Bool)(b:Int->Prop)(g:Int->Bool):
  ah Tryz.prog G0 261 [.dat I n,.dat .bool z,.clo2 .bool .bool .bool e f,.clo1 I .bool b g] [] ⟨jS n e b g,.dat .bool (jK f g z n),[]⟩:=by
 refine zF (c:=c0) (A:=(lvA [(3,[2,3,8,9,10,12,13])] (aER n z f g))) KS0 iI hm (p:=true/\(jS n e b g->(∃x,upto x n/\L7 (AV.clo2 Ty.bool Ty.bool Ty.bool e f) (AV.clo1 (Ty.int .i64) Ty.bool b g) false (z=jK f g z x/\n=n/\0=x/\True))/\∀(x:Int),let h:=jK f g z x;let i:=x+1;upto x n->(Dp x n->b x/\e h (g x)/\inR .i64 i/\∃y,upto y n/\(L7 (AV.clo2 Ty.bool Ty.bool Ty.bool e f) (AV.clo1 (Ty.int .i64) Ty.bool b g) false (f h (g x)=jK f g z y/\n=n/\i=y/\True))/\Dc (n-y)<Dc (n-x))/\(Dp x n=false->h=jK f g z n/\True))) ⟨rfl,λr=>⟨⟨0,⟨Z,.inr rfl⟩,?_⟩,λx j=>⟨λh=>?_,λi=>?_⟩⟩⟩
 .simp[Qe]
 .have h:x<n:=by simpa using h
  have u:=j.1;obtain⟨p1,p2⟩:=r.2 x u h;refine⟨p1,p2 _,?_,x+1,⟨Z,.inl Z⟩,?_,?_⟩
  .have:=r.1;simp only[inR,Dq];omega
  .simp[Qf f g z x u]
  .simp only[Dx,Dc,Di];omega
 .have i:¬x<n:=by simpa using i
  exact⟨UK f g z x n j i,trivial⟩
def K1: Kt:=λf args m=>match f,args,m with
 | 260,[.dat (.int .i64) x],[]=>some ⟨True,.dat .bool (dS x),[]⟩
 | 262,[.dat .bool x,.dat .bool y],[]=>some ⟨True,.dat .bool (fF x y),[]⟩
 | _,_,_=>none
def c1: Cfg:=Sv.mkc K1
def KS1: ai Tryz.prog G0 K1:=by
 intro f args m c h;unfold K1 at h;split at h
 .cases h;exact aHh _
 .cases h;exact MO _ _
 .cases h
def aD8(x:Int): ah Tryz.prog G0 289 [.dat I x] [] ⟨True,.dat .bool (uz x),[]⟩:=
 zF (c:=c1) (A:=az) KS1 iI hm (p:=let b:=Ed x (-1000000000);true/\(True->True/\(Dj (dS x)->Dj (dS x)->Dj (dS x))/\(Dj (dS x)->Dj (dS x)->Dj (dS x))/\(Dh (Dj (dS x)) b->Dh (Dj (dS x)) b->Dh (Dj (dS x)) b)/\(Dj (dS x)->Dj (dS x)->Dj (dS x))/\(Dj (dS x)->Dh (Dj (dS x)) b->Dh (Dj (dS x)) b)/\(Dh true (Dj (dS x))->Dj (dS x))/\Ea (dS x) true (Ea b (Ee x 1000000000) false)=uz x/\True)) (by cases h:dS x<;>simp[uz,h,Bool.cond_eq_ite])
def aD3(x y:Int): ah Tryz.prog G0 215 [.dat I x,.dat I y] [] ⟨True,.dat I (jI x y),[]⟩:=
 zF (c:=c1) (A:=az) KS1 iI hm (p:=let b:=Ea (dS x) (dS y) false;true/\(True->True/\(dS x->dS x->dS x)/\(dS x->True)/\(Dh true (dS x)->dS x)/\(b->(-1099511627776:Int)=jI x y/\True)/\(b=false->Ew x y=jI x y/\True))) (by cases h:dS x<;>cases b:dS y<;>simp[jI,h,b])
def aBq(x y:Int): ah Tryz.prog G0 218 [.dat I x,.dat I y] [] ⟨AH x y,.dat I (ky x y),[]⟩:=
 zF (c:=c1) (A:=az) KS1 iI hm (p:=let b:=Ea (dS x) true (dS y);true/\(AH x y->True/\(Dj (dS x)->Dj (dS x)->Dj (dS x))/\(Dj (dS x)->True)/\(Dh true (Dj (dS x))->Dj (dS x))/\(b->(-1099511627776:Int)=ky x y/\True)/\(b=false->inR .i64 (x+y)/\x+y=ky x y/\True))) (by cases h:dS x<;>cases b:dS y<;>simp[ky,AH,h,b])
def K2: Kt:=λf args m=>match f,args,m with
 | 289,[.dat (.int .i64) x],[]=>some ⟨True,.dat .bool (uz x),[]⟩
 | 215,[.dat (.int .i64) x,.dat (.int .i64) y],[]=>some ⟨True,.dat I (jI x y),[]⟩
 | 218,[.dat (.int .i64) x,.dat (.int .i64) y],[]=>some ⟨AH x y,.dat I (ky x y),[]⟩
 | _,_,_=>K1 f args m
def c2: Cfg:=Sv.mkc K2
def KS2: ai Tryz.prog G0 K2:=by
 intro f args m c h;unfold K2 at h;split at h
 .cases h;exact aD8 _
 .cases h;exact aD3 _ _
 .cases h;exact aBq _ _
 .exact KS1 _ _ _ _ h
def Xj(k:Int)(b:Li): ah Tryz.prog G0 288 [.dat I k,.ip R b] [] ⟨idx k b,.dat .bool (mP b k),[]⟩:=
 zF (c:=c2) (A:=az) KS2 iI hm (p:=true/\(idx k b->0<=k/\k<Df b/\True/\Dj (uz (Du b (Dc k) 0))=mP b k/\True)) ⟨rfl,λh=>⟨h.1,h.2,trivial,rfl,trivial⟩⟩
def Tc{P:Program}{C:Ctx}{a b x y g f:AV}{e:Lv}(h:AV.relL P C [a,b,x,y] e)(j:∀v,x.rel P C v->g.rel P C v)(i:∀v,y.rel P C v->f.rel P C v): AV.relL P C [a,b,g,f] e:=by
 obtain⟨u,e,rfl,L,V,e,rfl,G,T,e,rfl,A,O,e,rfl,z,r⟩:=h;exact⟨_,_,rfl,L,_,_,rfl,G,_,_,rfl,j _ A,_,_,rfl,i _ z,r⟩
def Qi{C:Ctx}(b:lM Tryz.prog C G0){v:Value}(h:(AV.fn 262 []).rel Tryz.prog C v): (AV.clo2 .bool .bool .bool (λ_ _=>True) fF).rel Tryz.prog C v:=
 lB (by kernel_rfl) rfl (λx y=>MO x y) b h
def AW(n:Int)(z:Bool){f:FuncId}{e:List AV}(b:Int->Prop)(g:Int->Bool)(v:goes Tryz.prog f=true)(u:AV.namesL e=[])(h:∀k,ah Tryz.prog G0 f (.dat I k::e) [] ⟨b k,.dat .bool (g k),[]⟩):
  ah Tryz.prog G0 261 [.dat I n,.dat .bool z,.fn 262 [],.fn f e] [] ⟨jS n (λ_ _=>True) b g,.dat .bool (jK fF g z n),[]⟩:=
 (aBw n z _ fF b g).args λ_ _ i r=>Tc r (λ_ h=>Qi i h) (λ_ j=>lC v u h i j)
def K3: Kt:=λf args m=>match f,args,m with
 | 261,[.dat (.int .i64) n,.dat .bool z,.fn 262 [],.fn 288 [.ip (.sl (.int .i64)) row]],[]=>some ⟨jS n (λ_ _=>True) (λk=>idx k row) (mP row),.dat .bool (jK fF (mP row) z n),[]⟩
 | _,_,_=>K2 f args m
def c3: Cfg:=Sv.mkc K3
def KS3: ai Tryz.prog G0 K3:=by
 intro f args m c h;unfold K3 at h;split at h
 .cases h;exact AW _ _ _ _ (by kernel_rfl) rfl (λk=>Xj k _)
 .exact KS2 _ _ _ _ h
def aBo(b:Li): ah Tryz.prog G0 259 [.dat R b] [] ⟨Ye b,.dat .bool (pn b),[]⟩:=
 zF (c:=c3) (A:=az) KS3 iI hm (p:=true/\(Ye b->jS (Df b) (λx e↦True) (λk↦idx k b) (mP b)/\jK fF (mP b) false (Df b)=pn b/\True)) ⟨rfl,λh=>⟨⟨h,λk g f=>⟨⟨g,f⟩,λ_=>trivial⟩⟩,rfl,trivial⟩⟩
def aI(g:Int->Int->Int)(n:Int): Lj:=(List.range n.toNat).map λi:Nat=>(List.range n.toNat).map λj:Nat=>g i j
def cm(g:Int->Int->Int)(n i:Int): Lj:=(aI g n).take i.toNat++List.replicate (n.toNat-i.toNat) []
def oN(g:Int->Int->Int)(n i j:Int): Li:=((List.range n.toNat).map λj:Nat=>g i j).take j.toNat++List.replicate (n.toNat-j.toNat) 0
def bD(n:Int)(b:Int->Int->Prop): Prop:=0<=n/\n<=1000000/\∀i j,0<=i->i<n->0<=j->j<n->b i j
def aFg(n:Int)(g:Int->Int->Int): Ann:=⟨λb s=>match b with
 | 3=>some {α:=Int,inv:=λk=>upto k n,st:=λk=>fu (put s [(11,.dat I k),(5,.buf 0 (Dc n))]) 0 (.buf 36 R (cm g n k) []),μ:=λk=>Dc (Di n k)}
 | 7=>match s.sig.T 6 with
  | .dat (.int .i64) i=>some {α:=Int,inv:=λk=>upto k n,st:=λk=>fu (put s [(20,.dat I k)]) 1 (.buf 3 I (oN g n i k) []),μ:=λk=>Dc (Di n k)}
  | _=>none
 | _=>none,λ_ _=>none,λ_ _=>none⟩
def E7{α:Type}(xs:List α)(d v:α)(k:Nat)(b:xs[k]?=some v): (xs.take k++List.replicate (xs.length-k) d).set k v=xs.take (k+1)++List.replicate (xs.length-(k+1)) d:=by
 obtain⟨h,e⟩:=qG.1 b;have f:xs.length-k=(xs.length-(k+1))+1:=Z;rw[f,qBu,qCi _ _ (by simp;omega)];simp[wU,b,kD (Nat.le_of_lt h)]
def fB(g:Int->Int->Int)(n:Int): (aI g n).length=n.toNat:=by simp[aI]
def mJ(g:Int->Int->Int)(n x:Int)(h:upto x n): (cm g n x).length=n.toNat:=by
 have:=h.1;have:=h.2;simp only[cm,qF,qL,wO,fB];omega
def nD(g:Int->Int->Int)(n i x:Int)(h:upto x n): (oN g n i x).length=n.toNat:=by
 have:=h.1;have:=h.2;simp only[oN,qF,qL,wO,qY,qU];omega
def nC(g:Int->Int->Int)(n:Int): cm g n 0=List.replicate n.toNat []:=by simp[cm]
def vu(g:Int->Int->Int)(n i:Int): oN g n i 0=List.replicate n.toNat 0:=by simp[oN]
def vw(g:Int->Int->Int)(n i j:Int)(b:0<=j)(f:j<n): (oN g n i j).set j.toNat (g i j)=oN g n i (j+1):=by
 have e:(j+1).toNat=j.toNat+1:=Z;have:=E7 ((List.range n.toNat).map λj:Nat=>g i j) 0 (g i j) j.toNat (by
  rw[qR,vO Z];simp[vI b])
 simp only[qY,qU]at this;unfold oN;rw[e];exact this
def XA(g:Int->Int->Int)(n i j:Int)(h:upto j n)(b:¬j<n): oN g n i j=(List.range n.toNat).map λj:Nat=>g i j:=by
 have:=h.1;have:=h.2;have e:j.toNat=n.toNat:=Z;unfold oN;rw[e,qN (by simp)];simp
def rF(g:Int->Int->Int)(n i j:Int)(f:0<=i)(r:i<n)(h:upto j n)(b:¬j<n): (cm g n i).set i.toNat (oN g n i j)=cm g n (i+1):=by
 have e:(i+1).toNat=i.toNat+1:=Z;rw[XA g n i j h b];have:=E7 (aI g n) [] ((List.range n.toNat).map λj:Nat=>g i j) i.toNat (by
  unfold aI;rw[qR,vO Z];simp[vI f])
 rw[fB]at this;unfold cm;rw[e];exact this
def vt(g:Int->Int->Int)(n i:Int)(h:upto i n)(b:¬i<n): cm g n i=aI g n:=by
 have:=h.1;have:=h.2;have e:i.toNat=n.toNat:=Z;unfold cm;rw[e,qN (by rw[fB];exact qJ _)];simp
def aBx(n:Int)(b:Int->Int->Prop)(g:Int->Int->Int): ah Tryz.prog G0 213 [.dat I n,.clo2 I I I b g] [] ⟨bD n b,.dat M (aI g n),[]⟩:=by
 refine zF (c:=c0) (A:=(lvA [(3,[0,1,4,5,6,7,10,11,19,20]),(7,[0,1,4,5,6,7,10,11,19,20])] (aFg n g))) KS0 iI hm (p:=let j:=Et n (0:Int);true/\(bD n b->0<=n/\(Dz 24*n)<=281474976710656/\n<=9223372036854775807/\(∃x,upto x n/\n=n/\AV.clo2 (Ty.int .i64) (Ty.int .i64) (Ty.int .i64) b g=AV.clo2 (Ty.int IntKind.i64) (Ty.int .i64) (Ty.int .i64) b g/\L7 Z0 (Dc n) n (0=x/\Et n (Dt Int)=cm g n x/\True))/\∀(x:Int),let f:=Dk (cm g n x);let r:=x+1;upto x n->(Dp x n->0<=n/\(Dz 8*n)<=281474976710656/\n<=9223372036854775807/\f=Dc n/\0<=x/\x<Dz f/\f=Dc n/\Dk j=Dc n/\(∃e,upto e n/\T5 n (AV.clo2 (Ty.int .i64) (Ty.int .i64) (Ty.int .i64) b g) Z0 (Dc n) x n x n (0=e/\L7 (cm g n x) (Dc x) (Dc n) (j=oN g n x e/\True)))/\∀(e:Int),let i:=oN g n x e;let h:=Dk i;let u:=e+1;upto e n->(Dp e n->f=Dc n/\0<=x/\x<Dz f/\f=Dc n/\Dc x=Dc x/\b x e/\h=Dc n/\0<=e/\e<Dz h/\h=Dc n/\inR .i64 u/\∃y,upto y n/\(T5 n (AV.clo2 (Ty.int .i64) (Ty.int .i64) (Ty.int .i64) b g) Z0 (Dc n) x n x n (u=y/\L7 (cm g n x) (Dc x) (Dc n) (Em i (Dc e) (g x e)=oN g n x y/\True)))/\Dc (n-y)<Dc (n-e))/\(Dp e n=false->inR .i64 r/\∃y,upto y n/\(n=n/\AV.clo2 (Ty.int .i64) (Ty.int .i64) (Ty.int .i64) b g=AV.clo2 (Ty.int .i64) (Ty.int .i64) (Ty.int IntKind.i64) b g/\L7 Z0 (Dc n) n (r=y/\h=Dc n/\Em (cm g n x) (Dc x) i=cm g n y/\True))/\Dc (n-y)<Dc (n-x)))/\(Dp x n=false->f=Dc n/\cm g n x=aI g n/\True))) ⟨rfl,λO=>?_⟩
 obtain⟨p1,p2,L⟩:=O;refine⟨p1,by simp only[Dl,Eh,Dz];omega,Z,⟨0,⟨Z,.inr rfl⟩,?_⟩,λx u=>⟨λi=>?_,λf=>?_⟩⟩
 .simp[nC]
 .have i:x<n:=by simpa using i
  have z:=u.1;have v:=mJ g n x u;refine⟨p1,by simp only[Dl,Eh,Dz];omega,Z,v,z,by simp only[Dn,Dz,Dk];omega,v,by simp,⟨0,⟨Z,.inr rfl⟩,?_⟩,λy r=>⟨λh=>?_,λf=>?_⟩⟩
  .simp[vu]
  .have h:y<n:=by simpa using h
   have G:=r.1;have j:=nD g n x y r;refine⟨v,z,by simp only[Dn,Dz,Dk];omega,v,rfl,L x y z i G h,j,G,by simp only[Dn,Dz,Dk];omega,j,by simp only[inR,Dq];omega,y+1,⟨Z,.inl Z⟩,?_,?_⟩
   .simp[vw g n x y G h]
   .simp only[Dx,Dc,Di];omega
  .have f:¬y<n:=by simpa using f
   refine⟨by simp only[inR,Dq];omega,x+1,⟨Z,.inl Z⟩,?_,?_⟩
   .simp[rF g n x y z i r f,nD g n x y r]
   .simp only[Dx,Dc,Di];omega
 .have f:¬x<n:=by simpa using f
  exact⟨mJ g n x u,vt g n x u f,trivial⟩
def oo(m:Lj)(b:Li): Bool:=decide ((b.length:Int)≠m.length)||pn b
def ay(m:Lj): Bool:=!decide ((m.length:Int)>40)&&!m.any (oo m)
def VR(m:Lj)(k:Int): Prop:=0<=k/\k<=m.length/\m.length<=40/\(m.take k.toNat).any (oo m)=false
def oy(i j:Int)(a:Lj): Prop:=0<=i/\i<(a.length:Int)/\idx j (a.getD i.toNat [])
def at2(a:Lj)(i j:Int): Int:=(a.getD i.toNat []).getD j.toNat 0
def diag(m:Lj)(k:Int): Bool:=decide (at2 m k k>0)
def ig(m:Lj): Bool:=jK fF (diag m) false m.length
def aCt(m:Lj): Prop:=jS m.length (λ_ _=>True) (λk=>oy k k m) (diag m)
def nV(m:Lj)(i j:Int): Int:=bif decide (i=j)then jI 0 (at2 m i j)else jI (-1099511627776) (at2 m i j)
def pE(m:Lj)(k i j:Int): Int:=jI (at2 m i j) (ky (at2 m i k) (at2 m k j))
def ME(m:Lj)(k i j:Int): Prop:=oy i j m/\oy i k m/\oy k j m/\AH (at2 m i k) (at2 m k j)
def K4: Kt:=λf args m=>match f,args,m with
 | 259,[.dat (.sl (.int .i64)) row],[]=>some ⟨Ye row,.dat .bool (pn row),[]⟩
 | _,_,_=>K3 f args m
def c4: Cfg:=Sv.mkc K4
def L8(m:Lj): Ann:=Z8 4 Int (VR m) (λs k=>put s [(10,.dat I k)]) λk=>Dc (Di (Df m) k)
def KS4: ai Tryz.prog G0 K4:=by
 intro f args m c h;unfold K4 at h;split at h
 .cases h;exact aBo _
 .exact KS3 _ _ _ _ h
def TF{m:Lj}(h:¬(m.length:Int)>40): VR m 0:=⟨Z,Z,Z,by simp⟩
def M9{m:Lj}{k:Int}(h:VR m k)(f:k<m.length): m.getD k.toNat []∈m/\m.take (k+1).toNat=m.take k.toNat++[m.getD k.toNat []]:=by
 have g:=h.1;have b:k.toNat<m.length:=Z;have e:(k+1).toNat=k.toNat+1:=Z;rw[qA,qB b,e];exact⟨wL b,by rw[wU,qB b];rfl⟩
def TG{m:Lj}{k:Int}(h:VR m k)(g:k<m.length)(f:oo m (m.getD k.toNat [])=false): VR m (k+1):=by
 obtain⟨j,i,e,b⟩:=h;refine⟨Z,Z,e,?_⟩;rw[(M9 ⟨j,i,e,b⟩ g).2,qBa,b,qCe,f];rfl
def OW{m:Lj}{k:Int}(h:VR m k)(e:k<m.length)(b:oo m (m.getD k.toNat [])=true): ay m=false:=by
 unfold ay;have:m.any (oo m)=true:=xR.2 ⟨_,(M9 h e).1,b⟩;rw[this];simp
def OV{m:Lj}{k:Int}(h:VR m k)(f:¬k<m.length): ay m=true:=by
 obtain⟨j,i,g,b⟩:=h;unfold ay;have e:k.toNat=m.length:=Z;rw[e,xQ]at b;rw[b];have:¬((m.length:Int)>40):=Z;simp only[this,gG];rfl
def CW(m:Lj)(r:Li): Ea (Dw (Df r) (Df m)) true (pn r)=oo m r:=by
 unfold oo Ea Dw Df;by_cases h:(r.length:Int)=m.length<;>simp[h]
def J3(m:Lj): ah Tryz.prog G0 212 [.dat M m] [] ⟨True,.dat .bool (ay m),[]⟩:=by
 refine zF (c:=c4) (A:=(lvA [(4,[0,2,4,8,9,10])] (L8 m))) KS4 iI hm (p:=let f:=Ei (Df m) 40;true/\(True->(f->false=ay m/\True)/\(f=false->(∃x,VR m x/\L7 m m (Df m) (0=x/\True))/\∀(x:Int),let g:=Dp x (Df m);let e:=Du m (Dc x) [];let h:=Dw (Df e) (Df m);let b:=Dj h;let i:=Ea h true (pn e);let j:=x+1;VR m x->(g->0<=x/\x<Df m/\(b->b->b)/\(b->Ye e)/\(Dh true b->b)/\(i->false=ay m/\True)/\(i=false->inR .i64 j/\∃y,VR m y/\(L7 m m (Df m) (j=y/\True))/\Dc (Df m-y)<Dc (Df m-x)))/\(g=false->true=ay m/\True)))) ⟨rfl,λ_=>⟨λh=>⟨?_,trivial⟩,λh=>⟨⟨0,TF (by simpa using h),by simp⟩,λx e=>⟨λb=>?_,λf=>?_⟩⟩⟩⟩
 .have:(m.length:Int)>40:=by simpa using h
  unfold ay;simp only[this,qBb];rfl
 .have b:x<m.length:=by simpa using b
  refine⟨e.1,b,λ_ h=>h,λi=>?_,λh=>?_,λg=>⟨?_,trivial⟩,λg=>⟨?_,x+1,?_,by simp,?_⟩⟩
  .have:((m.getD x.toNat []).length:Int)=m.length:=by simpa using i
   have:=e.2.2.1;show((m.getD x.toNat []).length:Int)<=_;omega
  .simpa using h
  .rw[CW m]at g;exact(OW e b g).symm
  .have:=e.2.2.1;have:=e.1;simp only[inR,Dq];omega
  .rw[CW m]at g;exact TG e b g
  .have:=e.1;simp only[Dx,Dc,Di,Df];omega
 .have f:¬x<m.length:=by simpa using f
  exact⟨(OV e f).symm,trivial⟩
def aD9(k:Int)(m:Lj): ah Tryz.prog G0 263 [.dat I k,.ip M m] [] ⟨oy k k m,.dat .bool (diag m k),[]⟩:=
 zF (c:=c4) (A:=az) KS4 iI hm (p:=let b:=Du m (Dc k) [];true/\(oy k k m->0<=k/\k<Df m/\0<=k/\k<Df b/\Ei (Du b (Dc k) 0) 0=diag m k/\True)) ⟨rfl,λb=>⟨b.1,b.2.1,b.2.2.1,b.2.2.2,rfl,trivial⟩⟩
def aBs(i j:Int)(m:Lj): ah Tryz.prog G0 214 [.dat I i,.dat I j,.ip M m] [] ⟨oy i j m,.dat I (nV m i j),[]⟩:=
 zF (c:=c4) (A:=az) KS4 iI hm (p:=let b:=Du m (Dc i) [];let e:=Du b (Dc j) 0;true/\(oy i j m->(Ec i j->0<=i/\i<Df m/\0<=j/\j<Df b/\True/\jI 0 e=nV m i j/\True)/\(Ec i j=false->0<=i/\i<Df m/\0<=j/\j<Df b/\True/\jI (-1099511627776) e=nV m i j/\True))) ⟨rfl,λb=>⟨λe=>⟨b.1,b.2.1,b.2.2.1,b.2.2.2,trivial,by
   have e:i=j:=by simpa using e
   simp[nV,e,at2],trivial⟩,
  λe=>⟨b.1,b.2.1,b.2.2.1,b.2.2.2,trivial,by
   have e:¬i=j:=by simpa using e
   simp[nV,e,at2],trivial⟩⟩⟩
def aBr(k i j:Int)(m:Lj): ah Tryz.prog G0 217 [.dat I i,.dat I j,.ip M m,.ip I k] [] ⟨ME m k i j,.dat I (pE m k i j),[]⟩:=
 zF (c:=c4) (A:=az) KS4 iI hm (p:=let b:=Du m (Dc i) [];let e:=Df b;let f:=Du m (Dc k) [];let g:=Du b (Dc k) 0;let h:=Du f (Dc j) 0;true/\(ME m k i j->0<=i/\i<Df m/\0<=j/\j<e/\0<=i/\i<Df m/\0<=k/\k<e/\0<=k/\k<Df m/\0<=j/\j<Df f/\AH g h/\True/\jI (Du b (Dc j) 0) (ky g h)=pE m k i j/\True)) ⟨rfl,λ⟨f,e,b,g⟩=>⟨f.1,f.2.1,f.2.2.1,f.2.2.2,e.1,e.2.1,e.2.2.1,e.2.2.2,b.1,b.2.1,b.2.2.1,b.2.2.2,g,trivial,rfl,trivial⟩⟩
def AX(n:Int){f:FuncId}{e:List AV}(b:Int->Int->Prop)(g:Int->Int->Int)(u:goes Tryz.prog f=true)(r:AV.namesL e=[])(h:∀i j,ah Tryz.prog G0 f (.dat I i::.dat I j::e) [] ⟨b i j,.dat I (g i j),[]⟩):
  ah Tryz.prog G0 213 [.dat I n,.fn f e] [] ⟨bD n b,.dat M (aI g n),[]⟩:=
 (aBx n b g).args λ_ _ v ⟨_,_,G,z,_,_,A,y,x⟩=>⟨_,_,G,z,_,_,A,lB u r h v y,x⟩
def K5: Kt:=λf args m=>match f,args,m with
 | 212,[.dat (.sl (.sl (.int .i64))) m],[]=>some ⟨True,.dat .bool (ay m),[]⟩
 | 261,[.dat (.int .i64) n,.dat .bool z,.fn 262 [],.fn 263 [.ip (.sl (.sl (.int .i64))) m]],[]=>some ⟨jS n (λ_ _=>True) (λk=>oy k k m) (diag m),.dat .bool (jK fF (diag m) z n),[]⟩
 | 213,[.dat (.int .i64) n,.fn 214 [.ip (.sl (.sl (.int .i64))) m]],[]=>some ⟨bD n (λi j=>oy i j m),.dat M (aI (nV m) n),[]⟩
 | 213,[.dat (.int .i64) n,.fn 217 [.ip (.sl (.sl (.int .i64))) m,.ip (.int .i64) k]],[]=>some ⟨bD n (ME m k),.dat M (aI (pE m k) n),[]⟩
 | _,_,_=>K4 f args m
def c5: Cfg:=Sv.mkc K5
def KS5: ai Tryz.prog G0 K5:=by
 intro f args m c h;unfold K5 at h;split at h
 .cases h;exact J3 _
 .cases h;exact AW _ _ _ _ (by kernel_rfl) rfl (λk=>aD9 k _)
 .cases h;exact AX _ _ _ (by kernel_rfl) rfl (λi j=>aBs i j _)
 .cases h;exact AX _ _ _ (by kernel_rfl) rfl (λi j=>aBr _ i j _)
 .exact KS4 _ _ _ _ h
def Xq(m:Lj): ah Tryz.prog G0 216 [.dat M m] [] ⟨aCt m,.dat .bool (ig m),[]⟩:=
 zF (c:=c5) (A:=az) KS5 iI hm (p:=true/\(aCt m->jS (Df m) (λx b↦True) (λk↦oy k k m) (diag m)/\jK fF (diag m) false (Df m)=ig m/\True)) ⟨rfl,λh=>⟨h,rfl,trivial⟩⟩
def bZ(m:Lj): Nat->Lj
 | 0=>aI (nV m) m.length
 | k+1=>aI (pE (bZ m k) k) m.length
def pD(m:Lj)(k:Int): Lj:=bZ m k.toNat
def mF(m:Lj): Bool:=(List.range (m.length+1)).any λk=>ig (bZ m k)
def GM(m:Lj): Lj×Int:=bif ay m then bif mF m then([],120)else(bZ m m.length,0)else([],1)
def dK(m:Lj): Lj:=(GM m).1
def iq(m:Lj): Int:=(GM m).2
def rC(m:Lj): Prop:=m.length<=20
def MD(m:Lj)(k:Int): Prop:=0<=k/\k<=m.length/\ay m=true/\∀j:Nat,(j:Int)<=k->ig (bZ m j)=false
def K6: Kt:=λf args m=>match f,args,m with
 | 216,[.dat (.sl (.sl (.int .i64))) m],[]=>some ⟨aCt m,.dat .bool (ig m),[]⟩
 | _,_,_=>K5 f args m
def c6: Cfg:=Sv.mkc K6
def aHf(m:Lj): Ann:=⟨λb s=>match b with
 | 8=>some {α:=Int,inv:=λk=>MD m k,st:=λk=>put s [(19,.dat I k),(5,.dat M (pD m k))],μ:=λk=>Dc (Di (Df m) k)}
 | _=>none,λb s=>match b with
 | 11=>some (frz [0,1] s)
 | _=>none,λ_ _=>none⟩
def IQ{g:Int->Bool}(n:Nat): oV fF g false n=false↔∀k:Nat,k<n->g k=false:=by
 induction n with
 | zero=>simp[oV]
 | succ n b=>
  simp only[oV,fF,qBs,b];constructor
  .rintro⟨j,i⟩ k f;by_cases e:k=n
   .subst e;exact i
   .exact j k Z
  .exact λh=>⟨λk f=>h k Z,h n Z⟩
def tW{g:Int->Bool}{n:Int}: jK fF g false n=false↔∀k:Int,0<=k->k<n->g k=false:=by
 unfold jK;rw[IQ];constructor
 .intro h k b f;have:=h k.toNat Z
  rwa [vI b]at this
 .exact λh k e=>h k Z Z
def sx{b:Li}: pn b=false↔∀k:Int,0<=k->k<b.length->uz (at1 b k)=true:=by
 unfold pn;rw[tW];simp[mP]
structure Sq (n:Nat) (m:Lj):Prop where
 len:m.length=n
 row:∀i:Int,0<=i->i<n->(m.getD i.toNat []).length=n
def Sq.oy {n:Nat} {m:Lj} (h:Sq n m) {i j:Int} (e:0<=i) (b:i<n) (g:0<=j) (f:j<n):oy i j m:=
 ⟨e,by rw[h.len];exact b,g,by rw[h.row i e b];exact f⟩
def L6{m:Lj}(h:ay m=true): Sq m.length m/\m.length<=40/\∀i j:Int,0<=i->i<m.length->0<=j->j<m.length->uz (at2 m i j)=true:=by
 unfold ay at h;simp only[qC,zY,vZ]at h;obtain⟨y,u⟩:=h;have f:∀i:Int,0<=i->i<m.length->oo m (m.getD i.toNat [])=false:=by
  intro i e b;have r:i.toNat<m.length:=Z;rw[qAg]at u;rw[qA,qB r];simpa using u _ (wL r)
 have g:∀i:Int,0<=i->i<m.length->(m.getD i.toNat []).length=m.length/\pn (m.getD i.toNat [])=false:=by
  intro i e b;have:=f i e b;unfold oo at this;simp only[qBs,vZ,ne_eq,Decidable.not_not]at this;exact⟨by have:=this.1;omega,this.2⟩
 refine⟨⟨rfl,λi e b=>(g i e b).1⟩,Z,λi j e b x v=>?_⟩;obtain⟨g1,g2⟩:=g i e b;exact sx.1 g2 j x (by rw[g1];exact v)
def sr(g:Int->Int->Int)(n:Nat)(i:Int)(b:0<=i)(e:i<n): (aI g n).getD i.toNat []=(List.range n).map λj:Nat=>g i j:=by
 unfold aI;simp only[qP];rw[qA,qR,vO Z];simp[vI b]
def ij(g:Int->Int->Int)(n:Nat): Sq n (aI g n):=⟨by simp[aI],λi e b=>by rw[sr g n i e b];simp⟩
def iQ(g:Int->Int->Int)(n:Nat)(i j:Int)(f:0<=i)(b:i<n)(e:0<=j)(h:j<n): at2 (aI g n) i j=g i j:=by
 unfold at2;rw[sr g n i f b,qA,qR,vO Z];simp[vI e]
def KS6: ai Tryz.prog G0 K6:=by
 intro f args m c h;unfold K6 at h;split at h
 .cases h;exact Xq _
 .exact KS5 _ _ _ _ h
def jO(m:Lj)(k:Nat): Sq m.length (bZ m k):=by
 cases k<;>exact ij _ _
def bd(k:Nat): Int:=((1099511627776*2 ^ k:Nat):Int)
def aFj(k:Nat): 1099511627776<=bd k:=by
 unfold bd;have:1<=2 ^ k:=Nat.one_le_two_pow;omega
def aCE(k:Nat): bd (k+1)=2*bd k:=by
 unfold bd;rw[Nat.pow_succ];omega
def gN{k:Nat}(h:k<=20): bd k<=1152921504606846976:=by
 unfold bd;have:=Nat.pow_le_pow_right (n:=2) Z h;omega
def XI{x y b:Int}(g:1099511627776<=b)(f:-b<=x/\x<=b)(e:-b<=y/\y<=b): -b<=jI x y/\jI x y<=b:=by
 unfold jI;cases dS x&&dS y
 .simp only[qAx];omega
 .simp only[qAw];omega
def Rb{x y b:Int}(g:1099511627776<=b)(f:-b<=x/\x<=b)(e:-b<=y/\y<=b): -(2*b)<=ky x y/\ky x y<=2*b:=by
 unfold ky;cases dS x||dS y
 .simp only[qAx];omega
 .simp only[qAw];omega
def MZ{c x:Int}(e:-1099511627776<=c/\c<=0)(b:uz x=true): -1099511627776<=jI c x/\jI c x<=1099511627776:=by
 unfold jI;cases h:dS x
 .simp only[uz,h,kT,qC,qE]at b;simp only[yH,qAx];omega
 .simp only[dS,qE]at h;cases dS c&&true
  .simp only[qAx];omega
  .simp only[qAw];omega
def ny{m:Lj}(h:ay m=true): ∀(k:Nat),k<=m.length->∀i j:Int,0<=i->i<m.length->0<=j->j<m.length->-(bd k)<=at2 (bZ m k) i j/\at2 (bZ m k) i j<=bd k
 | 0,_,i,j,g,hi,f,b=>by
  have e:=(L6 h).2.2 i j g hi f b;show -(bd 0)<=at2 (aI (nV m) m.length) i j/\at2 (aI (nV m) m.length) i j<=bd 0;rw[iQ _ _ _ _ g hi f b];have u:bd 0=1099511627776:=rfl;rw[u];unfold nV;cases decide (i=j)
  .exact MZ (c:=-1099511627776) Z e
  .exact MZ (c:=0) Z e
 | k+1,v,i,j,g,hi,f,b=>by
  show -(bd (k+1))<=at2 (aI (pE (bZ m k) k) m.length) i j/\at2 (aI (pE (bZ m k) k) m.length) i j<=bd (k+1);rw[iQ _ _ _ _ g hi f b,aCE];have r:=aFj k;have g1:=ny h k Z i j g hi f b;have g2:=ny h k Z i k g hi Z Z;have g3:=ny h k Z k j Z Z f b;exact XI Z Z (Rb r g2 g3)
def aE3{n:Nat}{m:Lj}(h:Sq n m)(f:n<=20): aCt m:=
 ⟨by rw[h.len];omega,λk e b=>⟨h.oy e (by rw[<- h.len];exact b) e (by rw[<- h.len];exact b),λ_=>trivial⟩⟩
def Ph{m:Lj}(k:Nat)(b:k<=m.length)(h:ig (bZ m k)=true): mF m=true:=
 xR.2 ⟨k,qZ.2 Z,h⟩
def aD2(m:Lj): ah Tryz.prog G0 145 [.dat M m] [] ⟨rC m,.tup [.dat M (dK m),.dat I (iq m)],[]⟩:=by
 refine zF (c:=c6) (A:=(lvA [(8,[2,3,4,5,6,7,18,19])] (aHf m))) KS6 iI hm (p:=let e:=aI (nV m) (Df m);let g:=ig e;true/\(rC m->True/\(Dj (ay m)->dK m=Dt (Li)/\1=iq m/\True)/\(Dj (ay m)=false->(bD (Df m) λi j↦oy i j m)/\aCt e/\(g->dK m=Dt (Li)/\120=iq m/\True)/\(g=false->(∃x,MD m x/\Df m=Df m/\e=pD m x/\Df m=Df m/\0=x/\True)/\∀(x:Int),let b:=Dp x (Df m);let f:=aI (pE (pD m x) x) (Df m);let h:=ig f;let r:=x+1;MD m x->(b->1=1/\0=0/\1=1/\0=0/\Df m=Df m/\pD m x=pD m x/\1=1/\0=0/\x=x/\1=1/\0=0/\pD m x=pD m x/\Df m=Df m/\x=x/\b=b/\x=x/\pD m x=pD m x/\bD (Df m) (ME (pD m x) x)/\aCt f/\(h->dK m=Dt (Li)/\120=iq m/\True)/\(h=false->inR .i64 r/\∃y,MD m y/\(Df m=Df m/\f=pD m y/\Df m=Df m/\r=y/\True)/\Dc (Df m-y)<Dc (Df m-x)))/\(b=false->pD m x=dK m/\0=iq m/\True))))) ⟨rfl,λhp=>⟨trivial,λh=>?_,λh=>?_⟩⟩
 .have h:ay m=false:=by simpa using h
  simp[dK,iq,GM,h]
 .have h:ay m=true:=by simpa using h
  unfold rC at hp;obtain⟨sq,_,el⟩:=L6 h;have V:∀k:Nat,aCt (bZ m k):=λk=>aE3 (jO m k) hp
  have L:∀k:Nat,k<=m.length->ig (bZ m k)=true->dK m=[]/\(120:Int)=iq m/\True:=λk T z=>by
   have:=Ph k T z;simp[dK,iq,GM,h,this]
  refine⟨⟨by simp only[Df];omega,by simp only[Df];omega,λi j g u G f=>sq.oy g u G f⟩,V 0,L 0 zoo,λg=>⟨⟨0,⟨zoo,zoo,h,λj f=>?_⟩,?_⟩,λx X=>⟨λb=>?_,λv=>?_⟩⟩⟩
  .have:j=0:=by omega
   subst this;exact g
  .simp only[yB,vU,qBe];rfl
  .have b:x<m.length:=by simpa using b
   obtain⟨r,g1,g2,g3⟩:=X;have ex:pD m x=bZ m x.toNat:=rfl;have es:aI (pE (pD m x) x) (Df m)=bZ m (x.toNat+1):=by
    rw[ex];show aI (pE (bZ m x.toNat) x) m.length=aI (pE (bZ m x.toNat) (x.toNat:Int)) m.length;rw[vI r]
   rw[es];simp only[yB,vU,qBe];refine⟨⟨by simp only[Df];omega,by simp only[Df];omega,λi j g u G f=>?_⟩,V _,λz=>by simpa using L (x.toNat+1) zoo z,λz=>⟨by simp only[inR,Dq];omega,x+1,⟨zoo,zoo,h,λj f=>?_⟩,⟨?_,rfl⟩,?_⟩⟩
   .rw[ex];have O:=jO m x.toNat;refine⟨O.oy g u G f,O.oy g u r b,O.oy r b G f,λ_ _=>?_⟩;have b1:=ny h x.toNat zoo i x g u r b;have b2:=ny h x.toNat zoo x j r b G f;have b3:=gN (k:=x.toNat) zoo;simp only[inR];omega
   .by_cases e:(j:Int)<=x
    .exact g3 j e
    .have:j=x.toNat+1:=by omega
     rw[this];exact z
   .show bZ m (x.toNat+1)=bZ m (x+1).toNat;rw[show(x+1).toNat=x.toNat+1 by omega]
   .simp only[Dx,Dc,Di,Df];omega
  .have v:¬x<m.length:=by simpa using v
   obtain⟨r,g1,g2,g3⟩:=X;have hb:mF m=false:=by
    unfold mF;rw[qAg];intro k T;have:=g3 k (by have:=qZ.1 T;omega);simp[this]
   have e:x.toNat=m.length:=zoo;have:GM m=(bZ m m.length,0):=by simp[GM,h,hb]
   refine⟨?_,?_,trivial⟩
   .unfold dK;rw[this];show bZ m x.toNat=_;rw[e]
   .unfold iq;rw[this]
end Go.Eng.Mp
namespace Go.Eng.Sv
open Go.Proofs
def Gk(z:Int)(w:List Bool)(h:Li)(a b:Int): Prop:=ay z w h=true/\bC a=true/\bC b=true
def jm(w:List Bool)(h:Li)(a b:Int): Li:=cC w h a (b-a+1)
def KT(n:Net)(line:Int): Prop:=noF n=true/\0<=line/\line<n.2.2.2.2.1.length
def ak(n:Net)(line:Int): Line:=n.2.2.2.2.1.getD line.toNat (⟨#[]⟩,0,0,0,0,0)
def dJ(n:Net)(line:Int): Int×List Bool×Li:=n.1.getD (n.2.2.2.1.getD (ak n line).2.1.toNat (⟨#[]⟩,0,0,0,0,0,[])).2.2.1.toNat (0,[],[])
def bO(n:Net)(line:Int)(b:Li): Bool:=du line n.2.2.2.2.1.length&&b.all ct&&aR n
def DC(b:Li)(k:Int): Prop:=0<=k/\k<=b.length/\(b.take k.toNat).all ct=true
def YB(b:Li): Prop:=b.length<=1000000
def m6(n:Net)(line b:Int): Prop:=KT n line/\0<=b/\b<=2000000
def aU(n:Net)(line d:Int): Int:=fx (dJ n line).1 d (ak n line).2.2.2.1
def og(n:Net)(line b:Int): Li:=jm (dJ n line).2.1 (dJ n line).2.2 (bE (dJ n line).1 b) (bE (dJ n line).1 b+60)
def bG(n:Net)(line b:Int): Option Int:=(((og n line b).map (aU n line)).find? λt=>decide (b<=t)).bind λt=>if t<b+86400 then some t else none
def lv(n:Net)(line b:Int): Int:=(bG n line b).getD 0
def jZ(n:Net)(line b:Int): Bool:=(bG n line b).isSome
def firstTo(n:Net)(line b:Int)(k:Nat): Prop:=k<=(og n line b).length/\((og n line b).take k).all (λd=>decide (aU n line d<b))=true
def KT5: Kt:=kOr 286 Iy KT4
def xV(b:Li): Ann:=Z8 4 Int (DC b) (λs k=>put s [(20,.dat I k)]) λk=>Dc (Di (Df b) k)
def Zo(w:List Bool)(h:Li)(a b:Int): Jv:=⟨λe y=>match e with
 | 1=>some {α:=Int,inv:=λd=>nh a (Dq (Di b a) 1) d,st:=λd=>⟨put y.s [(5,.dat I d)],my w h a d,true⟩,μ:=λd=>Dc (Di (Dq b 1) d)}
 | _=>none,λ_ _=>none,λe=>e==3⟩
def V7(z a b:Int)(w:List Bool)(h:Li)(i:
 let c1:=(z,w,h);let c2:=jm w h a b;let c3:=Dk c2;let c4:=b+1;true/\true/\true/\false=false/\∀(l:Nat),Gk z w h a b->(∃x,nh a ((b-a)+1) x/\(Q3 l a b c1 (a=x/\T3 a))/\0=my w h a x/\true)/\∀(x:Int),let c5:=(b-a)+1;let c6:=my w h a x;let c7:=c6+1;let g:=x+1;let c9:=Ea (aW w h x) (Dj false) false;nh a c5 x->(Ee x b->(ay z w h/\bC x)/\(aW w h x->(aW w h x->aW w h x)/\(aW w h x->aW w h x)/\l=l/\true/\m4 c2 c6 x/\∀(e:Bool),let f:=Ea (aW w h x) (Dj e) false;(Dh true (aW w h x)->aW w h x)/\(f->e->c7=c3)/\(f=false->inR .i64 g/\∃y,nh a c5 y/\((Q3 l a b c1 (g=y/\T3 a))/\c7=my w h a y/\e)/\Dc (c4-y)<Dc (c4-x)))/\(aW w h x=false->L4 (aW w h x) ((Dh true (aW w h x)->aW w h x)/\(c9->true->c6=c3)/\(c9=false->inR .i64 g/\∃y,nh a c5 y/\((Q3 l a b c1 (g=y/\T3 a))/\c6=my w h a y/\true)/\Dc (c4-y)<Dc (c4-x)))))/\(Ee x b=false->true->c6=c3)):
  evI (mkc KT5) (Zo w h a b) 285 [.ip I a,.ip I b,.ip C (z,w,h)] ⟨Gk z w h a b,I,jm w h a b⟩:=oE_ i
abbrev CB:=al [.row N,.val I] (λ(n,l,_)=>KT n l) λ(n,l,_)=>cal (dJ n l).1 (dJ n l).2.1 (dJ n l).2.2
abbrev qh:=al [.row C,.val I,.val I] (λ_=>True) λ(c,a,b,_)=>.fn 285 [.ip I a,.ip I b,.ip C (c.1,c.2.1,c.2.2)]
abbrev xi:=al [.row N,.val I,.val R] (λ(_,_,b,_)=>YB b) λ(n,l,b,_)=>.dat .bool (bO n l b)
def KT6: Kt:=kOr 256 CB <|
 kOr 257 qh <|
 kOr 209 xi KT5
def aIt: FuncId->List AV->Option jF:=λf e=>match f,e with
 | 285,[.ip (.int .i64) a,.ip (.int .i64) b,.ip (.pair (.int .i64) (.pair (.sl .bool) (.sl (.int .i64)))) c]=>some ⟨Gk c.1 c.2.1 c.2.2 a b,I,jm c.2.1 c.2.2 a b⟩
 | _,_=>none
noncomputable def mkr(K:Kt)(b:Tmp->Bool): Cfg:=⟨Tryz.prog,G0,K,b,aIt,true,λ_ _ _=>none,λ_=>false⟩
def aEV(n:Net)(line b:Int): Ann:=Z8 4 Nat (firstTo n line b) (λs _=>flat s) λk=>k
abbrev BY:=al [.row N,.val I,.val I] (λ(n,l,t,_)=>m6 n l t) λ(n,l,t,_)=>.tup [.dat I (lv n l t),.dat .bool (jZ n l t)]
def KT7: Kt:=kOr 210 BY KT6
def aFo: ai Tryz.prog G0 KT5:=af aEb aFp
def CZ(e:LC)(g i:LB)(b:Lo)(f:Ll)(j:Lk){line:Int}(h:KT (e,g,i,b,f,j) line): ay (dJ (e,g,i,b,f,j) line).1 (dJ (e,g,i,b,f,j) line).2.1 (dJ (e,g,i,b,f,j) line).2.2=true/\0<=(ak (e,g,i,b,f,j) line).2.1/\(ak (e,g,i,b,f,j) line).2.1<b.length/\
  0<=(b.getD (ak (e,g,i,b,f,j) line).2.1.toNat (⟨#[]⟩,0,0,0,0,0,[])).2.2.1/\(b.getD (ak (e,g,i,b,f,j) line).2.1.toNat (⟨#[]⟩,0,0,0,0,0,[])).2.2.1<e.length/\0<=(ak (e,g,i,b,f,j) line).2.2.2.1/\(ak (e,g,i,b,f,j) line).2.2.2.1<=1439:=by
 obtain⟨r,T,v⟩:=h;have v:line<f.length:=v;have z:ak (e,g,i,b,f,j) line∈f:=by
  unfold ak;show f.getD line.toNat _∈f;rw[qA,qB Z,qK];exact wL _
 obtain⟨g1,g2,g3,g4,V,x,_⟩:=jX ((mQ e g i b f j r).2.2.2 _ z);have O:0<=(ak (e,g,i,b,f,j) line).2.1:=g1;have L:(ak (e,g,i,b,f,j) line).2.1<b.length:=g2;have y:b.getD (ak (e,g,i,b,f,j) line).2.1.toNat (⟨#[]⟩,0,0,0,0,0,[])∈b:=by
  rw[qA,qB Z,qK];exact wL _
 have u:=(dE e g i b f j r).2.2.2 _ y;unfold cU du at u;simp only[qC,qE]at u;have u:0<=(b.getD (ak (e,g,i,b,f,j) line).2.1.toNat (⟨#[]⟩,0,0,0,0,0,[])).2.2.1/\(b.getD (ak (e,g,i,b,f,j) line).2.1.toNat (⟨#[]⟩,0,0,0,0,0,[])).2.2.1<(e.length:Int):=u.1.1.1.1.1.2;have G:=((uH (by decide)).1 (jU e g i b f j r).2.1).2.2.2;have A:(aK e g).length=e.length:=by unfold aK;simp
 have:=G (b.getD (ak (e,g,i,b,f,j) line).2.1.toNat (⟨#[]⟩,0,0,0,0,0,[])).2.2.1.toNat Z;unfold bH at this;rw[gR (λc:Int×List Bool×Li=>ay c.1 c.2.1 c.2.2) e _ (0,[],[]) false Z]at this;exact⟨this,O,L,u.1,u.2,x.1,x.2⟩
def aA9: eO 256 CB:=ae λ(((g,j,i,f,e,r):Net),(b:Int),_)=>by
 refine zE (A:=az) (p:=let y:=(g,j,i,f,e,r);let h:=(Du e (Dc b) (ByteArray.mk #[],(0:Int),(0:Int),(0:Int),(0:Int),(0:Int))).2.1;let u:=(Du f (Dc h) (ByteArray.mk #[],(0:Int),(0:Int),(0:Int),(0:Int),(0:Int),Dt ByteArray)).2.2.1;let v:=Du g (Dc u) ((0:Int),Dt Bool,Dt Int);let x:=dJ y b;(KT y b->0<=b/\b<Df e/\0<=h/\h<Df f/\0<=u/\u<Df g/\Q3 1 0 1 0 (v.1=x.1/\v.2.1=x.2.1/\v.2.2=x.2.2/\True))) aFo λh=>?_
 obtain⟨_,y,x,v,u,_⟩:=CZ g j i f e r h;exact⟨h.2.1,h.2.2,y,x,v,u,rfl,rfl,rfl,rfl,rfl,rfl,rfl,trivial⟩
def O3: eO 257 qh:=ae λ(((z:Int),(w:List Bool),(h:Li)),(a:Int),(b:Int),_)=>zE (A:=az) (p:=let e:=(z,w,h);(True->z6 a b e)) aFo λ_=>⟨rfl,rfl,rfl,trivial⟩
def AI{t:Int}: ct t=true↔¬t<0/\¬t>2000000:=by unfold ct;rw[qE];omega
def WB: eO 209 xi:=ae λ(((T,v,u,O,f,z):Net),(b:Int),(e:Li),_)=>by
 refine zE (A:=(lvA [(4,[3,6,8,18,19,20])] (xV e))) (p:=let G:=Dp b 0;let g:=Dj G;let L:=Ea G true (Ed b (Df f));let h:=(T,v,u,O,f,z);let r:=bO h b e;(YB e->L4 g (Q4 g ((Dh true g->g)/\(L->false=r/\True)/\(L=false->(∃x,DC e x/\L7 h e (Df e) (0=x/\True))/\∀(x:Int),let X:=Dp x (Df e);let c7:=Du e (Dc x) 0;let V:=Dp c7 0;let A:=Dj V;let j:=Ea V true (Ei c7 2000000);let i:=x+1;DC e x->(X->0<=x/\x<Df e/\L4 A ((Dh true A->A)/\(j->false=r/\True)/\(j=false->inR .i64 i/\∃y,DC e y/\(L7 h e (Df e) (i=y/\True))/\Dc (Df e-y)<Dc (Df e-x))))/\(X=false->True/\Ec (Df (ew h)) 0=r/\True)))))) aFo λhp=>?_
 refine Z9 ?_;have hp':e.length<=1000000:=hp;refine⟨λh=>?_,λ⟨h1,h2⟩=>⟨⟨qH _,qM _,rfl⟩,λk ⟨X,k1,r⟩=>⟨λG=>?_,λG=>?_⟩⟩⟩
 .unfold bO;have:du b (f.length:Nat)=false:=by unfold du;exact vC Z
  show false=(du b (f.length:Nat)&&_&&_);rw[this];rfl
 .have L:e.getD k.toNat 0=e[k.toNat]:=by rw[qA,qB Z,qK]
  refine⟨X,G,λh=>?_,λh=>⟨aD Z,k+1,⟨Z,Z,?_⟩,rfl,Z⟩⟩
  .have hn:e.all ct=false:=by
    rw[qDa];refine⟨e[k.toNat],wL _,λg=>?_⟩;rw[<- L,AI]at g;omega
   unfold bO;rw[hn,yH];rfl
  .rw[show(k+1).toNat=k.toNat+1 by omega,wU,qB Z,qAy,gZ,r,<- L];show(true&&(ct _&&true))=true;rw[AI.2 h];rfl
 .have e1:du b (f.length:Nat)=true:=by unfold du;exact qW Z
  have e2:e.all ct=true:=by
   rw[qN Z]at r;exact r
  unfold bO aR;show _=(du b (f.length:Nat)&&e.all ct&&_);rw[e1,e2];cases ew (T,v,u,O,f,z)with
  | nil=>rfl
  | cons a l=>
   show decide _=false;rw[vZ];show ¬((((a::l).length:Nat):Int)=0);rw[wS];omega
def dU{d:Int}: bC d=true↔-1000000<=d/\d<=1000000:=by unfold bC;rw[qE]
def aAj(a b:Int)(c:C.den): mA Tryz.prog G0 285 [.ip I a,.ip I b,.ip C c] ⟨Gk c.1 c.2.1 c.2.2 a b,I,jm c.2.1 c.2.2 a b⟩:=by
 obtain⟨z,w,h⟩:=c;refine rX (c:=mkc KT5) (A:=Zo w h a b) aFo iI hm ?_;refine V7 z a b w h ⟨rfl,rfl,rfl,rfl,λl ⟨r,O,G⟩=>?_⟩;refine Z9 ?_;have L:=dU.1 O;have y:=dU.1 G;refine⟨⟨a,⟨qH _,.inr rfl⟩,rfl,(OD w h a).symm⟩,λx i=>?_⟩;have e:=i.1;have j:=i.2
 refine⟨λu=>⟨⟨r,dU.2 Z⟩,λf=>⟨Vx e Z f,λs=>⟨λg1 g2=>(by rw[g1.2]at g2;cases g2),λg=>⟨aD Z,x+1,⟨Z,.inl Z⟩,⟨rfl,?_,g f⟩,Z⟩⟩⟩,λf=>⟨λg=>(by rw[f]at g;cases g),λ_=>⟨aD Z,x+1,⟨Z,.inl Z⟩,⟨rfl,?_⟩,Z⟩⟩⟩,λv=>?_⟩
 .rw[uP e,f];rfl
 .rw[uP e,f];rfl
 .exact cnt_end (n:=b-a+1) i Z
def aIY: ai Tryz.prog G0 KT6:=af aA9<|af O3<|af WB aFo
def aFC: bf Tryz.prog G0 aIt:=by
 intro f b c h;unfold aIt at h;split at h
 .cases h;exact aAj _ _ _
 .cases h
def Lx{f:Int->Int}{b y:Int}(e:¬f y<b): ∀{L:Li} {x:Nat},L[x]?=some y->(L.take x).all (λd=>decide (f d<b))=true->(L.map f).find? (λt=>decide (b<=t))=some (f y)
 | [],x,h,_=>by simp at h
 | a::L,0,h,_=>by
  have:a=y:=by simpa using h
  subst this;rw[zB,gY,qW (show b<=f a by omega)]
 | a::L,x+1,h,g=>by
  rw[List.take_succ_cons,qAu,qC,qE]at g;rw[zB,gY,vC (show ¬b<=f a by omega)];exact Lx e (by simpa using h) g.2
def UM{f:Int->Int}{b:Int}: ∀{L:Li},L.all (λd=>decide (f d<b))=true->(L.map f).find? (λt=>decide (b<=t))=none
 | [],_=>rfl
 | a::L,g=>by
  rw[qAu,qC,qE]at g;rw[zB,gY,vC (show ¬b<=f a by omega)];exact UM g.2
def rp{w:List Bool}{h:Li}{a b y:Int}(e:y∈jm w h a b): a<=y/\y<=b/\aW w h y=true:=by
 unfold jm cC at e;rw[yS]at e;obtain⟨e,f⟩:=e;obtain⟨i,g,rfl⟩:=vM.1 e;have:=qZ.1 g;exact⟨Z,Z,f⟩
def uC{z:Int}{w:List Bool}{h:Li}{t:Int}(b:ay z w h=true)(g:0<=t)(t1:t<=2000000): -2<=bE z t/\bE z t<=2000:=by
 obtain⟨⟨f,e,_⟩,_⟩:=bM.1 b;unfold bE;omega
def aAS: eO 210 BY:=ae λ(((u,i,h,r,g,j):Net),(b:Int),(e:Int),_)=>by
 refine zF (c:=mkr KT6 λ_=>false) (A:=(aEV (u,i,h,r,g,j) b e)) aIY aFC hm (p:=let V:=(u,i,h,r,g,j);let c2:=dJ V b;let A:=c2.1;let c4:=c2.2;let G:=c4.1;let O:=c4.2;let f:=bE A e;let v:=f+60;let T:=JC A e;let L:=(A,G,O);let c11:=jm G O f v;let X:=(Du g (Dc b) (ByteArray.mk #[],(0:Int),(0:Int),(0:Int),(0:Int),(0:Int))).2.2.2.1;let c13:=e+86400;let c14:=lv V b e;let c15:=jZ V b e;true/\(m6 V b e->KT V b/\Q3 1 0 1 0 (dW A G O e/\L5 1 0 (inR IntKind.i64 v/\True/\Gk A G O f v/\(∃x,firstTo V b e x/\x=0/\u=u/\i=i/\h=h/\r=r/\g=g/\j=j/\b=b/\e=e/\V=V/\b=b/\e=e/\1=1/\0=0/\0=0/\1=1/\0=0/\0=0/\1=1/\0=0/\0=0/\f=f/\T=T/\u=u/\i=i/\h=h/\r=r/\g=g/\j=j/\b=b/\A=A/\G=G/\O=O/\f=f/\T=T/\A=A/\G=G/\O=O/\e=e/\f=f/\T=T/\f=f/\T=T/\A=A/\G=G/\O=O/\f=f/\f=f/\v=v/\f=f/\v=v/\L=L/\(0:Int)=(0:Int)/\false=false/\A=A/\G=G/\O=O/\True)/\(∀(x:Nat) (y:Int),let c16:=Dp (fx A y X) e;let c17:=Ed (fx A y X) c13;
  firstTo V b e x->m4 c11 x y->L5 1 0 (0<=b/\b<Df g/\iV A G O y X/\(c16->∃z,firstTo V b e z/\z=x+1/\u=u/\i=i/\h=h/\r=r/\g=g/\j=j/\b=b/\e=e/\V=V/\b=b/\e=e/\1=1/\0=0/\0=0/\1=1/\0=0/\0=0/\1=1/\0=0/\0=0/\f=f/\T=T/\u=u/\i=i/\h=h/\r=r/\g=g/\j=j/\b=b/\A=A/\G=G/\O=O/\f=f/\T=T/\A=A/\G=G/\O=O/\e=e/\f=f/\T=T/\f=f/\T=T/\A=A/\G=G/\O=O/\f=f/\f=f/\v=v/\f=f/\v=v/\L=L/\(0:Int)=(0:Int)/\false=false/\A=A/\G=G/\O=O/\True)/\(c16=false->inR .i64 c13/\(c17->T5 1 0 1 0 1 0 1 0 (0=c14/\false=c15/\True))/\(c17=false->T5 1 0 1 0 1 0 1 0 (fx A y X=c14/\true=c15/\True)))))/\∀(x:Nat),firstTo V b e x->x=Dk c11->T5 1 0 1 0 1 0 1 0 (0=c14/\false=c15/\True))))) ⟨rfl,λhp=>?_⟩
 refine Z9 ?_;obtain⟨V,t0,t1⟩:=hp;obtain⟨hv,_,_,_,_,m0,m1⟩:=CZ u i h r g j V;obtain⟨d0,d1⟩:=uC hv t0 t1;refine⟨V,⟨hv,Z,Z⟩,aD Z,⟨hv,dU.2 Z,dU.2 Z⟩,⟨zA _,rfl⟩,λx y hx hy=>?_,λx hx V=>?_⟩
 .have G:(og (u,i,h,r,g,j) b e)[x]?=some y:=hy;obtain⟨y0,y1,yw⟩:=rp (zV hy);obtain⟨x1,T⟩:=hx;refine⟨V.2.1,V.2.2,⟨hv,dU.2 Z,m0,(by show(ak (u,i,h,r,g,j) b).2.2.2.1<1440;omega)⟩,λhlt=>⟨(qG.1 G).1,?_⟩,λX=>⟨aD Z,λhfar=>?_,λO=>?_⟩⟩
  .rw[wU,G,qAy,gZ,T];show(true&&(decide (aU (u,i,h,r,g,j) b y<e)&&true))=true;rw[qW (show aU (u,i,h,r,g,j) b y<e from hlt)];rfl
  .have hf:bG (u,i,h,r,g,j) b e=none:=by
    unfold bG;rw[Lx (f:=aU (u,i,h,r,g,j) b) X G T];show(if aU (u,i,h,r,g,j) b y<e+86400 then some (aU (u,i,h,r,g,j) b y)else none)=none;rw[if_neg (show ¬aU (u,i,h,r,g,j) b y<e+86400 from by have:aU (u,i,h,r,g,j) b y≥e+86400:=hfar;omega)]
   unfold lv jZ;rw[hf];exact⟨rfl,rfl⟩
  .have hf:bG (u,i,h,r,g,j) b e=some (aU (u,i,h,r,g,j) b y):=by
    unfold bG;rw[Lx (f:=aU (u,i,h,r,g,j) b) X G T];show(if aU (u,i,h,r,g,j) b y<e+86400 then some (aU (u,i,h,r,g,j) b y)else none)=_;rw[if_pos (show aU (u,i,h,r,g,j) b y<e+86400 from by have:¬aU (u,i,h,r,g,j) b y≥e+86400:=O;omega)]
   unfold lv jZ;rw[hf];exact⟨rfl,rfl⟩
 .obtain⟨x1,T⟩:=hx;have hx':x=(og (u,i,h,r,g,j) b e).length:=V;rw[hx',xQ]at T;have hf:bG (u,i,h,r,g,j) b e=none:=by
   unfold bG;rw[UM T];rfl
  unfold lv jZ;rw[hf];exact⟨rfl,rfl⟩
def aJY: ai Tryz.prog G0 KT7:=af aAS aIY
def dH(n:Net)(l t:Int): Int:=if bO n l [t]then lv n l t else 0
def fX(n:Net)(l t:Int): Int:=if bO n l [t]then(if jZ n l t then 0 else 20)else 1
def mT(a b:Int): Int:=if a<b then b else a
def KT8: Kt:=KT7
abbrev NS:=al [.val I] (λ_=>True) λ_=>.dat .bool false
def KT9: Kt:=kOr 287 NS KT8
abbrev Ij:=al [.val I,.val I] (λ_=>True) λ(x,y,_)=>.dat .bool (Dp x y)
def aIP: Kt:=kOr 258 Ij KT9
abbrev tz:=al [.val I,.val I] (λ_=>True) λ(x,y,_)=>.dat I (mT x y)
def aIO: Kt:=kOr 211 tz aIP
def fZ(v:LC)(i g:LB)(u:Lo)(j:Ll)(r:Lk){line b:Int}{x:Li}(h:bO (v,i,g,u,j,r) line x=true)(y:b∈x): m6 (v,i,g,u,j,r) line b:=by
 unfold bO at h;rw[qC,qC]at h;obtain⟨⟨f,G⟩,A⟩:=h;have f:=vN f;have z:=((CX v i g u j r).1 (wY.1 A)).1;have e:=vN (qO.1 G b y);exact⟨⟨z,f.1,f.2⟩,e.1,e.2⟩
def aIX: ai Tryz.prog G0 KT8:=aJY
def aGW: eO 287 NS:=ae λ((x:Int),_)=>zE (A:=az) (p:=(True->Dw x x=false/\True)) aIX λ_=>⟨by simp[Dw],trivial⟩
def aIW: ai Tryz.prog G0 KT9:=af aGW aIX
def aDE: eO 258 Ij:=ae λ((x:Int),(y:Int),_)=>by
 refine zE (A:=az) (p:=let e:=Ea false (Dj false) false;let b:=Dj e;(True->True/\L4 false ((false->True)/\L4 false ((Dh true false->false)/\Q2 b ((Dh true b->b)/\Ea e true (Dp x y)=Dp x y/\True))))) aIW λ_=>?_
 exact⟨trivial,λh=>(by cases h),λ_=>trivial,λh=>(by cases h),λh=>(by cases h),λh _=>h,λh _=>h,λh=>h,rfl,trivial⟩
def aFr: ai Tryz.prog G0 aIP:=af aDE aIW
def RJ: eO 211 tz:=ae λ((x:Int),(y:Int),_)=>by
 refine zE (A:=az) (p:=(True->True/\(Dp x y->y=mT x y/\True)/\(Dp x y=false->x=mT x y/\True))) aFr λ_=>⟨trivial,λh=>⟨?_,trivial⟩,λh=>⟨?_,trivial⟩⟩
 .unfold mT;rw[if_pos (vN h)]
 .unfold mT;rw[if_neg (xJ h)]
def aIa: ai Tryz.prog G0 aIO:=af RJ aFr
def waitGo(n:Net)(line b:Int): Nat->Int->Int->Option Int
 | 0,_,m=>some m
 | k+1,t,m=>if t<b then(bG n line t).bind λu=>waitGo n line b k (u+1) (mT m (u-t))else some m
def ui(n:Net)(line a b:Int): Option Int:=waitGo n line b (b-a).toNat a 0
def jL(n:Net)(line a b:Int): Bool:=bO n line [a,b]&&decide (a<b)&&decide (b<=a+86400)
def mq(n:Net)(line a b:Int): Int:=if jL n line a b then(ui n line a b).getD 0 else 0
def nU(n:Net)(line a b:Int): Int:=if jL n line a b then(if(ui n line a b).isSome then 0 else 20)else 1
def L2(n:Net)(line a b m t:Int): Prop:=jL n line a b=true/\a<=t/\t<=b+86400/\0<=m/\m<=86400/\waitGo n line b (b-t).toNat t m=ui n line a b
def aH5: Kt:=aIO
def aGn(n:Net)(line a b:Int): Ann:=Z8 5 (Int×Int) (λx=>L2 n line a b x.1 x.2) (λs x=>put s [(10,.dat I x.1),(11,.dat I x.2)]) λx=>Dc (Di b x.2)
abbrev Ic:=al [.row N,.val I,.val I,.val I] (λ_=>True) λ(n,l,a,b,_)=>.tup [.dat I (mq n l a b),.dat I (nU n l a b)]
def aIN: Kt:=kOr 143 Ic aH5
def aFq: ai Tryz.prog G0 aH5:=aIa
def Az(r:LC)(f e:LB)(j:Lo)(g:Ll)(i:Lk){line a b:Int}(h:bO (r,f,e,j,g,i) line [a,b]=true): m6 (r,f,e,j,g,i) line a/\m6 (r,f,e,j,g,i) line b:=
 ⟨fZ r f e j g i h (by simp),fZ r f e j g i h (by simp)⟩
def fi{n:Net}{l t u:Int}(h:bG n l t=some u): t<=u/\u<t+86400:=by
 unfold bG at h;cases e:((og n l t).map (aU n l)).find? (λv=>decide (t<=v))with
 | none=>rw[e]at h;cases h
 | some v=>
  rw[e]at h;have b:=vN (qDs (p:=λv=>decide (t<=v)) e);have h:(if v<t+86400 then some v else none)=some u:=h;split at h
  .cases h;exact⟨b,by assumption⟩
  .cases h
def oI{n:Net}{l b:Int}: ∀(k j:Nat) (t m:Int),(b-t).toNat<=k->(b-t).toNat<=j->waitGo n l b k t m=waitGo n l b j t m
 | 0,0,_,_,_,_=>rfl
 | 0,j+1,t,m,h,_=>by rw[waitGo,waitGo,if_neg Z]
 | k+1,0,t,m,_,h=>by rw[waitGo,waitGo,if_neg Z]
 | k+1,j+1,t,m,i,f=>by
  rw[waitGo,waitGo];by_cases g:t<b
  .rw[if_pos g,if_pos g];cases e:bG n l t with
   | none=>rfl
   | some u=>
    have:=fi e;exact oI k j (u+1) _ Z Z
  .rw[if_neg g,if_neg g]
def aDu: eO 143 Ic:=ae λ(((z,i,g,v,j,r):Net),(f:Int),(a:Int),(b:Int),_)=>by
 refine zF (c:=mkr aH5 λ_=>false) (A:=(lvA [(5,[1,3,4,8,9,10,11,12,13])] (aGn (z,i,g,v,j,r) f a b))) aFq aFC hm (p:=let G:=[a,b];let e:=(z,i,g,v,j,r);let L:=Dj (bO e f G);let u:=Dj L;let O:=Ea L true (Ee b a);let h:=Dj O;let V:=a+86400;let c8:=Ea O true (Ei b V);let A:=mq e f a b;let T:=nU e f a b;true/\(True->YB G/\Q2 u ((Dh true u->u)/\L4 h ((h->inR .i64 V)/\Q2 h ((Dh true h->h)/\(c8->0=A/\1=T/\True)/\(c8=false->(∃(x:Int×Int),L2 e f a b x.1 x.2/\L7 f b e (0=x.1/\a=x.2/\True))/\∀(x:Int×Int),let X:=Dp x.2 b;let c12:=Dj (jZ e f x.2);let c13:=lv e f x.2;let c14:=c13-x.2;let c15:=c13+1;L2 e f a b x.1 x.2->(X->m6 e f x.2/\(c12->0=A/\20=T/\True)/\(c12=false->inR .i64 c14/\True/\inR .i64 c15/\∃(y:Int×Int),L2 e f a b y.1 y.2/\(L7 f b e (mT x.1 c14=y.1/\c15=y.2/\True))/\Dc (b-y.2)<Dc (b-x.2)))/\(X=false->x.1=A/\0=T/\True))))))) ⟨rfl,λ_=>?_⟩
 refine Z9 ?_;have h2:YB [a,b]:=(by show(2:Nat)<=1000000;decide);refine⟨h2,λ⟨hu,_⟩=>?_,λh=>?_,λ⟨⟨hu,hab⟩,hb⟩=>?_⟩
 .obtain⟨⟨_,a0,a1⟩,_⟩:=Az z i g v j r hu;exact aD Z
 .have hn:jL (z,i,g,v,j,r) f a b=false:=by
   unfold jL;rcases h with(h | h) | h
   .rw[h];rfl
   .rw[vC (show ¬a<b by omega),yH];rfl
   .rw[vC (show ¬b<=a+86400 by omega),yH]
  unfold mq nU;rw[hn];exact⟨rfl,rfl⟩
 .obtain⟨⟨hl,a0,a1⟩,_,b0,b1⟩:=Az z i g v j r hu;have L:jL (z,i,g,v,j,r) f a b=true:=by
   unfold jL;rw[hu,qW (show a<b by omega),qW (show b<=a+86400 by omega)];rfl
  refine⟨⟨(0,a),⟨L,qH _,(by show a<=b+86400;omega),qH _,(by show(0:Int)<=86400;omega),rfl⟩,rfl,rfl⟩,λx=>?_⟩;obtain⟨m,t⟩:=x;simp only;rintro⟨_,t0,t1,m0,m1,G⟩;refine⟨λht=>?_,λht=>?_⟩
  .have hk:(b-t).toNat=(b-t).toNat-1+1:=by omega
   rw[hk,waitGo,if_pos ht]at G;refine⟨⟨hl,Z,Z⟩,λO=>?_,λO=>?_⟩
   .have e:bG (z,i,g,v,j,r) f t=none:=by
     unfold jZ at O;cases e:bG (z,i,g,v,j,r) f t with
     | none=>rfl
     | some u=>rw[e]at O;cases O
    rw[e]at G;have G:ui (z,i,g,v,j,r) f a b=none:=G.symm;unfold mq nU;rw[L,G];exact⟨rfl,rfl⟩
   .obtain⟨u,e⟩:∃u,bG (z,i,g,v,j,r) f t=some u:=by
     unfold jZ at O;cases e:bG (z,i,g,v,j,r) f t with
     | none=>rw[e]at O;cases O
     | some u=>exact⟨u,rfl⟩
    obtain⟨u0,u1⟩:=fi e;have hd:lv (z,i,g,v,j,r) f t=u:=by unfold lv;rw[e];rfl
    rw[e]at G;have G:waitGo (z,i,g,v,j,r) f b ((b-t).toNat-1) (u+1) (mT m (u-t))=ui (z,i,g,v,j,r) f a b:=G;have V:0<=mT m (u-t)/\mT m (u-t)<=86400:=by unfold mT;split<;>omega
    rw[hd];refine⟨aD Z,aD Z,(mT m (u-t),u+1),⟨L,(by show a<=u+1;omega),(by show u+1<=b+86400;omega),V.1,V.2,?_⟩,⟨rfl,rfl⟩,(by show(b-(u+1)).toNat<_;omega)⟩;rw[<- G];exact oI _ _ _ _ (qJ _) (by show(b-(u+1)).toNat<=_;omega)
  .have hk:(b-t).toNat=0:=by omega
   rw[hk,waitGo]at G;unfold mq nU;rw[L,<- G];exact⟨rfl,rfl⟩
def aH9: ai Tryz.prog G0 aIN:=af aDu aFq
def Pj(n:Net)(line a b:Int): Li:=jm (dJ n line).2.1 (dJ n line).2.2 (bE (dJ n line).1 a) (bE (dJ n line).1 b)
def U0(n:Net)(line a b:Int)(k:Nat): Li:=(((Pj n line a b).take k).map (aU n line)).filter λt=>decide (a<=t)&&decide (t<b)
def cY(n:Net)(line a b:Int): Li:=if bO n line [a,b]&&decide (b<=a+86400)then U0 n line a b (Pj n line a b).length else[]
def Sl{n:Net}{line a b:Int}: (Pj n line a b).length<=(bE (dJ n line).1 b-bE (dJ n line).1 a+1).toNat:=by
 unfold Pj jm cC;exact wH (zQ _ _) (by rw[qY,qU];exact qJ _)
def isDep(n:Net)(l v:Int): Prop:=aW (dJ n l).2.1 (dJ n l).2.2 (bE (dJ n l).1 v)=true/\JC (dJ n l).1 v=(ak n l).2.2.2.1
def atOk(n:Net)(l:Int): Prop:=0<=(ak n l).2.2.2.1/\(ak n l).2.2.2.1<=1439
def EI(j:LC)(e b:LB)(i:Lo)(f:Ll)(g:Lk){line:Int}(h:KT (j,e,b,i,f,g) line): atOk (j,e,b,i,f,g) line:=by
 obtain⟨_,_,_,_,_,u,r⟩:=CZ j e b i f g h;exact⟨u,r⟩
def Ud{n:Net}{l:Int}(h:atOk n l)(d:Int): bE (dJ n l).1 (aU n l d)=d/\JC (dJ n l).1 (aU n l d)=(ak n l).2.2.2.1:=by
 unfold atOk at h;unfold bE JC aU fx;omega
def ng{n:Net}{l v:Int}(h:isDep n l v): aU n l (bE (dJ n l).1 v)=v:=by
 unfold isDep bE JC at h;unfold aU fx bE;omega
def qf{n:Net}{l d:Int}(h:atOk n l)(b:aW (dJ n l).2.1 (dJ n l).2.2 d=true): isDep n l (aU n l d):=by
 have:=Ud h d;unfold isDep;rw[this.1,this.2];exact⟨b,rfl⟩
def Bj{w:List Bool}{h:Li}{a b y:Int}(g:a<=y)(f:y<=b)(e:aW w h y=true): y∈jm w h a b:=by
 unfold jm cC;rw[yS];exact⟨vM.2 ⟨(y-a).toNat,qZ.2 Z,Z⟩,e⟩
def po(w:List Bool)(h:Li)(a b:Int): (jm w h a b).Pairwise (· < ·):=by
 unfold jm cC;refine List.Pairwise.filter _ ?_;rw[qBz];exact List.pairwise_lt_range.imp λh=>Z
def sY{n:Net}{l:Int}{L:Li}(h:L.Pairwise (· < ·)): (L.map (aU n l)).Pairwise (· < ·):=by
 rw[qBz];exact h.imp λh=>by unfold aU fx;omega
def r7{t u:Int}: ∀{L:Li},L.Pairwise (· < ·)->L.find? (λv=>decide (t<=v))=some u->u∈L/\t<=u/\∀v∈L,t<=v->u<=v
 | [],_,e=>by cases e
 | a::L,j,e=>by
  rw[gY]at e;obtain⟨y,x⟩:=yY.1 j;by_cases g:t<=a
  .rw[qW g]at e;have e:a=u:=wW e;subst e;refine⟨wB,g,λv b _=>?_⟩;rcases zK.1 b with rfl | b
   .exact qH _
   .have:=y v b;omega
  .rw[vC g]at e;obtain⟨i,h,f⟩:=r7 x e;refine⟨wX _ i,h,λv b r=>?_⟩;rcases zK.1 b with rfl | b
   .omega
   .exact f v b r
def I1{n:Net}{l t v:Int}(h:isDep n l v)(e:t<=v)(b:v<t+86400): v∈(og n l t).map (aU n l):=by
 refine vM.2 ⟨bE (dJ n l).1 v,Bj ?_ ?_ h.1,ng h⟩
 .unfold bE;omega
 .unfold bE;omega
def sB(n:Net)(l t:Int): ((og n l t).map (aU n l)).Pairwise (· < ·):=sY (po _ _ _ _)
def first_some{n:Net}{l t u:Int}(j:atOk n l)(h:bG n l t=some u): t<=u/\u<t+86400/\isDep n l u/\∀v,t<=v->v<u->¬isDep n l v:=by
 obtain⟨y,r⟩:=fi h;unfold bG at h;cases e:((og n l t).map (aU n l)).find? (λv=>decide (t<=v))with
 | none=>rw[e]at h;cases h
 | some x=>
  rw[e]at h;have h:(if x<t+86400 then some x else none)=some u:=h;split at h
  .cases h;obtain⟨g,A,f⟩:=r7 (sB n l t) e;obtain⟨d,hd,rfl⟩:=vM.1 g;refine⟨y,r,qf j (rp hd).2.2,λv b z i=>?_⟩;have:=f v (I1 i b Z) b;omega
  .cases h
def Qh{n:Net}{l t:Int}(h:bG n l t=none)(v:Int)(b:t<=v)(f:v<t+86400): ¬isDep n l v:=by
 intro g;have hm:=I1 g b f;unfold bG at h;cases e:((og n l t).map (aU n l)).find? (λv=>decide (t<=v))with
 | none=>
  rw[qBw]at e;exact e v hm (qW b)
 | some x=>
  rw[e]at h;have h:(if x<t+86400 then some x else none)=none:=h;split at h
  .cases h
  .have:=(r7 (sB n l t) e).2.2 v hm b;omega
def uM{n:Net}{l t u:Int}(h:atOk n l)(f:t<=u)(j:u<t+86400)(b:isDep n l u)(i:∀v,t<=v->v<u->¬isDep n l v): bG n l t=some u:=by
 cases e:bG n l t with
 | none=>exact(Qh e u f j b).elim
 | some x=>
  obtain⟨g1,g2,g3,g4⟩:=first_some h e;rcases Int.lt_trichotomy x u with g | g | g
  .exact(i x g1 g g3).elim
  .rw[g]
  .exact(g4 u f g b).elim
def On{n:Net}{l t:Int}(b:atOk n l)(h:∀v,t<=v->v<t+86400->¬isDep n l v): bG n l t=none:=by
 cases e:bG n l t with
 | none=>rfl
 | some x=>
  obtain⟨g1,g2,g3,g4⟩:=first_some b e;exact(h x g1 g2 g3).elim
def AO: ∀{a b:Li},a.Pairwise (· < ·)->b.Pairwise (· < ·)->(∀x,x∈a↔x∈b)->a=b
 | [],[],_,_,_=>rfl
 | [],y::b,_,_,h=>by have:=(h y).2 wB;cases this
 | x::a,[],_,_,h=>by have:=(h x).1 wB;cases this
 | x::a,y::b,r,hb,h=>by
  obtain⟨j,v⟩:=yY.1 r;obtain⟨i,u⟩:=yY.1 hb;have e:x=y:=by
   rcases zK.1 ((h x).1 wB)with g | g
   .exact g
   .rcases zK.1 ((h y).2 wB)with k | k
    .exact k.symm
    .have:=j y k;have:=i x g;omega
  subst e;rw[AO v u λz=>⟨λf=>?_,λf=>?_⟩]
  .rcases zK.1 ((h z).1 (wX _ f))with g | g
   .have:=j z f;omega
   .exact g
  .rcases zK.1 ((h z).2 (wX _ f))with g | g
   .have:=i z f;omega
   .exact g
def I0(n:Net)(l a b:Int): Prop:=bO n l [a,b]=true/\b<=a+86400
def FI{n:Net}{l a b:Int}(h:I0 n l a b): cY n l a b=((Pj n l a b).map (aU n l)).filter λt=>decide (a<=t)&&decide (t<b):=by
 unfold cY U0;rw[h.1,qW h.2,xQ];rfl
def y6(n:Net)(l a b:Int): (cY n l a b).Pairwise (· < ·):=by
 unfold cY;split
 .unfold U0;refine List.Pairwise.filter _ (sY ?_);exact(po _ _ _ _).sublist (List.take_sublist _ _)
 .exact yV
def Nn{n:Net}{l a b v:Int}(i:atOk n l)(h:I0 n l a b): v∈cY n l a b↔a<=v/\v<b/\isDep n l v:=by
 rw[FI h,yS,qC,qE,qE];constructor
 .rintro⟨g,f,e⟩;obtain⟨d,hd,rfl⟩:=vM.1 g;exact⟨f,e,qf i (rp hd).2.2⟩
 .rintro⟨g,f,e⟩;refine⟨vM.2 ⟨bE (dJ n l).1 v,Bj ?_ ?_ e.1,ng e⟩,g,f⟩
  .unfold bE;omega
  .unfold bE;omega
def JK{n:Net}{l b w:Int}(j:atOk n l): ∀(k:Nat) (t m:Int),(b-t).toNat<=k->waitGo n l b k t m=some w->
  m<=w/\(∀s,t<=s->s<b->∃u,bG n l s=some u/\u-s<=w)/\(w=m\/∃s u,t<=s/\s<b/\(s=t\/t<=s-1/\isDep n l (s-1))/\bG n l s=some u/\u-s=w)
 | 0,t,m,O,h=>by
  rw[waitGo]at h;cases h;exact⟨qH _,λs g f=>Z,.inl rfl⟩
 | k+1,t,m,O,h=>by
  rw[waitGo]at h;by_cases i:t<b
  .rw[if_pos i]at h;cases e:bG n l t with
   | none=>rw[e]at h;cases h
   | some u=>
    rw[e]at h;have h:waitGo n l b k (u+1) (mT m (u-t))=some w:=h;obtain⟨g1,g2,g3,g4⟩:=first_some j e;obtain⟨V,G,r⟩:=JK j k (u+1) _ Z h;have hm:m<=mT m (u-t)/\u-t<=mT m (u-t)/\(mT m (u-t)=m\/mT m (u-t)=u-t):=by
     unfold mT;split<;>omega
    refine⟨Z,λs g f=>?_,?_⟩
    .by_cases L:u+1<=s
     .exact G s L f
     .exact⟨u,uM j Z Z g3 λv T x=>g4 v Z x,Z⟩
    .rcases r with r | ⟨s,y,g,f,s3,A,z⟩
     .rcases hm.2.2 with q | q
      .exact .inl Z
      .exact .inr ⟨t,u,qH _,i,.inl rfl,e,Z⟩
     .refine .inr ⟨s,y,Z,f,.inr ?_,A,z⟩;rcases s3 with rfl | s3
      .exact⟨Z,by rw[show u+1-1=u by omega];exact g3⟩
      .exact⟨Z,s3.2⟩
  .rw[if_neg i]at h;cases h;exact⟨qH _,λs g f=>Z,.inl rfl⟩
def JL{n:Net}{l b:Int}(i:atOk n l): ∀(k:Nat) (t m:Int),waitGo n l b k t m=none->∃s,t<=s/\s<b/\bG n l s=none/\(s=t\/t<=s-1/\isDep n l (s-1))
 | 0,t,m,h=>by rw[waitGo]at h;cases h
 | k+1,t,m,h=>by
  rw[waitGo]at h;by_cases g:t<b
  .rw[if_pos g]at h;cases e:bG n l t with
   | none=>exact⟨t,qH _,g,e,.inl rfl⟩
   | some u=>
    rw[e]at h;obtain⟨g1,g2,g3,g4⟩:=first_some i e;obtain⟨s,v,r,j,f⟩:=JL i k (u+1) _ h;refine⟨s,Z,r,j,.inr ?_⟩;rcases f with rfl | f
    .exact⟨Z,by rw[show u+1-1=u by omega];exact g3⟩
    .exact⟨Z,f.2⟩
  .rw[if_neg g]at h;cases h
open Go.Eng.Mp (aI cm oN bD upto at2 oy dK iq rC)
def dM: Int:=-1099511627776
def MU(a b:Int): Bool:=decide (0<=a)&&decide (a<b)&&decide (b<=2000000)&&decide (b<=a+86400)
def fC(n:Net)(a b:Int): Bool:=MU a b&&aR n
def aBA(n:Net)(a b:Int): Prop:=fC n a b=true
def rN(n:Net)(o:Int): Off:=n.2.2.2.1.getD o.toNat (⟨#[]⟩,0,0,0,0,0,[])
def qS(n:Net)(a b i:Int): Int:=if nU n i a b=0 then mq n i a b+(ak n i).2.2.2.2.1+(rN n (ak n i).2.2.1).2.2.2.2.1*(rN n (ak n i).2.2.1).2.2.2.2.2.1 else dM
def b9(n:Net)(a b:Int): Li:=(List.range n.2.2.2.2.1.length).map λi:Nat=>qS n a b i
def iU(n:Net)(a b k:Int): Li:=(b9 n a b).take k.toNat++List.replicate (n.2.2.2.2.1.length-k.toNat) 0
def I8(n:Net)(a b k:Int): Prop:=fC n a b=true/\0<=k/\k<=n.2.2.2.2.1.length
def fG(n:Net)(c:Li): Prop:=aR n=true/\c.length=n.2.2.2.2.1.length/\∀i:Int,0<=i->i<c.length->c.getD i.toNat 0=dM\/(0<c.getD i.toNat 0/\c.getD i.toNat 0<=1000000)
def PR(_ _:Int): Int:=dM
def aFV(_ _:Int): Prop:=True
def fL(b:Ll)(c:Li): Nat->Int->Int->Int
 | 0,_,_=>dM
 | k+1,o,d=>if c.getD k 0≠dM/\(b.getD k (⟨#[]⟩,0,0,0,0,0)).2.1=o/\(b.getD k (⟨#[]⟩,0,0,0,0,0)).2.2.1=d then max (fL b c k o d) (-(c.getD k 0))else fL b c k o d
def bn(n:Net)(c:Li)(k:Int): Lj:=aI (fL n.2.2.2.2.1 c k.toNat) n.2.2.2.1.length
def bB(n:Net)(c:Li): Lj:=bn n c n.2.2.2.2.1.length
def TX(n:Net)(c:Li)(k:Int): Prop:=fG n c/\0<=k/\k<=n.2.2.2.2.1.length
def Vq(e:Int)(s:Lj)(o d:Int): Int:=if e=0 then(if at2 s o d=dM then -1 else -(at2 s o d))else -1
def QH(e:Int)(s:Lj)(o d:Int): Prop:=e=0->oy o d s/\(at2 s o d=dM\/(-1152921504606846976<=at2 s o d/\at2 s o d<=1152921504606846976))
def bm(n:Net)(c:Li): Lj:=aI (Vq (iq (bB n c)) (dK (bB n c))) n.2.2.2.1.length
def iL(n:Net)(c:Li)(b:Lj)(o d i:Int): Bool:=decide ((ak n i).2.1=o)&&decide (c.getD i.toNat 0≠dM)&&decide (0<=at2 b (ak n i).2.2.1 d)&&decide (c.getD i.toNat 0+at2 b (ak n i).2.2.1 d=at2 b o d)
def As(n:Net)(c:Li)(b:Lj)(o d:Int): Int:=match(List.range n.2.2.2.2.1.length).find? λi:Nat=>iL n c b o d i with
 | some i=>i
 | none=>-1
def Vp(n:Net)(b:Lj): Prop:=∀o d:Int,0<=o->o<n.2.2.2.1.length->0<=d->d<n.2.2.2.1.length->oy o d b/\-1152921504606846976<=at2 b o d/\at2 b o d<=1152921504606846976
def Jj(n:Net)(c:Li)(b:Lj)(o d:Int): Prop:=fG n c/\Vp n b/\0<=o/\o<n.2.2.2.1.length/\0<=d/\d<n.2.2.2.1.length
def zm(n:Net)(c:Li)(b:Lj)(o d k:Int): Prop:=Jj n c b o d/\0<=k/\k<=n.2.2.2.2.1.length/\(List.range k.toNat).all (λi:Nat=>!iL n c b o d i)=true
def uv(n:Net)(c:Li)(b:Lj)(o d:Int): Int:=if o=d\/at2 b o d<0 then -1 else As n c b o d
def aBV(n:Net)(c:Li): Lj:=aI (uv n c (bm n c)) n.2.2.2.1.length
def aF(n:Net)(a b:Int): Li:=if fC n a b then b9 n a b else[]
def aL(n:Net)(a b:Int): Lj:=if fC n a b then bm n (b9 n a b)else[]
def bA(n:Net)(a b:Int): Lj:=if fC n a b then aBV n (b9 n a b)else[]
def KQ0: Kt:=kOr 145 (al [.val M] (λ(m,_)=>rC m) λ(m,_)=>.tup [.dat M (dK m),.dat I (iq m)]) aIN
def aE9(n:Net)(a b:Int): Ann:=⟨λf s=>match f with
 | 3=>match s.sig.T 16 with
  | .buf e _=>some {α:=Int,inv:=λk=>I8 n a b k,st:=λk=>fu (put s [(20,.dat I k)]) e (.buf 3 I (iU n a b k) []),μ:=λk=>Dc (Di (Df n.2.2.2.2.1) k)}
  | _=>none
 | _=>none,λ_ _=>none,λ_ _=>none⟩
def aDp(n:Int)(g:Int->Int->Int): Ann:=⟨λe s=>match e with
 | 3=>match s.sig.T 11 with
  | .buf b _=>some {α:=Int,inv:=λk=>upto k n,st:=λk=>fu (put s [(14,.dat I k),(5,.buf b (Dc n))]) b (.buf 36 R (cm g n k) []),μ:=λk=>Dc (Di n k)}
  | _=>none
 | 7=>match s.sig.T 6,s.sig.T 22 with
  | .dat (.int .i64) i,.buf b _=>some {α:=Int,inv:=λk=>upto k n,st:=λk=>fu (put s [(29,.dat I k)]) b (.buf 3 I (oN g n i k) []),μ:=λk=>Dc (Di n k)}
  | _,_=>none
 | _=>none,λ_ _=>none,λ_ _=>none⟩
def aDo(n:Int)(g:Int->Int->Int): Ann:=⟨λe s=>match e with
 | 3=>match s.sig.T 11 with
  | .buf b _=>some {α:=Int,inv:=λk=>upto k n,st:=λk=>fu (put s [(14,.dat I k),(5,.buf b (Dc n))]) b (.mat 36 3 I (cm g n k) []),μ:=λk=>Dc (Di n k)}
  | _=>none
 | 7=>match s.sig.T 6,s.sig.T 22 with
  | .dat (.int .i64) i,.buf b _=>some {α:=Int,inv:=λk=>upto k n,st:=λk=>fu (put s [(29,.dat I k)]) b (.buf 3 I (oN g n i k) []),μ:=λk=>Dc (Di n k)}
  | _,_=>none
 | _=>none,λ_ _=>none,λ_ _=>none⟩
def Rh(args:List AV)(m:Mem): Option jG:=match m,args with
 | [],[.agg [.dat (.sl (.pair (.int .i64) (.pair (.sl .bool) (.sl (.int .i64))))) j,.dat (.sl .str) g,.dat (.sl .str) f,.dat (.sl (.pair .str (.pair (.int .i64) (.pair (.int .i64) (.pair (.int .i64) (.pair (.int .i64) (.pair (.int .i64) (.sl .str)))))))) b,.dat (.sl (.pair .str (.pair (.int .i64) (.pair (.int .i64) (.pair (.int .i64) (.pair (.int .i64) (.int .i64))))))) h,.dat (.sl (.pair .str (.pair (.int .i64) (.int .i64)))) i],.fn 144 []]=>some ⟨bD (Df b) aFV,.buf 0 (Dk (aI PR (Df b))),[(0,.mat 36 3 I (aI PR (Df b)) [])]⟩
 | [],[.agg [.dat (.sl (.pair (.int .i64) (.pair (.sl .bool) (.sl (.int .i64))))) j,.dat (.sl .str) g,.dat (.sl .str) f,.dat (.sl (.pair .str (.pair (.int .i64) (.pair (.int .i64) (.pair (.int .i64) (.pair (.int .i64) (.pair (.int .i64) (.sl .str)))))))) b,.dat (.sl (.pair .str (.pair (.int .i64) (.pair (.int .i64) (.pair (.int .i64) (.pair (.int .i64) (.int .i64))))))) h,.dat (.sl (.pair .str (.pair (.int .i64) (.int .i64)))) i],.fn 146 [.ip (.int .i64) e,.ip (.sl (.sl (.int .i64))) s]]=>some ⟨bD (Df b) (QH e s),.dat M (aI (Vq e s) (Df b)),[]⟩
 | _,_=>none
abbrev Ie:=al [.row N,.val I,.val I] (λ_=>True) λ(n,a,b,_)=>.dat .bool (fC n a b)
abbrev Cd:=al [.row N,.val I,.val I] (λ(n,a,b,_)=>aBA n a b) λ(n,a,b,_)=>.dat R (b9 n a b)
def KQ1: Kt:=kOr 75 Rh <|
 kOr 72 Ie <|
 kOr 73 Cd KQ0
def X8(s:St): List Nat:=s.mem.filterMap λp=>match p.2 with
 | .mat _ _ _ _ _=>some p.1
 | _=>none
def aCD(n:Net)(c:Li): Ann:=⟨λb s=>match b with
 | 3=>match s.sig.T 11 with
  | .buf e _=>some {α:=Int,inv:=λk=>TX n c k,st:=λk=>fu (put s [(15,.dat I k)]) e (.mat 36 3 I (bn n c k) []),μ:=λk=>Dc (Di (Df n.2.2.2.2.1) k)}
  | _=>none
 | _=>none,λb s=>match b with
 | 8=>some (frz (X8 s) s)
 | 9=>some (frz (allNames s) s)
 | _=>none,λ_ _=>none⟩
def aHZ(n:Net)(c:Li)(b:Lj)(o d:Int): Ann:=Z8 3 Int (zm n c b o d) (λs k=>put s [(17,.dat I k),(11,.dat I (-1))]) λk=>Dc (Di (Df n.2.2.2.2.1) k)
abbrev tj:=al [.row N,.val R] (λ(n,c,_)=>fG n c) λ(n,c,_)=>.dat M (bm n c)
abbrev It:=al [.row N,.val R,.val M,.val I,.val I] (λ(n,c,b,o,d,_)=>Jj n c b o d) λ(n,c,b,o,d,_)=>.dat I (As n c b o d)
def KQ2: Kt:=kOr 74 tj <|
 kOr 77 It KQ1
def KQ3: Kt:=kOr 75 (λargs m=>match m,args with
 | [],[.agg [.dat (.sl (.pair (.int .i64) (.pair (.sl .bool) (.sl (.int .i64))))) j,.dat (.sl .str) g,.dat (.sl .str) f,.dat (.sl (.pair .str (.pair (.int .i64) (.pair (.int .i64) (.pair (.int .i64) (.pair (.int .i64) (.pair (.int .i64) (.sl .str)))))))) e,.dat (.sl (.pair .str (.pair (.int .i64) (.pair (.int .i64) (.pair (.int .i64) (.pair (.int .i64) (.int .i64))))))) h,.dat (.sl (.pair .str (.pair (.int .i64) (.int .i64)))) i],.fn 76 [.ip (.sl (.sl (.int .i64))) b,.ip (.pair (.sl (.pair (.int .i64) (.pair (.sl .bool) (.sl (.int .i64))))) (.pair (.sl .str) (.pair (.sl .str) (.pair (.sl (.pair .str (.pair (.int .i64) (.pair (.int .i64) (.pair (.int .i64) (.pair (.int .i64) (.pair (.int .i64) (.sl .str)))))))) (.pair (.sl (.pair .str (.pair (.int .i64) (.pair (.int .i64) (.pair (.int .i64) (.pair (.int .i64) (.int .i64))))))) (.sl (.pair .str (.pair (.int .i64) (.int .i64))))))))) n,.ip (.sl (.int .i64)) c]]=>some ⟨bD (Df e) (Jj n c b),.dat M (aI (uv n c b) (Df e)),[]⟩
 | _,_=>none) KQ2
def aEj: Ann:=⟨λ_ _=>none,λb s=>match b with
 | 5=>some (frz (allNames s) s)
 | _=>none,λ_ _=>none⟩
def dF(i:LC)(f e:LB)(h:Lo)(b:Ll)(g:Lk)(line:Int): b.getD line.toNat (⟨#[]⟩,0,0,0,0,0)=ak (i,f,e,h,b,g) line:=rfl
def Ax{n:Net}{l b:Int}: ∀(k:Nat) (t m w:Int),0<=m->m<=86400->waitGo n l b k t m=some w->0<=w/\w<=86400
 | 0,t,m,w,g,f,h=>by rw[waitGo]at h;cases h;exact⟨g,f⟩
 | k+1,t,m,w,g,f,h=>by
  rw[waitGo]at h;split at h
  .cases e:bG n l t with
   | none=>rw[e]at h;cases h
   | some u=>
    rw[e]at h;have:=fi e;exact Ax k (u+1) (mT m (u-t)) w (by unfold mT;split<;>omega) (by unfold mT;split<;>omega) h
  .cases h;exact⟨g,f⟩
def aCN: ai Tryz.prog G0 KQ0:=af (ae λ(m,_)=>Mp.aD2 m) aH9
def rG{a b:Int}: MU a b=true↔0<=a/\a<b/\b<=2000000/\b<=a+86400:=by
 unfold MU;simp only[qC,qE,qCh]
def GY{n:Net}: aR n=decide (((ew n).length:Int)=0):=by
 unfold aR;cases ew n with
 | nil=>rfl
 | cons a l=>
  symm
  show decide _=false;rw[vZ,wS];omega
def jQ{n:Net}{a b:Int}: fC n a b=true↔(0<=a/\a<b/\b<=2000000/\b<=a+86400)/\aR n=true:=by
 unfold fC;rw[qC,rG]
def aDy: eO 72 Ie:=ae λ(((u,g,f,r,i,j):Net),(a:Int),(b:Int),_)=>by
 refine zE (A:=az) (p:=let y:=Dp a 0;let v:=Dj y;let z:=Ea y true (Ee b a);let x:=Dj z;let A:=Ea z true (Ei b 2000000);let h:=Dj A;let G:=Ea A true (Ei (b-a) 86400);let e:=(u,g,f,r,i,j);let L:=fC e a b;(True->Q2 v ((Dh true v->v)/\L4 x ((Dh true x->x)/\Q2 h ((h->inR .i64 (b-a))/\L4 h ((Dh true h->h)/\(G->false=L/\True)/\(G=false->True/\Ec (Df (ew e)) 0=L/\True))))))) aCN λ_=>?_
 refine Z9 ?_;refine⟨λh=>aD Z,λh=>?_,λh=>?_⟩
 .unfold fC;have:MU a b=false:=by
   rw[<- xU,rG];omega
  rw[this];rfl
 .unfold fC;rw[rG.2 Z,zX,GY];rfl
def db(r:LC)(g f:LB)(e:Lo)(b:Ll)(j:Lk){i:Int}(h:aR (r,g,f,e,b,j)=true)(G:0<=i)(A:i<b.length): 0<=(ak (r,g,f,e,b,j) i).2.1/\(ak (r,g,f,e,b,j) i).2.1<e.length/\0<=(ak (r,g,f,e,b,j) i).2.2.1/\(ak (r,g,f,e,b,j) i).2.2.1<e.length/\(ak (r,g,f,e,b,j) i).2.1≠(ak (r,g,f,e,b,j) i).2.2.1/\1<=(ak (r,g,f,e,b,j) i).2.2.2.2.1/\(ak (r,g,f,e,b,j) i).2.2.2.2.1<=5000:=by
 have u:=aS r g f e b j h;have v:ak (r,g,f,e,b,j) i∈b:=by
  unfold ak;show b.getD i.toNat _∈b;rw[qA,qB Z,qK];exact wL _
 obtain⟨g1,g2,g3,g4,z,L,y,x⟩:=jX ((mQ r g f e b j u).2.2.2 _ v);exact⟨g1,g2,g3,g4,z,y,x⟩
def pF(r:LC)(g f:LB)(e:Lo)(i:Ll)(j:Lk){o:Int}(h:aR (r,g,f,e,i,j)=true)(L:0<=o)(G:o<e.length): 0<(rN (r,g,f,e,i,j) o).2.2.2.2.1*(rN (r,g,f,e,i,j) o).2.2.2.2.2.1/\(rN (r,g,f,e,i,j) o).2.2.2.2.1*(rN (r,g,f,e,i,j) o).2.2.2.2.2.1<=960:=by
 have u:=aS r g f e i j h;have y:rN (r,g,f,e,i,j) o∈e:=by
  unfold rN;show e.getD o.toNat _∈e;rw[qA,qB Z,qK];exact wL _
 have v:=(dE r g f e i j u).2.2.2 _ y;unfold cU du cL at v;simp only[qC,qE]at v;obtain⟨⟨_,A,p1⟩,z,x⟩:=v;generalize (rN (r,g,f,e,i,j) o).2.2.2.2.1=p at *;generalize (rN (r,g,f,e,i,j) o).2.2.2.2.2.1=q at *;refine⟨Int.mul_pos Z Z,?_⟩;have:=kL (a:=p) (b:=q) (c:=4) (d:=240) p1 x Z Z;omega
def JJ(v:LC)(j g:LB)(u:Lo)(f:Ll)(r:Lk){i a b:Int}(h:fC (v,j,g,u,f,r) a b=true)(A:0<=i)(z:i<f.length): (nU (v,j,g,u,f,r) i a b=0/\ui (v,j,g,u,f,r) i a b=some (mq (v,j,g,u,f,r) i a b)/\0<=mq (v,j,g,u,f,r) i a b/\mq (v,j,g,u,f,r) i a b<=86400)\/(nU (v,j,g,u,f,r) i a b=20/\ui (v,j,g,u,f,r) i a b=none):=by
 obtain⟨⟨X,O,V,L⟩,G⟩:=jQ.1 h;have y:bO (v,j,g,u,f,r) i [a,b]=true:=by
  unfold bO du;rw[G,gQ,qC];exact⟨qW ⟨A,z⟩,by simp[ct];omega⟩
 have x:jL (v,j,g,u,f,r) i a b=true:=by
  unfold jL;rw[y,qW O,qW L];rfl
 have T:=EI v j g u f r (fZ v j g u f r y (wB)).1;unfold nU mq;rw[if_pos x,if_pos x];cases e:ui (v,j,g,u,f,r) i a b with
 | none=>exact .inr ⟨rfl,rfl⟩
 | some w=>
  have:=Ax _ _ _ _ Z Z e;exact .inl ⟨rfl,rfl,this.1,this.2⟩
def Qs(v:LC)(j g:LB)(u:Lo)(f:Ll)(r:Lk){i a b:Int}(h:fC (v,j,g,u,f,r) a b=true)(y:0<=i)(x:i<f.length): qS (v,j,g,u,f,r) a b i=dM\/(0<qS (v,j,g,u,f,r) a b i/\qS (v,j,g,u,f,r) a b i<=100000):=by
 obtain⟨_,z⟩:=jQ.1 h;obtain⟨l0,l1,G,A,l4,X,V⟩:=db v j g u f r z y x;obtain⟨T,O⟩:=pF v j g u f r z G A;unfold qS;rcases JJ v j g u f r h y x with⟨e,_,w0,L⟩ | ⟨e,_⟩
 .rw[if_pos e];right;omega
 .rw[if_neg Z];exact .inl rfl
def cD(n:Net)(a b:Int): (b9 n a b).length=n.2.2.2.2.1.length:=by simp[b9]
def I7(r:LC)(g f:LB)(j:Lo)(e:Ll)(h:Lk)(a b:Int){i:Int}(u:0<=i)(v:i<e.length): (b9 (r,g,f,j,e,h) a b).getD i.toNat 0=qS (r,g,f,j,e,h) a b i:=by
 unfold b9;rw[qA,qR,vO (by show i.toNat<e.length;omega)];simp[vI u]
def jd(x:LC)(j f:LB)(v:Lo)(e:Ll)(r:Lk){a b:Int}(h:fC (x,j,f,v,e,r) a b=true): fG (x,j,f,v,e,r) (b9 (x,j,f,v,e,r) a b):=by
 refine⟨(jQ.1 h).2,cD _ _ _,λi y u=>?_⟩;have u:i<e.length:=by rw[cD]at u;exact u
 rw[I7 x j f v e r a b y u];rcases Qs x j f v e r h y u with g | g
 .exact .inl g
 .right;omega
def y8(r:LC)(g f:LB)(j:Lo)(e:Ll)(i:Lk){a b k:Int}(h:0<=k/\k<=e.length): (iU (r,g,f,j,e,i) a b k).length=e.length:=by
 unfold iU;rw[qF,qL,wO,cD];show min k.toNat e.length+(e.length-k.toNat)=e.length;omega
def t6(r:LC)(h g:LB)(j:Lo)(f:Ll)(i:Lk){a b k v:Int}(u:0<=k)(y:k<f.length)(x:v=qS (r,h,g,j,f,i) a b k): (iU (r,h,g,j,f,i) a b k).set k.toNat v=iU (r,h,g,j,f,i) a b (k+1):=by
 have e:(k+1).toNat=k.toNat+1:=Z;have:=Mp.E7 (b9 (r,h,g,j,f,i) a b) 0 v k.toNat (by
  unfold b9;rw[qR,vO (by show k.toNat<f.length;omega),x];simp[vI u])
 rw[cD]at this;unfold iU;rw[e];exact this
def aA4: eO 73 Cd:=ae λ(((r,i,h,g,f,j):Net),(a:Int),(b:Int),_)=>by
 refine zE (A:=(lvA [(3,[1,2,3,6,7,8,9,10,11,12,18,19,20])] (aE9 (r,i,h,g,f,j) a b))) (p:=let e:=(r,i,h,g,f,j);let u:=Df f;let v:=Dc u;(aBA e a b->0<=u/\(Dz 8*u)<=281474976710656/\u<=9223372036854775807/\(∃x,I8 e a b x/\T4 a b e Z0 v f u (0=x/\Et u (0:Int)=iU e a b x/\True))/\∀(x:Int),let O:=Dw (nU e x a b) 0;let A:=iU e a b x;let L:=Dk A;let G:=x+1;let z:=(Du f (Dc x) (ByteArray.mk #[],(0:Int),(0:Int),(0:Int),(0:Int),(0:Int))).2.2;let T:=mq e x a b+z.2.2.1;let V:=(Du g (Dc z.1) (ByteArray.mk #[],(0:Int),(0:Int),(0:Int),(0:Int),(0:Int),Dt ByteArray)).2.2.2.2;let X:=V.1*V.2.1;let c15:=T+X;I8 e a b x->(Dp x u->0<=x/\x<u/\L5 1 0 (True/\(O->L=v/\0<=x/\x<Dz L/\L=v/\inR .i64 G/\∃y,I8 e a b y/\(T4 a b e Z0 v f u (G=y/\Em A (Dc x) (-1099511627776)=iU e a b y/\True))/\Dc (u-y)<Dc (u-x))/\(O=false->L7 1 1 0 (0<=z.1/\z.1<Df g/\T2 1 0 1 1 0 (inR .i64 T/\T6 1 1 0 1 1 0 (inR .i64 X/\inR .i64 c15/\L=v/\0<=x/\x<Dz L/\L=v/\inR .i64 G/\∃y,I8 e a b y/\(T4 a b e Z0 v f u (G=y/\Em A (Dc x) c15=iU e a b y/\True))/\Dc (u-y)<Dc (u-x)))))))/\(Dp x u=false->L=v/\A=b9 e a b/\True))) aCN λG=>?_
 have G:fC (r,i,h,g,f,j) a b=true:=G;obtain⟨_,V⟩:=jQ.1 G;have l40:=(fO r i h g f j (aS r i h g f j V)).2;refine Z9 ?_;simp only[qc,dF r i h g f j];have X:∀x:Int,g.getD (ak (r,i,h,g,f,j) x).2.2.1.toNat (⟨#[]⟩,0,0,0,0,0,[])=rN (r,i,h,g,f,j) (ak (r,i,h,g,f,j) x).2.2.1:=λ_=>rfl
 refine⟨Z,Z,Z,⟨0,⟨G,Z,Z⟩,rfl,by simp[iU]⟩,λx hx=>⟨λu=>?_,λhge=>?_⟩⟩
 .obtain⟨_,v,O⟩:=hx;have T:=y8 r i h g f j (a:=a) (b:=b) ⟨v,O⟩;obtain⟨l0,l1,l2,l3,l4,l5,l6⟩:=db r i h g f j V v u;obtain⟨o0,o1⟩:=pF r i h g f j V l2 l3;refine⟨v,u,λhw=>?_,λhw=>?_⟩
  .refine⟨T,v,Z,T,aD Z,x+1,⟨G,Z,(by show x+1<=(f.length:Int);omega)⟩,⟨rfl,t6 r i h g f j v u ?_⟩,Z⟩;unfold qS;rw[if_neg hw];rfl
  .rcases JJ r i h g f j G v u with⟨e,_,w0,w1⟩ | ⟨e,_⟩
   .refine⟨l2,l3,aD Z,aD (by rw[X];omega),aD (by rw[X];omega),T,v,Z,T,aD Z,x+1,⟨G,Z,(by show x+1<=(f.length:Int);omega)⟩,⟨rfl,t6 r i h g f j v u ?_⟩,Z⟩;unfold qS;rw[if_pos e];rfl
   .exfalso;omega
 .obtain⟨_,v,O⟩:=hx;have O:x<=f.length:=O;have e:x.toNat=f.length:=Z;refine⟨y8 r i h g f j ⟨v,O⟩,?_⟩;unfold iU;rw[e,qN (by rw[cD];exact qJ _)];show _++List.replicate (f.length-f.length) 0=_;simp
def Ro(e:Int->Int->Prop)(g:Int->Int->Int)(cs:LC)(ns os:LB)(f:Lo)(ls:Ll)(ks:Lk): ah Tryz.prog G0 75 [net cs ns os f ls ks,.clo2 I I I e g] [] ⟨bD (Df f) e,.dat M (aI g (Df f)),[]⟩:=by
 refine zE (A:=(lvA [(3,[1,2,4,5,6,7,13,14,28,29]),(7,[1,2,4,5,6,7,13,14,28,29])] (aDp (Df f) g))) (p:=let r:=Ty.int .i64;let h:=Df f;let O:=Et h (Dt Int);let i:=Dc h;let z:=(cs,ns,os,f,ls,ks);let u:=Int.ofNat i;let A:=Et h (0:Int);(bD h e->0<=h/\(Dz 24*h)<=281474976710656/\h<=9223372036854775807/\Dk O=i/\(∃x,upto x h/\AV.clo2 r r r e g=AV.clo2 (Ty.int IntKind.i64) r r e g/\Q3 z Z0 i u (0=x/\O=cm g h x/\True))/\∀(x:Int),let v:=Dk (cm g h x);let c8:=x+1;upto x h->(Dp x u->0<=h/\(Dz 8*h)<=281474976710656/\h<=9223372036854775807/\v=i/\0<=x/\x<Dz v/\v=i/\Dk A=i/\v=i/\0<=x/\x<Dz v/\v=i/\Dc x=Dc x/\Dk A=i/\(∃b,upto b h/\T5 (AV.clo2 r r r e g) z Z0 i x u x u (0=b/\L7 (cm g h x) (Dc x) i (A=oN g h x b/\True)))/\∀(b:Int),let L:=oN g h x b;let j:=Dk L;let G:=b+1;upto b h->(Dp b u->v=i/\0<=x/\x<Dz v/\v=i/\Dc x=Dc x/\e x b/\j=i/\0<=b/\b<Dz j/\j=i/\inR .i64 G/\∃y,upto y h/\(T5 (AV.clo2 r r r e g) z Z0 i x u x u (G=y/\L7 (cm g h x) (Dc x) i (Em L (Dc b) (g x b)=oN g h x y/\True)))/\Dc (h-y)<Dc (h-b))/\(Dp b u=false->inR .i64 c8/\∃y,upto y h/\(T2 (AV.clo2 r r r e g) z Z0 i u (c8=y/\j=i/\Em (cm g h x) (Dc x) L=cm g h y/\True))/\Dc (h-y)<Dc (h-x)))/\(Dp x u=false->v=i/\cm g h x=aI g h/\True))) aCN λhp=>?_
 obtain⟨p1,p2,X⟩:=hp;simp only[qc,Dh,Eu,Dj,qd,Dt,Ec,Dw,Dp,Ei,Ee,Ed,Ez,Df,Eo,Dl,Dn,Es,Dy,Dx,Di,Dq,Eh,Fh,Dc,Dz,Dk,Eb,Ej,Du,Ey,Ew,Em,Ef,Fg,Fj,Fe,Et,En,Ep,Fb]at p1 p2 X ⊢;have T:(f.length:Int).toNat=f.length:=qP _;refine⟨Z,Z,Z,by simp,⟨0,⟨Z,.inr rfl⟩,by simp,by rw[Mp.nC];simp⟩,λx O=>⟨λv=>?_,λu=>?_⟩⟩
 .have z:=O.1;have i:=Mp.mJ g f.length x O;rw[T]at i;refine⟨Z,Z,Z,i,z,Z,i,by simp,i,z,Z,i,by simp,⟨0,⟨Z,.inr rfl⟩,by simp,by rw[Mp.vu];simp⟩,λy L=>⟨λr=>?_,λu=>?_⟩⟩
  .have V:=L.1;have h:=Mp.nD g f.length x y L;rw[T]at h;refine⟨i,z,Z,i,X x y z v V r,h,V,Z,h,aD Z,y+1,⟨Z,.inl Z⟩,⟨rfl,?_⟩,Z⟩;exact Mp.vw g f.length x y V r
  .have h:=Mp.nD g f.length x y L;rw[T]at h;refine⟨aD Z,x+1,⟨Z,.inl Z⟩,⟨rfl,h,?_⟩,Z⟩;exact Mp.rF g f.length x y z v L u
 .have i:=Mp.mJ g f.length x O;rw[T]at i;exact⟨i,Mp.vt g f.length x O u⟩
def WC(f:Int->Int->Prop)(g:Int->Int->Int)(cs:LC)(ns os:LB)(h:Lo)(ls:Ll)(ks:Lk): ah Tryz.prog G0 75 [net cs ns os h ls ks,.clo2 I I I f g] [] ⟨bD (Df h) f,.buf 0 (Dk (aI g (Df h))),[(0,.mat 36 3 I (aI g (Df h)) [])]⟩:=by
 refine zE (A:=(lvA [(3,[1,2,4,5,6,7,13,14,28,29]),(7,[1,2,4,5,6,7,13,14,28,29])] (aDo (Df h) g))) (p:=let r:=Ty.int .i64;let e:=Df h;let G:=Et e (Dt Int);let i:=Dc e;let z:=(cs,ns,os,h,ls,ks);let v:=Int.ofNat i;let A:=Et e (0:Int);let O:=aI g e;(bD e f->0<=e/\(Dz 24*e)<=281474976710656/\e<=9223372036854775807/\Dk G=i/\(∃x,upto x e/\AV.clo2 r r r f g=AV.clo2 (Ty.int IntKind.i64) r r f g/\Q3 z Z0 i v (0=x/\G=cm g e x/\Fb (cm g e x)/\True))/\∀(x:Int),let j:=Dk (cm g e x);let T:=x+1;upto x e->(Dp x v->0<=e/\(Dz 8*e)<=281474976710656/\e<=9223372036854775807/\j=i/\0<=x/\x<Dz j/\j=i/\Dk A=i/\j=i/\0<=x/\x<Dz j/\j=i/\Dc x=Dc x/\Dk A=i/\(∃b,upto b e/\T5 (AV.clo2 r r r f g) z Z0 i x v x v (0=b/\L7 (cm g e x) (Dc x) i (A=oN g e x b/\True)))/\∀(b:Int),let u:=oN g e x b;let L:=Dk u;let V:=b+1;upto b e->(Dp b v->j=i/\0<=x/\x<Dz j/\j=i/\Dc x=Dc x/\f x b/\L=i/\0<=b/\b<Dz L/\L=i/\inR .i64 V/\∃y,upto y e/\(T5 (AV.clo2 r r r f g) z Z0 i x v x v (V=y/\L7 (cm g e x) (Dc x) i (Em u (Dc b) (g x b)=oN g e x y/\True)))/\Dc (e-y)<Dc (e-b))/\(Dp b v=false->inR .i64 T/\∃y,upto y e/\(T2 (AV.clo2 r r r f g) z Z0 i v (T=y/\Dk u=i/\Em (cm g e x) (Dc x) u=cm g e y/\True))/\Dc (e-y)<Dc (e-x)))/\(Dp x v=false->i=Dk O/\cm g e x=O/\True))) aCN λhp=>?_
 obtain⟨p1,p2,p3⟩:=hp;simp only[qc,Dh,Eu,Dj,qd,Dt,Ec,Dw,Dp,Ei,Ee,Ed,Ez,Df,Eo,Dl,Dn,Es,Dy,Dx,Di,Dq,Eh,Fh,Dc,Dz,Dk,Eb,Ej,Du,Ey,Ew,Em,Ef,Fg,Fj,Fe,Et,En,Ep,Fb]at p1 p2 p3 ⊢;have X:(h.length:Int).toNat=h.length:=qP _;refine⟨Z,Z,Z,by simp,⟨0,⟨Z,.inr rfl⟩,by simp,by rw[Mp.nC];simp,?_⟩,λx hx=>⟨λO=>?_,λG=>?_⟩⟩
 .rw[Mp.nC];intro r hr;exact gJ hr
 .have T:=hx.1;have z:=Mp.mJ g h.length x hx;rw[X]at z;refine⟨Z,Z,Z,z,T,Z,z,by simp,z,T,Z,z,by simp,⟨0,⟨Z,.inr rfl⟩,by simp,by rw[Mp.vu];simp⟩,λy V=>⟨λv=>?_,λG=>?_⟩⟩
  .have h2:=V.1;have i:=Mp.nD g h.length x y V;rw[X]at i;refine⟨z,T,Z,z,p3 x y T O h2 v,i,h2,Z,i,aD Z,y+1,⟨Z,.inl Z⟩,⟨rfl,?_⟩,Z⟩;exact Mp.vw g h.length x y h2 v
  .have i:=Mp.nD g h.length x y V;rw[X]at i;refine⟨aD Z,x+1,⟨Z,.inl Z⟩,⟨rfl,i,?_⟩,Z⟩;exact Mp.rF g h.length x y T O V G
 .have e:=Mp.vt g h.length x hx G;refine⟨?_,e⟩;rw[Mp.fB,X]
def RZ(o d:Int): ah Tryz.prog G0 144 [.dat I o,.dat I d] [] ⟨aFV o d,.dat I (PR o d),[]⟩:=
 zE (A:=az) (p:=(aFV o d->(-1099511627776:Int)=PR o d/\True)) aCN λ_=>⟨rfl,trivial⟩
def RY(e:Int)(s:Lj)(o d:Int): ah Tryz.prog G0 146 [.dat I o,.dat I d,.ip I e,.ip M s] [] ⟨QH e s o d,.dat I (Vq e s o d),[]⟩:=by
 refine zE (A:=az) (p:=let g:=Dw e 0;let b:=Dj g;let f:=Du s (Dc o) [];let h:=Du f (Dc d) 0;let i:=Ea g true (Ec h (-1099511627776));let j:=Vq e s o d;let r:=Fh h;(QH e s o d->Q2 b ((b->0<=o)/\(b->o<Df s)/\Q4 b ((b->0<=d)/\(b->d<Df f)/\Q2 b ((Dh true b->b)/\(i->(-1:Int)=j/\True)/\(i=false->0<=o/\o<Df s/\0<=d/\d<Df f/\inR IntKind.i64 r/\r=j/\True)))))) aCN λb=>?_
 have g:(s.getD o.toNat []).getD d.toNat 0=at2 s o d:=rfl;refine Z9 ?_;simp only[qc,g];refine⟨λh=>(b h).1.1,λh=>(b h).1.2.1,λh=>(b h).1.2.2.1,λh=>(b h).1.2.2.2,λh=>?_,λh=>?_⟩
 .unfold Vq;rcases h with h | h
  .rw[if_neg h]
  .split
   .exact(if_pos h).symm
   .rfl
 .obtain⟨⟨u,r,j,i⟩,f⟩:=b h.1;refine⟨u,r,j,i,?_,?_⟩
  .rcases f with f | f
   .exact(h.2 f).elim
   .unfold inR;simp only;omega
  .unfold Vq;rw[if_pos h.1];exact(if_neg h.2).symm
def ix{P:Program}{C:Ctx}{a x e:AV}{b:Lv}(h:AV.relL P C [a,x] b)(f:∀v,x.rel P C v->e.rel P C v): AV.relL P C [a,e] b:=by
 obtain⟨u,b,rfl,j,r,b,rfl,i,g⟩:=h;exact⟨_,_,rfl,j,_,_,rfl,f _ i,g⟩
def Rf: ∀args m c,Rh args m=some c->ah Tryz.prog G0 75 args m c:=by
 intro args m c b;unfold Rh at b;split at b
 .rename_i A g f z h i;cases b;exact(WC _ _ A g f z h i).args λC G u r=>ix r λv j=>lB (by kernel_rfl) rfl (λx y=>RZ x y) u j
 .rename_i A g f z h i e s;cases b;exact(Ro _ _ A g f z h i).args λC G u r=>ix r λv j=>lB (by kernel_rfl) rfl (λx y=>RY e s x y) u j
 .cases b
def dD{g b:Int->Int->Int}{m:Nat}(h:∀i j:Int,0<=i->i<m->0<=j->j<m->g i j=b i j): aI g m=aI b m:=by
 unfold aI;simp only[qP];refine yA λi f=>yA λj e=>?_
 have:=qZ.1 f;have:=qZ.1 e;exact h _ _ Z Z Z Z
def sn{g:Int->Int->Int}{m:Nat}{a b v:Int}(y:0<=a)(x:a<m)(O:0<=b)(L:b<m):
  (aI g m).set a.toNat (((aI g m).getD a.toNat []).set b.toNat v)=aI (λo d=>if o=a/\d=b then v else g o d) m:=by
 rw[Mp.sr g m a y x];unfold aI;simp only[qP];refine qBr (by simp) λi G u=>?_
 rw[qY,qU]at u;rw[List.getElem_set];by_cases e:a.toNat=i
 .rw[if_pos e];rw[qBp,qAz];refine qBr (by simp) λj A r=>?_
  rw[qY,qU]at r;rw[List.getElem_set,qBp,qAz,qBp,qAz];have h:(i:Int)=a:=Z;by_cases f:b.toNat=j
  .rw[if_pos f,if_pos ⟨h,Z⟩]
  .rw[if_neg f,if_neg (λq=>f Z),h]
 .rw[if_neg e];rw[qBp,qBp,qAz];refine yA λj z=>?_
  rw[if_neg (λq=>e Z)]
def V9{m:Lj}(g:Mp.Sq m.length m)(y:m.length<=40)(h:∀i j:Int,0<=i->i<m.length->0<=j->j<m.length->Mp.uz (at2 m i j)=true): Mp.ay m=true:=by
 unfold Mp.ay;rw[qC,zY,zY,vZ,qAg];refine⟨Z,λr v=>?_⟩;obtain⟨i,x,rfl⟩:=List.getElem_of_mem v;have e:m[i]=m.getD (i:Int).toNat []:=by rw[qP,qA,qB x,qK]
 have b:=g.row i Z Z;rw[e];unfold Mp.oo;rw[xU,qBs,vZ,Mp.sx];refine⟨Z,λk u f=>?_⟩;rw[b]at f;exact h i k Z Z u f
def jw(b:Ll)(c:Li)(k:Nat)(o d:Int): fL b c (k+1) o d=if c.getD k 0≠dM/\(b.getD k (⟨#[]⟩,0,0,0,0,0)).2.1=o/\(b.getD k (⟨#[]⟩,0,0,0,0,0)).2.2.1=d then max (fL b c k o d) (-(c.getD k 0))else fL b c k o d:=rfl
def jV{n:Net}{c:Li}(h:fG n c)(f:Ll)(o d:Int): ∀k:Nat,k<=c.length->fL f c k o d=dM\/(-1000000<=fL f c k o d/\fL f c k o d<=-1)
 | 0,_=>.inl rfl
 | k+1,i=>by
  have b:=jV h f o d k Z;have e:=h.2.2 k Z Z;rw[qP]at e;rw[jw];split
  .rename_i g;rcases e with e | e
   .exact(g.1 e).elim
   .right
    rcases b with b | b
    .rw[b];unfold dM;omega
    .omega
  .exact b
def nI(i:LC)(f e:LB)(b:Lo)(g:Ll)(h:Lk)(c:Li)(k:Int): Mp.Sq b.length (bn (i,f,e,b,g,h) c k):=Mp.ij _ _
def jh(v:LC)(i f:LB)(b:Lo)(e:Ll)(j:Lk)(c:Li)(k:Int){o d:Int}(h:0<=o)(g:o<b.length)(u:0<=d)(r:d<b.length): at2 (bn (v,i,f,b,e,j) c k) o d=fL e c k.toNat o d:=Mp.iQ _ _ o d h g u r
def qg(v:LC)(f e:LB)(u:Lo)(b:Ll)(r:Lk){c:Li}{k:Int}(h:fG (v,f,e,u,b,r) c)(V:0<=k)(T:k<=b.length): Mp.ay (bn (v,f,e,u,b,r) c k)=true:=by
 have x:=nI v f e u b r c k;have A:=(dE v f e u b r (aS v f e u b r h.1)).1;have O:c.length=b.length:=h.2.1;refine V9 (by rw[x.len];exact x) (by rw[x.len];omega) λi j L z G y=>?_
 rw[x.len]at z y;rw[jh v f e u b r c k L z G y];unfold Mp.uz Mp.dS;rcases jV h b i j k.toNat Z with g | g
 .rw[g];rfl
 .simp only[yF,qC,qE];right;omega
def aDT{m:Lj}(h:Mp.ay m=true)(b:iq m=0): dK m=Mp.bZ m m.length:=by
 unfold iq dK Mp.GM at *;rw[h]at b ⊢;simp only[qAw]at b ⊢;cases hb:Mp.mF m with
 | true=>rw[hb]at b;simp only[qAw]at b;omega
 | false=>rfl
def Uf(j:LC)(f e:LB)(b:Lo)(g:Ll)(i:Lk){c:Li}(h:fG (j,f,e,b,g,i) c){o d:Int}(v:0<=o)(u:o<b.length)(z:0<=d)(y:d<b.length): QH (iq (bB (j,f,e,b,g,i) c)) (dK (bB (j,f,e,b,g,i) c)) o d:=by
 intro L;have x:Mp.ay (bB (j,f,e,b,g,i) c)=true:=qg j f e b g i h Z (qH _);have r:Mp.Sq b.length (bB (j,f,e,b,g,i) c):=nI j f e b g i c _;have G:=(dE j f e b g i (aS j f e b g i h.1)).1;rw[aDT x L];have A:=Mp.jO (bB (j,f,e,b,g,i) c) (bB (j,f,e,b,g,i) c).length;have T:=Mp.ny x (bB (j,f,e,b,g,i) c).length (qJ _) o d v (by rw[r.len];exact u) z (by rw[r.len];exact y)
 have O:=Mp.gN (k:=(bB (j,f,e,b,g,i) c).length) (by rw[r.len];omega);refine⟨A.oy v (by rw[r.len];exact u) z (by rw[r.len];exact y),.inr ?_⟩;omega
def P7(v:LC)(r f:LB)(e:Lo)(b:Ll)(u:Lk){c:Li}{k:Int}(h:fG (v,r,f,e,b,u) c)(O:0<=k)(L:k<b.length)(T:c.getD k.toNat 0≠dM):
  (bn (v,r,f,e,b,u) c k).set (ak (v,r,f,e,b,u) k).2.1.toNat (((bn (v,r,f,e,b,u) c k).getD (ak (v,r,f,e,b,u) k).2.1.toNat []).set (ak (v,r,f,e,b,u) k).2.2.1.toNat (max (((bn (v,r,f,e,b,u) c k).getD (ak (v,r,f,e,b,u) k).2.1.toNat []).getD (ak (v,r,f,e,b,u) k).2.2.1.toNat 0) (-(c.getD k.toNat 0))))=bn (v,r,f,e,b,u) c (k+1):=by
 obtain⟨G,A,z,y,_⟩:=db v r f e b u h.1 O L;have X:(k+1).toNat=k.toNat+1:=Z;have V:=jh v r f e b u c k G A z y;have x:((bn (v,r,f,e,b,u) c k).getD (ak (v,r,f,e,b,u) k).2.1.toNat []).getD (ak (v,r,f,e,b,u) k).2.2.1.toNat 0=fL b c k.toNat (ak (v,r,f,e,b,u) k).2.1 (ak (v,r,f,e,b,u) k).2.2.1:=V;rw[x];unfold bn;rw[X]
 show(aI _ (e.length:Int)).set _ (((aI _ (e.length:Int)).getD _ _).set _ _)=aI _ (e.length:Int);rw[sn G A z y];refine dD λi j i0 i1 j0 j1=>?_
 show _=fL b c (k.toNat+1) i j;rw[jw];by_cases g:i=(ak (v,r,f,e,b,u) k).2.1/\j=(ak (v,r,f,e,b,u) k).2.2.1
 .rw[if_pos g,if_pos ⟨T,g.1.symm,g.2.symm⟩,g.1,g.2]
 .rw[if_neg g,if_neg (λq=>g ⟨q.2.1.symm,q.2.2.symm⟩)]
def P6(r:LC)(f e:LB)(h:Lo)(b:Ll)(g:Lk){c:Li}{k:Int}(x:0<=k)(u:c.getD k.toNat 0=dM): bn (r,f,e,h,b,g) c k=bn (r,f,e,h,b,g) c (k+1):=by
 have v:(k+1).toNat=k.toNat+1:=Z;unfold bn;rw[v];refine dD λi j G A z y=>?_
 show _=fL b c (k.toNat+1) i j;rw[jw,if_neg (λq=>q.1 u)]
def aIe: ai Tryz.prog G0 KQ1:=af Rf<|af aDy<|af aA4 aCN
def Ry: eO 74 tj:=ae λ(((v,r,h,f,b,u):Net),(c:Li),_)=>by
 refine zE (A:=(lvA [(3,[1,2,4,5,6,7,8,9,13,14,15])] (aCD (v,r,h,f,b,u) c))) (p:=let e:=(v,r,h,f,b,u);let O:=Df f;let X:=aI PR O;let i:=Dk X;let g:=Df b;(fG e c->bD O aFV/\(∃x,TX e c x/\T6 c e Z0 i b g (0=x/\X=bn e c x/\True))/\∀(x:Int),let c7:=Du c (Dc x) 0;let c8:=Dw c7 (-1099511627776);let j:=Dk (bn e c x);let z:=(Du b (Dc x) (ByteArray.mk #[],(0:Int),(0:Int),(0:Int),(0:Int),(0:Int))).2;let c13:=Dc z.1;let V:=Du (bn e c x) c13 [];let A:=Dk V;let c16:=Fh c7;let T:=x+1;let c18:=Dc z.2.1;let L:=dK (bn e c x);let G:=iq (bn e c x);TX e c x->(Dp x g->0<=x/\x<g/\L5 1 0 (0<=x/\x<Df c/\(c8->L7 1 1 0 (j=i/\0<=z.1/\z.1<Dz j/\j=i/\T6 1 1 0 1 1 0 (j=i/\0<=z.1/\z.1<Dz j/\j=i/\L7 1 1 0 (j=i/\0<=z.2.1/\z.2.1<Dz A/\j=i/\A=A/\0<=x/\x<Df c/\inR .i64 c16/\j=i/\0<=z.2.1/\z.2.1<Dz A/\j=i/\A=A/\inR .i64 T/\∃y,TX e c y/\(T6 c e Z0 i b g (T=y/\Em (bn e c x) c13 (Em V c18 (Ew (Du V c18 0) c16))=bn e c y/\True))/\Dc (g-y)<Dc (g-x)))))/\(c8=false->inR IntKind.i64 T/\∃y,TX e c y/\(T6 c e Z0 i b g (T=y/\bn e c x=bn e c y/\True))/\Dc (g-y)<Dc (g-x))))/\(Dp x g=false->L7 c e Z0 (Dk (bn e c x)=i/\T2 (bn e c x) b g x (Dp x g) (rC (bn e c x)/\L3 1 0 1 0 c e Z0 (bn e c x) 1 (L3 0 L 1 0 G b g x (Dp x g) (T4 L G (bn e c x) L G L G (bD O (QH G L)/\aI (Vq G L) O=bm e c/\True)))))))) aIe λO=>?_
 have hno:=aS v r h f b u O.1;have l40:=(fO v r h f b u hno).2;have l12:=(dE v r h f b u hno).1;have hcl:c.length=b.length:=O.2.1;refine Z9 ?_;simp only[qc,dF v r h f b u];have en:(f.length:Int).toNat=f.length:=qP _;have bl:∀g:Int->Int->Int,(aI g f.length).length=f.length:=λg=>by rw[Mp.fB,en]
 have ll:∀x,(bn (v,r,h,f,b,u) c x).length=f.length:=λx=>bl _
 refine⟨⟨Z,Z,λ_ _ _ _ _ _=>trivial⟩,⟨0,⟨O,Z,Z⟩,rfl,rfl⟩,λx hx=>⟨λhlt=>?_,λhge=>?_⟩⟩
 .obtain⟨_,V,x1⟩:=hx;obtain⟨l0,l1,l2,l3,_⟩:=db v r h f b u O.1 V hlt;have hrow:=(nI v r h f b u c x).row _ l0 l1;have hc:=O.2.2 x V Z;have hx1:x+1<=(((v,r,h,f,b,u):Net).2.2.2.2.1.length:Int):=(by show x+1<=(b.length:Int);omega);refine⟨V,hlt,V,Z,λhn=>?_,λhn=>?_⟩
  .have X:(bn (v,r,h,f,b,u) c x).length=(aI PR f.length).length:=by rw[ll,bl]
   have hb:(ak (v,r,h,f,b,u) x).2.1<((bn (v,r,h,f,b,u) c x).length:Int):=by rw[ll];exact l1
   have hr:(ak (v,r,h,f,b,u) x).2.2.1<(((bn (v,r,h,f,b,u) c x).getD (ak (v,r,h,f,b,u) x).2.1.toNat []).length:Int):=by rw[hrow];exact l3
   refine⟨X,l0,hb,X,X,l0,hb,X,X,l2,hr,X,V,Z,?_,X,l2,hr,X,aD Z,x+1,⟨O,Z,hx1⟩,⟨rfl,P7 v r h f b u O V hlt hn⟩,Z⟩;rcases hc with hc | hc
   .exact(hn hc).elim
   .exact aD Z
  .exact⟨aD Z,x+1,⟨O,Z,hx1⟩,⟨rfl,P6 v r h f b u V hn⟩,Z⟩
 .obtain⟨_,V,x1⟩:=hx;have x1:x<=b.length:=x1;have e:x=b.length:=Z;have el:bn (v,r,h,f,b,u) c x=bB (v,r,h,f,b,u) c:=by rw[e];rfl
  rw[el];refine⟨?_,?_,?_,?_⟩
  all_goals first
   | (rw[<- el,ll,bl])
   | (show List.length _<=20;rw[<- el,ll];omega)
   | exact⟨Z,Z,λi j i0 i1 j0 j1=>Uf v r h f b u O i0 i1 j0 j1⟩
   | rfl
def find_range{m:Nat}{p:Nat->Bool}{i:Nat}(g:i<m)(f:p i=true)(h:(List.range i).all (λj=>!p j)=true): (List.range m).find? p=some i:=by
 have e:m=i+(m-i-1+1):=Z;rw[e,List.range_add,List.find?_append];have:(List.range i).find? p=none:=by
  rw[qBw];intro x b;have:=qO.1 h x b;simpa using this
 rw[this,List.range_succ_eq_map,zB,gY];simp[f]
def E0{m:Nat}{p:Nat->Bool}(h:(List.range m).all (λj=>!p j)=true): (List.range m).find? p=none:=by
 rw[qBw];intro x b;have:=qO.1 h x b;simpa using this
def zk{n:Net}{c:Li}{b:Lj}{o d x:Int}(f:zm n c b o d x)(j:x<n.2.2.2.2.1.length)(h:iL n c b o d x=false): zm n c b o d (x+1):=by
 obtain⟨g,e,_,i⟩:=f;refine⟨g,Z,Z,?_⟩;rw[show(x+1).toNat=x.toNat+1 by omega,zJ,gZ,i,qAu,vI e,h];rfl
def ji{n:Net}{c:Li}{b:Lj}{o d i:Int}: iL n c b o d i=true↔(ak n i).2.1=o/\c.getD i.toNat 0≠dM/\0<=at2 b (ak n i).2.2.1 d/\c.getD i.toNat 0+at2 b (ak n i).2.2.1 d=at2 b o d:=by
 unfold iL;simp only[qC,qE,qCh]
def ID{n:Net}{c:Li}{b:Lj}{o d i:Int}(h:¬((ak n i).2.1=o/\c.getD i.toNat 0≠dM/\0<=at2 b (ak n i).2.2.1 d/\c.getD i.toNat 0+at2 b (ak n i).2.2.1 d=at2 b o d)): iL n c b o d i=false:=by
 rw[<- xU,ji];exact h
def aDR: eO 77 It:=ae λ(((O,u,r,L,g,v):Net),(c:Li),(b:Lj),(o:Int),(d:Int),_)=>by
 refine zE (A:=(lvA [(3,[1,2,3,4,10,11,12,13,15,16,17])] (aHZ (O,u,r,L,g,v) c b o d))) (p:=let h:=(O,u,r,L,g,v);let e:=Df g;let z:=Du b (Dc o) [];let A:=As h c b o d;(Jj h c b o d->(∃x,zm h c b o d x/\T5 c b o d Q1 (-1:Int) g e (0=x/\True))/\∀(x:Int),let i:=(Du g (Dc x) (ByteArray.mk #[],(0:Int),(0:Int),(0:Int),(0:Int),(0:Int))).2;let G:=Dw i.1 o;let c8:=Dj G;let V:=Du c (Dc x) 0;let c10:=Ea G true (Ec V (-1099511627776));let f:=Dj c10;let j:=Du b (Dc i.2.1) [];let X:=Du j (Dc d) 0;let c15:=Ea c10 true (Dp X 0);let T:=x+1;let c17:=V+X;let c18:=Ec c17 (Du z (Dc d) 0);zm h c b o d x->(Dp x e->0<=x/\x<e/\T2 1 0 1 1 0 (Q2 c8 ((c8->0<=x)/\(c8->x<Df c)/\Q2 c8 ((Dh true c8->c8)/\(f->1=1)/\L4 f ((f->1=1)/\(f->0=0)/\Q2 f ((f->0<=i.2.1)/\(f->i.2.1<Df b)/\Q4 f ((f->0<=d)/\(f->d<Df j)/\Q2 f ((Dh true f->f)/\(c15->inR .i64 T/\∃y,zm h c b o d y/\(T5 c b o d Q1 (-1:Int) g e (T=y/\True))/\Dc (e-y)<Dc (e-x))/\(c15=false->0<=x/\x<Df c/\L7 1 1 0 (0<=i.2.1/\i.2.1<Df b/\0<=d/\d<Df j/\inR IntKind.i64 c17/\0<=o/\o<Df b/\0<=d/\d<Df z/\(c18->x=A/\True)/\(c18=false->inR IntKind.i64 T/\∃y,zm h c b o d y/\(T5 c b o d Q1 (-1:Int) g e (T=y/\True))/\Dc (e-y)<Dc (e-x))))))))))))/\(Dp x e=false->(-1:Int)=A/\True))) aIe λhp=>?_
 obtain⟨hc,hb,o0,o1,X,d1⟩:=hp;have hno:=aS O u r L g v hc.1;have l40:=(fO O u r L g v hno).2;have hcl:c.length=g.length:=hc.2.1;have hat:∀i j:Int,(b.getD i.toNat []).getD j.toNat 0=at2 b i j:=λ_ _=>rfl
 refine Z9 ?_;simp only[qc,dF O u r L g v,hat];refine⟨⟨⟨hc,hb,o0,o1,X,d1⟩,Z,Z,rfl⟩,λx hx=>⟨λz=>?_,λhge=>?_⟩⟩
 .obtain⟨hp,V,x1,ha⟩:=id hx;obtain⟨l0,l1,l2,l3,_⟩:=db O u r L g v hc.1 V z;obtain⟨⟨i1,i2,i3,i4⟩,i5,i6⟩:=hb _ _ l2 l3 X d1;obtain⟨⟨j1,j2,j3,j4⟩,j5,j6⟩:=hb _ _ o0 o1 X d1;have G:=hc.2.2 x V Z;have hx1:x+1<=(((O,u,r,L,g,v):Net).2.2.2.2.1.length:Int):=(by show x+1<=(g.length:Int);omega)
  refine⟨V,z,λ_=>V,λ_=>Z,λ_=>l2,λ_=>i2,λ_=>X,λ_=>i4,λh=>⟨aD Z,x+1,zk hx z (ID λq=>?_),rfl,Z⟩,λh=>⟨V,Z,l2,i2,X,i4,?_,o0,j2,X,j4,λh2=>?_,λh2=>⟨aD Z,x+1,zk hx z (ID λq=>h2 q.2.2.2),rfl,Z⟩⟩⟩
  .rcases h with(h | h) | h
   .exact h q.1
   .exact q.2.1 h
   .omega
  .rcases G with G | G
   .exact(h.1.2 G).elim
   .unfold inR;simp only;omega
  .have hbst:iL (O,u,r,L,g,v) c b o d x=true:=ji.2 ⟨by first | exact h.1.1 | exact Decidable.not_not.1 h.1.1,h.1.2,Z,h2⟩;unfold As;rw[find_range (i:=x.toNat) (by show x.toNat<g.length;omega) (by rw[vI V];exact hbst) ha];show x=((x.toNat:Nat):Int);omega
 .obtain⟨hp,V,x1,ha⟩:=hx;have x1:x<=g.length:=x1;have e:x.toNat=g.length:=Z;rw[e]at ha;unfold As;rw[E0 (show(List.range ((O,u,r,L,g,v):Net).2.2.2.2.1.length).all _=true from ha)]
def aI6: ai Tryz.prog G0 KQ2:=af Ry<|af aDR aIe
def aAH(b:Lj)(c:Li)(o d:Int)(x:LC)(g f:LB)(v:Lo)(r:Ll)(u:Lk): ah Tryz.prog G0 76 [.dat I o,.dat I d,.ip M b,.ip N (x,g,f,v,r,u),.ip R c] [] ⟨Jj (x,g,f,v,r,u) c b o d,.dat I (uv (x,g,f,v,r,u) c b o d),[]⟩:=by
 refine zE (A:=az) (p:=let e:=Ec o d;let h:=Dj e;let i:=(x,g,f,v,r,u);let j:=Du b (Dc o) [];let y:=Ea e true (Dp (Du j (Dc d) 0) 0);let z:=uv i c b o d;(Jj i c b o d->Q2 h ((Dj e->0<=o)/\(Dj e->o<Df b)/\Q4 h ((Dj e->0<=d)/\(Dj e->d<Df j)/\Q2 h ((Dh true h->Dj e)/\(y->(-1:Int)=z/\True)/\(y=false->Jj i c b o d/\As i c b o d=z/\True)))))) aI6 λe=>?_
 obtain⟨⟨O,L,G,z⟩,V,T⟩:=e.2.1 o d e.2.2.1 e.2.2.2.1 e.2.2.2.2.1 e.2.2.2.2.2;have y:∀i j:Int,(b.getD i.toNat []).getD j.toNat 0=at2 b i j:=λ_ _=>rfl
 refine Z9 ?_;simp only[qc,y];refine⟨λ_=>O,λ_=>L,λ_=>G,λ_=>z,λh=>?_,λh=>⟨e,?_⟩⟩
 .unfold uv;exact(if_pos h).symm
 .unfold uv;exact(if_neg Z).symm
def aI5: ai Tryz.prog G0 KQ3:=af (λargs m c e=>by
 split at e
 .rename_i A g f z h i b n c;cases e;exact(Ro _ _ A g f z h i).args λC us u r=>ix r λv j=>lB (by kernel_rfl) rfl (λx y=>by obtain⟨X,V,T,O,L,G⟩:=n;exact aAH b c x y X V T O L G) u j
 .cases e) aI6
def gF(j:LC)(f e:LB)(b:Lo)(g:Ll)(i:Lk){c:Li}(h:fG (j,f,e,b,g,i) c): Vp (j,f,e,b,g,i) (bm (j,f,e,b,g,i) c):=by
 intro o d v u y x;have z:Mp.Sq b.length (bm (j,f,e,b,g,i) c):=Mp.ij _ _;refine⟨z.oy v u y x,?_⟩;have G:at2 (bm (j,f,e,b,g,i) c) o d=Vq (iq (bB (j,f,e,b,g,i) c)) (dK (bB (j,f,e,b,g,i) c)) o d:=Mp.iQ _ _ o d v u y x;have r:=Uf j f e b g i h v u y x;rw[G];unfold QH at r;unfold Vq;split
 .rename_i A;obtain⟨_,r⟩:=r A;split
  .omega
  .rcases r with r | r
   .contradiction
   .omega
 .omega
abbrev BG:=al [.row N,.val I,.val I] (λ_=>True) λ(n,a,b,_)=>.dat M (bA n a b)
def aAv: eO 23 BG:=ae λ(((v,g,f,e,r,u):Net),(a:Int),(b:Int),_)=>by
 refine zE (A:=aEj) (p:=let h:=(v,g,f,e,r,u);let y:=fC h a b;let x:=Dj y;let z:=bA h a b;let i:=b9 h a b;let j:=bm h i;let A:=Df e;(True->True/\(x->z=Dt (Li)/\True)/\(x=false->aBA h a b/\Q3 1 0 1 0 (fG h i/\L3 1 0 v g f e r u a (L3 b h Z0 1 0 i 1 0 j (L3 v g f e r u a b y (L3 x v g f e r u a b (L3 i v g f e r u i j (bD A (Jj h i j)/\aI (uv h i j) A=z/\True))))))))) aI5 λ_=>?_
 refine Z9 ?_;refine⟨λh=>?_,λh=>?_⟩
 .unfold bA;rw[h];rfl
 .have x:=jd v g f e r u h;have y:=(dE v g f e r u (aS v g f e r u x.1)).1;refine⟨h,x,⟨Z,Z,λi j O L G z=>⟨x,gF v g f e r u x,O,L,G,z⟩⟩,?_⟩;unfold bA;rw[h];rfl
end Go.Eng.Sv
