/- PeCo7n PeCo8n PeCoPn PeCoTn PeCoUn PeCoWn PeH19 PeH20 -/
import Derived.Test.YtlakcpmgefpfaaaGreatDoorECSortsA
import Derived.Test.YtlakcpmgefpfaaaGreatDoorECSortsB
import Derived.Test.YtlakcpmgefpfaaaGreatDoorECSortsC
import Derived.Test.YtlakcpmgefpfaaaGreatDoorECSortsD
import Derived.Test.YtlakcpmgefpfaaaGreatDoorECSortsE
import Derived.Test.YtlakcpmgefpfaaaGreatDoorECSortsF
import Derived.ChangeSame
import Derived.Carry
import Derived.Deep.Slices
import Derived.ChangeArms
import Derived.OpenShut
set_option linter.unusedSimpArgs false
set_option linter.unusedVariables false
set_option maxRecDepth 100000
noncomputable section
namespace Go.Eng.Sv
open Go.Proofs
def rx(x:Int): Li->Nat
 | []=>0
 | a::l=>if a=x then 0 else rx x l+1
def Kx(l:Li)(x:Int): Int:=if rx x l<l.length then(rx x l:Int)else -1
def Ue(l:Li)(x k:Int): Prop:=0<=k/\k<=l.length/\k<=rx x l
def YZ(l:Li): Prop:=(l.length:Int)<=1000000000
def gOk(n:Net)(p:Plan)(o:Int): Bool:=(dF o n.2.2.2.1.length&&bg n)&&fw n p
def gsF(n:Net)(p:Plan)(o:Int): Li:=if gOk n p o=true then -1::fO p o else[]
def uj(p:Plan)(o d:Int): Int:=if d=o then 0 else if(dQ p o).getD d.toNat 0=-1 then -1 else Kx (-1::fO p o) ((dQ p o).getD d.toNat 0)
def ofF(n:Net)(p:Plan)(o:Int): Li:=if gOk n p o=true then(List.range n.2.2.2.1.length).map λd:Nat=>uj p o d else[]
def Nz(n:Net)(p:Plan)(o k:Int): Li:=upF (uj p o) 0 n.2.2.2.1.length k
def gTo(n:Net)(p:Plan)(o k:Int): Prop:=gOk n p o=true/\0<=k/\k<=n.2.2.2.1.length
theorem W9(o x:Int)(cs:LC)(ns os:LB)(g:Lo)(ls:Ll)(e:Lk)(f:
 let c1:=Eb x (-1);let c2:=Di c1;let b:=c2->c2->c2;let c3:=Ed x 0;let c7:=Dj c2 c3->Dj c2 c3->Dj c2 c3;let c4:=Df ls;let c5:=Ea c3 (Dp x c4) false;let c6:=Dj c2 c5->Dj c2 c5->Dj c2 c5;true/\(True->b/\b/\c7/\c7/\c7/\c7/\b/\(c2->Dj c2 c3->Dj c2 c3)/\b/\c6/\c6/\c6/\(Dj c2 c5->0<=x)/\(Dj c2 c5->x<c4)/\c6/\c6/\c6/\c6/\b/\(c2->Dj c2 c5->Dj c2 c5)/\(Dj true c2->c2)/\Ea c1 true (Ea c5 (Eb (Du ls (Dc x) (ByteArray.mk #[],(0:Int),(0:Int),(0:Int),(0:Int),(0:Int))).2.1 o) false)=aS (cs,ns,os,g,ls,e) o x/\True)):
  evF (mkc KC8) az 107 [.dat I o,.dat I x,.ip N (cs,ns,os,g,ls,e)] [] ⟨True,.dat .bool (aS (cs,ns,os,g,ls,e) o x),[]⟩:=oE f
theorem W8(o x:Int)(b:
 let c1:=Ed x (-1);true/\(True->(c1->c1->c1)/\(Dj true c1->c1)/\Ea c1 (Ei x 65518) false=fY o x/\True)):
  evF (mkc KC8) az 108 [.dat I o,.dat I x] [] ⟨True,.dat .bool (fY o x),[]⟩:=oE b
def ZV: Kt:=kOr 107 (aw [.val I,.val I,.ptr N] (λ_=>True) λ(o,x,n,_)=>.dat .bool (aS n o x)) <|
 kOr 108 (aw [.val I,.val I] (λ_=>True) λ(o,x,_)=>.dat .bool (fY o x)) KC8
theorem W5(t:Lj)(m:Int)(n:Net)(e:
 let c1:=Ec (Df t) m;let c2:=sgF (aS n) t m;true/\(cn t->(c1->false=c2/\True)/\(c1=false->(∃x,C2 (aS n) t m x/\m=m/\n=n/\t=t/\Df t=Df t/\0=x/\True)/\∀(x:Int),let c3:=Dp x (Df t);let c4:=Du t (Dc x) [];let c5:=Df c4;let c6:=Ec c5 m;let c7:=x+1;C2 (aS n) t m x->(c3->0<=x/\x<Df t/\(c6->false=c2/\True)/\(c6=false->(∃b,mr (aS n) c4 m x b/\m=m/\n=n/\x=x/\c4=c4/\t=t/\Df t=Df t/\x=x/\c4=c4/\c5=c5/\0=b/\True)/\∀(b:Int),let f:=Di (aS n x (Du c4 (Dc b) 0));let c9:=b+1;mr (aS n) c4 m x b->(Dp b c5->0<=b/\b<c5/\True/\(f->false=c2/\True)/\(f=false->inR .i64 c9/\∃y,mr (aS n) c4 m x y/\(m=m/\n=n/\x=x/\c4=c4/\t=t/\Df t=Df t/\x=x/\c4=c4/\c5=c5/\c9=y/\True)/\Dc (c5-y)<Dc (c5-b)))/\(Dp b c5=false->inR .i64 c7/\∃y,C2 (aS n) t m y/\(m=m/\n=n/\t=t/\Df t=Df t/\c7=y/\True)/\Dc (Df t-y)<Dc (Df t-x))))/\(c3=false->true=c2/\True)))):
  evF (mkc ZV) (lvA [(4,[1,2,6,7,8,10,15,16,17,26,27,28]),(9,[1,2,6,7,8,10,15,16,17,26,27,28])] (sgA (aS n) t m)) 109 [.dat M t,.dat I m,.fn 107 [.ip N n]] [] ⟨cn t,.dat .bool (sgF (aS n) t m),[]⟩:=oE e
theorem W6(t:Lj)(m:Int)(e:
 let c1:=Ec (Df t) m;true/\(cn t->(c1->false=sgF fY t m/\True)/\(c1=false->(∃x,C2 fY t m x/\m=m/\t=t/\Df t=Df t/\0=x/\True)/\∀(x:Int),let c2:=Dp x (Df t);let c3:=Du t (Dc x) [];let c4:=Df c3;let c5:=Ec c4 m;let c6:=x+1;C2 fY t m x->(c2->0<=x/\x<Df t/\(c5->false=sgF fY t m/\True)/\(c5=false->(∃b,mr fY c3 m x b/\m=m/\x=x/\c3=c3/\t=t/\Df t=Df t/\x=x/\c3=c3/\c4=c4/\0=b/\True)/\∀(b:Int),let c7:=Di (fY x (Du c3 (Dc b) 0));let f:=b+1;mr fY c3 m x b->(Dp b c4->0<=b/\b<c4/\True/\(c7->false=sgF fY t m/\True)/\(c7=false->inR .i64 f/\∃y,mr fY c3 m x y/\(m=m/\x=x/\c3=c3/\t=t/\Df t=Df t/\x=x/\c3=c3/\c4=c4/\f=y/\True)/\Dc (c4-y)<Dc (c4-b)))/\(Dp b c4=false->inR .i64 c6/\∃y,C2 fY t m y/\(m=m/\t=t/\Df t=Df t/\c6=y/\True)/\Dc (Df t-y)<Dc (Df t-x))))/\(c2=false->true=sgF fY t m/\True)))):
  evF (mkc ZV) (lvA [(4,[1,2,6,7,8,10,15,16,17,26,27,28]),(9,[1,2,6,7,8,10,15,16,17,26,27,28])] (sgA fY t m)) 109 [.dat M t,.dat I m,.fn 108 []] [] ⟨cn t,.dat .bool (sgF fY t m),[]⟩:=oE e
def aEx(args:List AV)(m:Mem): Option ja:=match m,args with
 | [],[.dat (.sl (.sl (.int .i64))) t,.dat (.int .i64) k,.fn f caps]=>if f=107 then match ofK [.ptr N] caps with
   | some (n,_)=>some ⟨cn t,.dat .bool (sgF (aS n) t k),[]⟩
   | none=>none
  else if f=108 then match ofK [] caps with
   | some _=>some ⟨cn t,.dat .bool (sgF fY t k),[]⟩
   | none=>none
  else none
 | _,_=>none
def aE2: Kt:=kOr 109 aEx ZV
def aB3(n:Net)(p:Plan): Ann:=⟨λid s=>match id with
 | 6=>some {α:=Int,inv:=λk=>qg n p k,st:=λk=>put s [(38,.dat I k)],μ:=λk=>Dc (Dh (Df p.2.2.2) k)}
 | _=>none,λ_ _=>none,λ_ _=>none⟩
theorem Q7(cs:LC)(ns os:LB)(f:Lo)(ls:Ll)(e:Lk)(p1 p2:Int)(nx:Lj)(b:List (Lj))(i:
 let c15:=Di (km p1 p2);let c1:=(p1,p2,nx,b);let c2:=Di c15;let c14:=c2->c2->c2;let c3:=Df b;let c4:=Ea c15 true (Ec c3 (Df e));let c5:=Di c4;let c13:=c5->c5->c5;let c6:=(cs,ns,os,f,ls,e);let c7:=Df f;let j:=Ea c4 true (Di (sgF (aS c6) nx c7));let c9:=fw c6 c1;true/\(fb c1->True/\c14/\c14/\c14/\c14/\c14/\c14/\(Dj true c2->c2)/\c13/\c13/\c13/\c13/\c13/\c13/\(c5->cn nx)/\c13/\(Dj true c5->c5)/\(j->false=c9/\True)/\(j=false->(∃x,qg c6 c1 x/\c6=c6/\b=b/\c3=c3/\0=x/\True)/\∀(x:Int),let h:=Du b (Dc x) (Dt (Li));let g:=Di (sgF fY h c7);let c12:=x+1;qg c6 c1 x->(Dp x c3->0<=x/\x<c3/\cn h/\(g->false=c9/\True)/\(g=false->inR .i64 c12/\∃y,qg c6 c1 y/\(c6=c6/\b=b/\c3=c3/\c12=y/\True)/\Dc (c3-y)<Dc (c3-x)))/\(Dp x c3=false->true=c9/\True)))):
  evF (mkc aE2) (lvA [(6,[2,4,6,8,36,37,38])] (aB3 (cs,ns,os,f,ls,e) (p1,p2,nx,b))) 44 [net cs ns os f ls e,.agg [.dat I p1,.dat I p2,.dat M nx,.dat (.sl M) b]] [] ⟨fb (p1,p2,nx,b),.dat .bool (fw (cs,ns,os,f,ls,e) (p1,p2,nx,b)),[]⟩:=oE i
def aFV(l:Li)(x:Int): Ann:=⟨λid s=>match id with
 | 2=>some {α:=Int,inv:=λk=>Ue l x k,st:=λk=>put s [(8,.dat I k)],μ:=λk=>Dc (Dh (Df l) k)}
 | _=>none,λ_ _=>none,λ_ _=>none⟩
theorem QT(l:Li)(x:Int)(e:
 true/\(YZ l->(∃b,Ue l x b/\l=l/\x=x/\Df l=Df l/\0=b/\True)/\∀(b:Int),let c1:=Dp b (Df l);let c2:=Eb x (Du l (Dc b) 0);let c3:=b+1;Ue l x b->(c1->0<=b/\b<Df l/\(c2->b=Kx l x/\True)/\(c2=false->inR IntKind.i64 c3/\∃y,Ue l x y/\(l=l/\x=x/\Df l=Df l/\c3=y/\True)/\Dc (Df l-y)<Dc (Df l-b)))/\(c1=false->(-1:Int)=Kx l x/\True))):
  evF (mkc KC8) (lvA [(2,[0,1,4,5,7,8])] (aFV l x)) 46 [.dat R l,.dat I x] [] ⟨YZ l,.dat I (Kx l x),[]⟩:=oE e
def aFJ: Kt:=kOr 44 (aw [.row N,.row Pl] (λ(_,p,_)=>fb p) λ(n,p,_)=>.dat .bool (fw n p)) <|
 kOr 46 (aw [.val R,.val I] (λ(l,_,_)=>YZ l) λ(l,x,_)=>.dat I (Kx l x)) aE3
def aFX(n:Net)(p:Plan)(o:Int): Ann:=⟨λid s=>match id with
 | 6=>match s.sig.T 9 with
  | .buf nm _=>some {α:=Int,inv:=λk=>gTo n p o k,st:=λk=>gC (put s [(47,.dat I k)]) nm (.buf 3 I (Nz n p o k) []),μ:=λk=>Dc (Dh (Df n.2.2.2.1) k)}
  | _=>none
 | _=>none,λ_ _=>none,λ_ _=>none⟩
def aFh: Cfg:=mkp aFJ (λt=>t==32) Go.Eng.noP (λ_=>false)
theorem Ld(o:Int)(cs:LC)(ns os:LB)(v:Lo)(ls:Ll)(A:Lk)(p1 p2:Int)(nx:Lj)(z:List (Lj))(V:
 let c1:=(p1,p2,nx,z);let c2:=Dp o 0;let c3:=Di c2;let r:=c3->c3->c3;let c4:=Df v;let c5:=Ea c2 true (Ed o c4);let c6:=Di c5;let c7:=(cs,ns,os,v,ls,A);let X:=Ea c5 true (Di (bg c7));let c9:=Di X;let u:=c9->c9->c9;let T:=Ea X true (Di (fw c7 c1));let O:=gsF c7 c1 o;let c12:=ofF c7 c1 o;let c13:=[(-1:Int)];let c14:=fO c1 o;let c15:=1+Dk c14;let b:=Dc c4;let h:=Du nx (Dc o) [];let f:=Df h;let e:=Ef c13 c14;true/\(fb c1->r/\r/\r/\r/\(Dj true c3->c3)/\(c6->c6->c6)/\(c6->True)/\(c6->c6->c6)/\(Dj true c6->c6)/\u/\u/\(c9->fb c1)/\u/\(Dj true c9->c9)/\(T->O=Dt Int/\c12=Dt Int/\True)/\(T=false->Rm c1 o/\Dk c13=1/\(c15*8)<=140737488355328/\c15<=9223372036854775807/\0<=c4/\(Dx 8*c4)<=281474976710656/\c4<=9223372036854775807/\0<=o/\o<Df nx/\(∃x,gTo c7 c1 o x/\o=o/\Value.slice none 0 0=Value.slice none 0 0/\Value.slice none 0 0=Value.slice none 0 0/\c15=c15/\b=b/\h=h/\f=f/\0=x/\e=e/\Ep c4 (0:Int)=Nz c7 c1 o x/\True)/\∀(x:Int),let j:=Nz c7 c1 o x;let g:=Dk j;let i:=x+1;let L:=Du h (Dc x) 0;let G:=Eb L (-1);
 gTo c7 c1 o x->(Dp x f->0<=x/\x<f/\(Eb x o->g=b/\0<=x/\x<Dx g/\g=b/\inR .i64 i/\∃y,gTo c7 c1 o y/\(o=o/\Value.slice none 0 0=Value.slice none 0 0/\Value.slice none 0 0=Value.slice none 0 0/\c15=c15/\b=b/\h=h/\f=f/\i=y/\e=e/\En j (Dc x) 0=Nz c7 c1 o y/\True)/\Dc (c4-y)<Dc (c4-x))/\(Eb x o=false->(G->g=b/\0<=x/\x<Dx g/\g=b/\inR IntKind.i64 i/\∃y,gTo c7 c1 o y/\(o=o/\Value.slice none 0 0=Value.slice none 0 0/\Value.slice none 0 0=Value.slice none 0 0/\c15=c15/\b=b/\h=h/\f=f/\i=y/\e=e/\En j (Dc x) (-1)=Nz c7 c1 o y/\True)/\Dc (c4-y)<Dc (c4-x))/\(G=false->YZ e/\Dk e=c15/\g=b/\0<=x/\x<Dx g/\g=b/\inR .i64 i/\∃y,gTo c7 c1 o y/\(o=o/\Value.slice none 0 0=Value.slice none 0 0/\Value.slice none 0 0=Value.slice none 0 0/\c15=c15/\b=b/\h=h/\f=f/\i=y/\e=e/\En j (Dc x) (Kx e L)=Nz c7 c1 o y/\True)/\Dc (c4-y)<Dc (c4-x))))/\(Dp x f=false->Dk e=c15/\e=O/\g=b/\j=c12/\True)))):
  evF aFh (lvA [(6,[2,6,7,8,9,10,11,45,46,47])] (aFX (cs,ns,os,v,ls,A) (p1,p2,nx,z) o)) 12 [net cs ns os v ls A,.agg [.dat I p1,.dat I p2,.dat M nx,.dat (.sl M) z],.dat I o] [] ⟨fb (p1,p2,nx,z),.tup [.dat R (gsF (cs,ns,os,v,ls,A) (p1,p2,nx,z) o),.dat R (ofF (cs,ns,os,v,ls,A) (p1,p2,nx,z) o)],[]⟩:=oE V
theorem aAV(o x:Int)(cs:LC)(ns os:LB)(e:Lo)(ls:Ll)(b:Lk): af Tryz.prog G0 107 [.dat I o,.dat I x,.ip N (cs,ns,os,e,ls,b)] [] ⟨True,.dat .bool (aS (cs,ns,os,e,ls,b) o x),[]⟩:=by
 refine ae (c:=mkc KC8) KC aK hm (W9 o x cs ns os e ls b ⟨rfl,λ_=>?_⟩);simp only[qc,Dj,Es,Di,qd,Dt,Eb,Ec,Dp,Eh,Ei,Ed,Ey,Df,Et,Dl,Dn,Eo,Dy,Dw,Dh,Dq,Ee,Fh,Dc,Dx,Dk,Dz,Ej,Du,Eu,Ez,En,Ef,Fe,Fj,Fg,Ep,Em,Ew,Fb];refine⟨λh=>h.2.1,λh=>h.2.2,?_⟩;unfold aS dF;rw[qCe];simp only[yE,qC,xI,qE];exact Iff.rfl
theorem aAU(o x:Int): af Tryz.prog G0 108 [.dat I o,.dat I x] [] ⟨True,.dat .bool (fY o x),[]⟩:=by
 refine ae (c:=mkc KC8) KC aK hm (W8 o x ⟨rfl,λ_=>⟨λh _=>h,λh=>by simpa[Dj]using h,?_,trivial⟩⟩);unfold fY tQ;simp only[Ea,Ed,Ei,kQ];by_cases h:-1<=x<;>simp[h]
theorem Zx: aj Tryz.prog G0 ZV:=ai (ag λ(o,x,(cs,ns,os,e,ls,b),_)=>aAV o x cs ns os e ls b)<|ai (ag λ(o,x,_)=>aAU o x) KC
theorem aAR(t:Lj)(m:Int)(n:Net): af Tryz.prog G0 109 [.dat M t,.dat I m,.fn 107 [.ip N n]] [] ⟨cn t,.dat .bool (sgF (aS n) t m),[]⟩:=by
 refine ae (c:=mkc ZV) Zx aK hm (W5 t m n ⟨rfl,λb=>?_⟩);simp only[qc,Dj,Es,Di,qd,Dt,Eb,Ec,Dp,Eh,Ei,Ed,Ey,Df,Et,Dl,Dn,Eo,Dy,Dw,Dh,Dq,Ee,Fh,Dc,Dx,Dk,Dz,Ej,Du,Eu,Ez,En,Ef,Fe,Fj,Fg,Ep,Em,Ew,Fb];exact xk (aS n) b
theorem aAS(t:Lj)(m:Int): af Tryz.prog G0 109 [.dat M t,.dat I m,.fn 108 []] [] ⟨cn t,.dat .bool (sgF fY t m),[]⟩:=by
 refine ae (c:=mkc ZV) Zx aK hm (W6 t m ⟨rfl,λb=>?_⟩);simp only[qc,Dj,Es,Di,qd,Dt,Eb,Ec,Dp,Eh,Ei,Ed,Ey,Df,Et,Dl,Dn,Eo,Dy,Dw,Dh,Dq,Ee,Fh,Dc,Dx,Dk,Dz,Ej,Du,Eu,Ez,En,Ef,Fe,Fj,Fg,Ep,Em,Ew,Fb];exact xk fY b
theorem oS{P:Program}{C:Ctx}{a b x e:AV}{us:Lv}(h:AV.relL P C [a,b,x] us)(f:∀v,x.rel P C v->e.rel P C v): AV.relL P C [a,b,e] us:=by
 obtain⟨u,us,rfl,i,g⟩:=h;exact⟨_,_,rfl,i,fF g f⟩
theorem Y7: ∀args m c,aEx args m=some c->af Tryz.prog G0 109 args m c:=by
 intro args m c b;unfold aEx at b;split at b
 case h_2=>cases b
 rename_i t k f caps;split at b
 .rename_i i;subst i;split at b
  case h_2=>cases b
  rename_i n _ e;cases b;exact(aAR t k n).args λC us j h=>oS h λv g=>pq e g
 .split at b
  case isFalse=>cases b
  rename_i i;subst i;split at b
  case h_2=>cases b
  rename_i x e;cases b;exact(aAS t k).args λC us j h=>oS h λv g=>pq e g
theorem aES: aj Tryz.prog G0 aE2:=ai Y7 Zx
theorem XQ(cs:LC)(ns os:LB)(e:Lo)(ls:Ll)(f:Lk)(p1 p2:Int)(nx:Lj)(b:List (Lj)): af Tryz.prog G0 44 [net cs ns os e ls f,.agg [.dat I p1,.dat I p2,.dat M nx,.dat (.sl M) b]] [] ⟨fb (p1,p2,nx,b),.dat .bool (fw (cs,ns,os,e,ls,f) (p1,p2,nx,b)),[]⟩:=by
 refine ae (c:=mkc aE2) aES aK hm (Q7 cs ns os e ls f p1 p2 nx b ⟨rfl,λX=>?_⟩);simp only[qc,Dj,Es,Di,qd,Dt,Eb,Ec,Dp,Eh,Ei,Ed,Ey,Df,Et,Dl,Dn,Eo,Dy,Dw,Dh,Dq,Ee,Fh,Dc,Dx,Dk,Dz,Ej,Du,Eu,Ez,En,Ef,Fe,Fj,Fg,Ep,Em,Ew,Fb];obtain⟨A,O,a5⟩:=id X;have A:cn nx:=A;have O:b.length<=1000000:=O;have eT:sgF (aS (cs,ns,os,e,ls,f)) nx e.length=mO (cs,ns,os,e,ls,f) nx:=rfl;have eR:km p1 p2=mF (p1,p2,nx,b):=by
  unfold km mF;rw[qCe];simp only[qC,qE];omega
 rw[eT,eR];have z:fw (cs,ns,os,e,ls,f) (p1,p2,nx,b)=(mF (p1,p2,nx,b)&&(mO (cs,ns,os,e,ls,f) nx&&pz (cs,ns,os,e,ls,f) (p1,p2,nx,b))):=rfl;have L:(b.length:Int)=f.length->(pz (cs,ns,os,e,ls,f) (p1,p2,nx,b)=true↔∀i:Nat,(i:Int)<b.length->sgF fY (b.getD i []) e.length=true):=λV=>by
  unfold pz;simp only[qC,qE,qN];refine⟨λh i hi=>h.2 _ (getD_mem (by omega)),λh=>⟨V,λx g=>?_⟩⟩;obtain⟨i,hi,rfl⟩:=wY.1 g;have:=h i (by omega);rw[qA,qB hi,qP]at this;exact this
 refine⟨λ_=>A,λh=>?_,λ⟨⟨u,j⟩,y⟩=>⟨⟨qL _,qV _,u,y,j,λi hi=>by omega⟩,λx ⟨T,x1,_,_,_,G⟩=>⟨λg=>⟨T,g,a5 _ (getD_mem (l:=b) (i:=x.toNat) (d:=[]) (by omega)),λv=>?_,λv=>?_⟩,λg=>?_⟩⟩⟩
 .rw[z];rcases h with(h | h) | h
  .rw[h];rfl
  .have:pz (cs,ns,os,e,ls,f) (p1,p2,nx,b)=false:=by
    unfold pz;rw[vV h];rfl
   rw[this];simp
  .rw[h];simp
 .refine(xK.2 λr=>?_).symm;rw[z]at r;simp only[qC]at r;have:=(L j).1 r.2.2 x.toNat (by omega);rw[v]at this;cases this
 .refine⟨aL (by omega),x+1,⟨by omega,by show x+1<=(b.length:Int);omega,u,y,j,λi hi=>?_⟩,rfl,by omega⟩;by_cases Z:(i:Int)<x
  .exact G i Z
  .have:i=x.toNat:=by omega
   subst this;exact v
 .rw[z,u,y,(L j).2 λi hi=>G i (by omega)];rfl
theorem Oi(x:Int): ∀l:Li,rx x l<=l.length
 | []=>qJ _
 | a::l=>by
  unfold rx;split
  .exact wZ _
  .exact qBz (Oi x l)
theorem VL{x:Int}: ∀{l:Li} {k:Nat},k<l.length->l.getD k 0=x->rx x l<=k
 | [],k,h,_=>by simp at h
 | a::l,k,h,e=>by
  unfold rx;split
  .exact wZ _
  .cases k with
   | zero=>contradiction
   | succ k=>exact qBz (VL (by simpa using h) (by simpa using e))
theorem VK{x:Int}: ∀{l:Li} {k:Nat},k<=rx x l->l.getD k 0≠x->k<l.length->k+1<=rx x l
 | [],k,_,_,h=>by simp at h
 | a::l,k,h,e,f=>by
  unfold rx at h ⊢;split
  .rename_i b;rw[if_pos b]at h;have:k=0:=by omega
   subst this;exact absurd b e
  .rename_i b;rw[if_neg b]at h;cases k with
   | zero=>omega
   | succ k=>exact qBz (VK (by omega) (by simpa using e) (by simpa using f))
theorem XJ(l:Li)(x:Int): af Tryz.prog G0 46 [.dat R l,.dat I x] [] ⟨YZ l,.dat I (Kx l x),[]⟩:=by
 refine ae (c:=mkc KC8) KC aK hm (QT l x ⟨rfl,λr=>?_⟩);simp only[qc,Dj,Es,Di,qd,Dt,Eb,Ec,Dp,Eh,Ei,Ed,Ey,Df,Et,Dl,Dn,Eo,Dy,Dw,Dh,Dq,Ee,Fh,Dc,Dx,Dk,Dz,Ej,Du,Eu,Ez,En,Ef,Fe,Fj,Fg,Ep,Em,Ew,Fb];unfold YZ at r;refine⟨⟨by omega,by omega,by omega⟩,λk ⟨i,y,v⟩=>⟨λf=>⟨i,f,λu=>?_,λb=>⟨aL (by omega),k+1,⟨by omega,by omega,?_⟩,rfl,by omega⟩⟩,λj=>?_⟩⟩
 .have g:k.toNat<l.length:=by omega
  have h:=VL g u.symm;have e:rx x l=k.toNat:=by omega
  unfold Kx;rw[e,if_pos g];omega
 .have h:=VK (x:=x) (l:=l) (k:=k.toNat) (by omega) (λe=>b e.symm) (by omega);omega
 .have h:=Oi x l;unfold Kx;rw[if_neg (by omega)]
theorem aER(h:mW): aj Tryz.prog G0 aFJ:=ai (ag λ((cs,ns,os,e,ls,b),(p1,p2,nx,f),_)=>XQ cs ns os e ls b p1 p2 nx f)<|ai (ag λ(l,x,_)=>XJ l x) (aCj h)
theorem RS(h:mW)(o:Int)(cs:LC)(ns os:LB)(f:Lo)(ls:Ll)(j:Lk)(p1 p2:Int)(nx:Lj)(i:List (Lj)): af Tryz.prog G0 12 [net cs ns os f ls j,.agg [.dat I p1,.dat I p2,.dat M nx,.dat (.sl M) i],.dat I o] [] ⟨fb (p1,p2,nx,i),.tup [.dat R (gsF (cs,ns,os,f,ls,j) (p1,p2,nx,i) o),.dat R (ofF (cs,ns,os,f,ls,j) (p1,p2,nx,i) o)],[]⟩:=by
 refine ae (c:=aFh) (aER h) aK hm (Ld o cs ns os f ls j p1 p2 nx i ⟨rfl,λhf=>?_⟩);simp only[qc,Dj,Es,Di,qd,Dt,Eb,Ec,Dp,Eh,Ei,Ed,Ey,Df,Et,Dl,Dn,Eo,Dy,Dw,Dh,Dq,Ee,Fh,Dc,Dx,Dk,Dz,Ej,Du,Eu,Ez,En,Ef,Fe,Fj,Fg,Ep,Em,Ew,Fb];have ok:gOk (cs,ns,os,f,ls,j) (p1,p2,nx,i) o=true↔((0<=o/\o<f.length)/\bg (cs,ns,os,f,ls,j)=true)/\fw (cs,ns,os,f,ls,j) (p1,p2,nx,i)=true:=by
  unfold gOk dF;rw[qC,qC,qE]
 refine⟨λ_=>hf,λh=>?_,λ⟨⟨⟨h0,h1⟩,Z⟩,V⟩=>?_⟩
 .have hn:¬gOk (cs,ns,os,f,ls,j) (p1,p2,nx,i) o=true:=λg=>by
   obtain⟨⟨⟨g0,g1⟩,g2⟩,g3⟩:=ok.1 g;rcases h with((h | h) | h) | h
   .omega
   .omega
   .rw[g2]at h;cases h
   .rw[g3]at h;cases h
  exact⟨if_neg hn,if_neg hn⟩
 have G:0<=o:=by omega
 have X:o<f.length:=by omega
 have O:gOk (cs,ns,os,f,ls,j) (p1,p2,nx,i) o=true:=ok.2 ⟨⟨⟨G,X⟩,Z⟩,V⟩;have ht:mO (cs,ns,os,f,ls,j) nx=true:=(gP V).2.1;obtain⟨q1,_⟩:=lq cs ns os f ls j Z;obtain⟨r1,r2,_⟩:=gm cs ns os f ls j ht G X G X;have r2:((dQ (p1,p2,nx,i) o).length:Int)=f.length:=r2;have gl:=FD (p1,p2,nx,i) o;have eR:nx.getD o.toNat []=dQ (p1,p2,nx,i) o:=rfl;rw[eR]
 have len:∀{k:Int},0<=k->k<=f.length->(Nz (cs,ns,os,f,ls,j) (p1,p2,nx,i) o k).length=f.length:=λa b=>by
  have:=rJ (g:=uj (p1,p2,nx,i) o) (z:=0) (l:=f.length) (k:=_) ⟨a,b⟩;rw[qZ]at this;exact this
 have r:∀{k v:Int},0<=k->k<f.length->v=uj (p1,p2,nx,i) o k->(Nz (cs,ns,os,f,ls,j) (p1,p2,nx,i) o k).set k.toNat v=Nz (cs,ns,os,f,ls,j) (p1,p2,nx,i) o (k+1):=λa b e=>by
  rw[e];exact xb a b
 have e0:List.replicate f.length (0:Int)=Nz (cs,ns,os,f,ls,j) (p1,p2,nx,i) o 0:=by
  have:=nz (g:=uj (p1,p2,nx,i) o) (z:=(0:Int)) (l:=f.length);rw[qZ]at this;exact this
 have e1:Nz (cs,ns,os,f,ls,j) (p1,p2,nx,i) o f.length=ofF (cs,ns,os,f,ls,j) (p1,p2,nx,i) o:=by
  unfold ofF;rw[if_pos O];have:=oP (g:=uj (p1,p2,nx,i) o) (z:=(0:Int)) (l:=f.length);rw[qZ]at this;exact this
 have e2:gsF (cs,ns,os,f,ls,j) (p1,p2,nx,i) o=-1::fO (p1,p2,nx,i) o:=if_pos O;refine⟨⟨G,by show o<(nx.length:Int);omega,by omega,Vh cs ns os f ls j Z ht G X⟩,rfl,by omega,by omega,by omega,by omega,by omega,G,by omega,⟨0,⟨O,by omega,by show(0:Int)<=(f.length:Int);omega⟩,rfl,e0⟩,λx ⟨_,y,x1⟩=>⟨λhlt=>⟨y,hlt,λhe=>?_,λT=>⟨λL=>?_,λL=>?_⟩⟩,λhge=>?_⟩⟩
 .have A:x<f.length:=by omega
  have L:=len y x1;exact⟨L,y,by omega,L,aL (by omega),x+1,⟨O,by omega,by show x+1<=(f.length:Int);omega⟩,⟨rfl,r y A (by unfold uj;rw[if_pos he])⟩,by omega⟩
 .have A:x<f.length:=by omega
  have u:=len y x1;exact⟨u,y,by omega,u,aL (by omega),x+1,⟨O,by omega,by show x+1<=(f.length:Int);omega⟩,⟨rfl,r y A (by unfold uj;rw[if_neg T,if_pos L])⟩,by omega⟩
 .have A:x<f.length:=by omega
  have u:=len y x1;exact⟨by unfold YZ;simp only[qF,vZ];omega,by simp[qAs],u,y,by omega,u,aL (by omega),x+1,⟨O,by omega,by show x+1<=(f.length:Int);omega⟩,⟨rfl,r y A (by unfold uj;rw[if_neg T,if_neg L];rfl)⟩,by omega⟩
 .have x1:x<=(f.length:Int):=x1;have A:x=f.length:=by omega
  rw[A];exact⟨by simp[qAs],by rw[e2];rfl,len (by omega) (by omega),e1⟩
def xCs: List (Int×List Bool×Li):=[(0,[true,true,true,true,true,true,true],[])]
def xNs: List ByteArray:=[⟨#[99]⟩]
def xOs: List ByteArray:=[⟨#[112]⟩]
def xFs: Lo:=[(⟨#[97]⟩,0,0,2,1,10,[]),(⟨#[98]⟩,0,0,2,1,10,[])]
def xLs: Ll:=[(⟨#[120]⟩,0,1,600,60,1),(⟨#[121]⟩,1,0,600,60,1)]
def xKs: Lk:=[(⟨#[107]⟩,300,720)]
def yFs: Lo:=[(⟨#[97]⟩,0,0,2,1,10,[]),(⟨#[98]⟩,0,0,2,1,10,[]),(⟨#[99]⟩,0,0,2,1,10,[])]
def yLs: Ll:=[(⟨#[120]⟩,0,1,600,60,1),(⟨#[121]⟩,1,0,600,60,1),(⟨#[122]⟩,0,2,600,60,1),(⟨#[119]⟩,2,0,600,60,1)]
def mS(a b:Li): Bool:=a==b
def xr(a b:Li)(k:Int): Prop:=0<=k/\k<=a.length/\a.length=b.length/\a.length<=1000000/\a.take k.toNat=b.take k.toNat
def oY(a:Li): Prop:=a.length<=1000000
def r7(a b:List (Lj)): Bool:=a==b
def xo(a b:List (Lj))(k:Int): Prop:=0<=k/\k<=a.length/\a.length=b.length/\a.take k.toNat=b.take k.toNat
def EP(a:List (Lj)): Prop:=a.length<=1000000/\∀t∈a,mild t
def smF(n:Net)(nx:Lj): Bool:=(Ky n&&decide ((n.2.2.2.1.length:Int)<=6))&&(decide ((nx.length:Int)<=10)&&nx.all λr=>decide ((r.length:Int)<=10))
def aCC(nx:Lj)(k:Int): Prop:=0<=k/\k<=nx.length/\nx.length<=10/\∀i:Nat,(i:Int)<k->(nx.getD i []).length<=10
def w9(a b:Int): Bool:=decide (b<=IntKind.i64.wrap (a+9))||decide (b>IntKind.i64.wrap (a+60))
def aA0(n:Net)(a b:Int): Bool:=(smF n []&&decide ((n.2.2.2.2.2.length:Int)<=3))&&w9 a b
theorem WO(z:Int)(w:List Bool)(h:Li)(b:
 let c1:=Ei (Df w) 20;let c2:=c1->c1->c1;true/\(True->c2/\c2/\c2/\(Dj true c1->c1)/\Ea c1 (Ei (Df h) 60) false=ga w h/\True)):
  evF (mkc KC8) az 167 [cal z w h] [] ⟨True,.dat .bool (ga w h),[]⟩:=oE b
def KL1: Kt:=kOr 167 (aw [.row C] (λ_=>True) λ((_,w,h),_)=>.dat .bool (ga w h)) KC8
theorem aAa(k:Int)(cs:LC)(ns os:LB)(z:Lo)(ls:Ll)(v:Lk)(hvc:
 let c5:=ByteArray.mk #[];let c1:=(cs,ns,os,z,ls,v);let c2:=Eb k 1;let c3:=Df (aO c1 1);let c4:=[ByteArray.mk #[]];let c6:=aO c1 k;let c7:=Eb k 2;let c8:=Df (aO c1 2);let c9:=Eb k 3;let j:=Df (aO c1 3);let c11:=Df z;let c13:=Eb k 4;let c14:=Df (aO c1 4);let c15:=Df ls;let c16:=((0:Int),(0:Int));let c18:=Eb k 5;let i:=Df (aO c1 5);let c20:=Df v;true/\(mL c1->(c2->(∃x,let c22:=aV c1 1 x;upN x c3/\c1=c1/\Value.slice none 0 0=Value.slice none 0 0/\Dk c22=0/\c22=Dt ByteArray/\0=x/\k=k/\c22=Dt ByteArray/\True)/\∀(x:Int),let c23:=Dp x (Df cs);let c24:=Dp x (Df ns);let u:=aV c1 1 x;let b:=Dk u;let c27:=[Du ns (Dc x) c5];let c28:=b+Dk c27;let r:=x+1;let c30:=b+(Dk c4);upN x c3->(c23->(c24->0<=x/\x<Df ns/\b=b/\(c28*16)<=140737488355328/\c28<=9223372036854775807/\inR .i64 r/\∃y,let c31:=aV c1 1 y;upN y c3/\(c1=c1/\Value.slice none 0 0=Value.slice none 0 0/\c28=Dk c31/\r=y/\k=k/\Ef u c27=c31/\True)/\Dc (c3-y)<Dc (c3-x))/\(c24=false->b=b/\(c30*16)<=140737488355328/\c30<=9223372036854775807/\inR .i64 r/\∃y,let c32:=aV c1 1 y;upN y c3/\(c1=c1/\Value.slice none 0 0=Value.slice none 0 0/\c30=Dk c32/\r=y/\k=k/\Ef u c4=c32/\True)/\Dc (c3-y)<Dc (c3-x)))/\(c23=false->b=b/\u=c6/\True))/\(c2=false->(c7->(∃x,let c33:=aV c1 2 x;upN x c8/\c1=c1/\Value.slice none 0 0=Value.slice none 0 0/\Dk c33=0/\c33=Dt ByteArray/\0=x/\k=k/\c33=Dt ByteArray/\True)/\∀(x:Int),let c34:=Dp x (Df os);let c35:=aV c1 2 x;let h:=Dk c35;let c37:=[Du os (Dc x) c5];let c38:=h+Dk c37;let c39:=x+1;
 upN x c8->(c34->0<=x/\x<Df os/\h=h/\(c38*16)<=140737488355328/\c38<=9223372036854775807/\inR .i64 c39/\∃y,let c40:=aV c1 2 y;upN y c8/\(c1=c1/\Value.slice none 0 0=Value.slice none 0 0/\c38=Dk c40/\c39=y/\k=k/\Ef c35 c37=c40/\True)/\Dc (c8-y)<Dc (c8-x))/\(c34=false->h=h/\c35=c6/\True))/\(c7=false->(c9->(∃x,let c41:=aV c1 3 x;upN x j/\c1=c1/\Value.slice none 0 0=Value.slice none 0 0/\Dk c41=0/\c41=Dt ByteArray/\0=x/\k=k/\c41=Dt ByteArray/\True)/\∀(x:Int),let Z:=aV c1 3 x;let g:=Dk Z;let c44:=[(Du z (Dc x) (ByteArray.mk #[],(0:Int),(0:Int),(0:Int),(0:Int),(0:Int),Dt ByteArray)).1];let X:=g+Dk c44;let c46:=x+1;upN x j->(Dp x c11->0<=x/\x<c11/\g=g/\(X*16)<=140737488355328/\X<=9223372036854775807/\inR .i64 c46/\∃y,let c47:=aV c1 3 y;upN y j/\(c1=c1/\Value.slice none 0 0=Value.slice none 0 0/\X=Dk c47/\c46=y/\k=k/\Ef Z c44=c47/\True)/\Dc (j-y)<Dc (j-x))/\(Dp x c11=false->g=g/\Z=c6/\True))/\(c9=false->(c13->(∃x,let V:=aV c1 4 x;upN x c14/\c1=c1/\Value.slice none 0 0=Value.slice none 0 0/\Dk V=0/\V=Dt ByteArray/\0=x/\k=k/\V=Dt ByteArray/\True)/\∀(x:Int),let T:=aV c1 4 x;let f:=Dk T;let c51:=[(Du ls (Dc x) (ByteArray.mk #[],(0:Int),(0:Int),(0:Int),c16)).1];let O:=f+Dk c51;let c53:=x+1;upN x c14->(Dp x c15->0<=x/\x<c15/\f=f/\(O*16)<=140737488355328/\O<=9223372036854775807/\inR .i64 c53/\∃y,let c54:=aV c1 4 y;
 upN y c14/\(c1=c1/\Value.slice none 0 0=Value.slice none 0 0/\O=Dk c54/\c53=y/\k=k/\Ef T c51=c54/\True)/\Dc (c14-y)<Dc (c14-x))/\(Dp x c15=false->f=f/\T=c6/\True))/\(c13=false->(c18->(∃x,let L:=aV c1 5 x;upN x i/\c1=c1/\Value.slice none 0 0=Value.slice none 0 0/\Dk L=0/\L=Dt ByteArray/\0=x/\L=Dt ByteArray/\True)/\∀(x:Int),let G:=aV c1 5 x;let e:=Dk G;let c58:=[(Du v (Dc x) (ByteArray.mk #[],c16)).1];let A:=e+Dk c58;let c60:=x+1;upN x i->(Dp x c20->0<=x/\x<c20/\e=e/\(A*16)<=140737488355328/\A<=9223372036854775807/\inR .i64 c60/\∃y,let c61:=aV c1 5 y;upN y i/\(c1=c1/\Value.slice none 0 0=Value.slice none 0 0/\A=Dk c61/\c60=y/\Ef G c58=c61/\True)/\Dc (i-y)<Dc (i-x))/\(Dp x c20=false->e=e/\G=c6/\True))/\(c18=false->c6=Dt ByteArray/\True))))))):
  evF (mkc KL1) (lvA [(5,[2,4,5,6,7,8,9,10,11]),(12,[2,4,5,7,8,9,10,11]),(17,[2,4,5,8,9,10,11]),(22,[2,4,5,9,10,11]),(27,[2,4,5,10])] (aBz (cs,ns,os,z,ls,v))) 168 [net cs ns os z ls v,.dat I k] [] ⟨mL (cs,ns,os,z,ls,v)=true,.dat (.sl S) (aO (cs,ns,os,z,ls,v) k),[]⟩:=oE hvc
theorem xS(a b:Lj)(g:
 let c1:=Ec (Df a) (Df b);true/\(mild a->(c1->false=nI a b/\True)/\(c1=false->(∃x,xq a b x/\a=a/\b=b/\0=x/\True)/\∀(x:Int),let c2:=Dp x (Df a);let c3:=Du a (Dc x) [];let c4:=Df c3;let c5:=Du b (Dc x) [];let c6:=Df c5;let c7:=Ec c4 c6;let h:=x+1;xq a b x->(c2->0<=x/\x<Df a/\0<=x/\x<Df b/\(c7->false=nI a b/\True)/\(c7=false->(∃e,xu a b x e/\a=a/\b=b/\x=x/\0=e/\True)/\∀(e:Int),let c9:=Ec (Du c3 (Dc e) 0) (Du c5 (Dc e) 0);let f:=e+1;xu a b x e->0<=x/\x<Df a/\(Dp e c4->0<=x/\x<Df a/\0<=e/\e<c4/\0<=x/\x<Df b/\0<=e/\e<c6/\(c9->false=nI a b/\True)/\(c9=false->inR .i64 f/\∃y,xu a b x y/\(a=a/\b=b/\x=x/\f=y/\True)/\Dc (c4-y)<Dc (c4-e)))/\(Dp e c4=false->inR .i64 h/\∃y,xq a b y/\(a=a/\b=b/\h=y/\True)/\Dc (Df a-y)<Dc (Df a-x))))/\(c2=false->true=nI a b/\True)))):
  evF (mkc KL1) (lvA [(4,[0,1,4,5,6]),(9,[0,1,4,5,6])] (aA3 a b)) 22 [.dat M a,.dat M b] [] ⟨mild a,.dat .bool (nI a b),[]⟩:=oE g
def aA4(a b:Li): Ann:=⟨λid st=>match id with
 | 4=>some {α:=Int,inv:=λk=>xr a b k,st:=λk=>put st [(5,.dat I k)],μ:=λk=>Dc (Dh (Df a) k)}
 | _=>none,λ_ _=>none,λ_ _=>none⟩
theorem xV(a b:Li)(e:
 let c1:=Ec (Df a) (Df b);true/\(oY a->(c1->false=mS a b/\True)/\(c1=false->(∃x,xr a b x/\a=a/\b=b/\0=x/\True)/\∀(x:Int),let c2:=Dp x (Df a);let c3:=Ec (Du a (Dc x) 0) (Du b (Dc x) 0);let c4:=x+1;xr a b x->(c2->0<=x/\x<Df a/\0<=x/\x<Df b/\(c3->false=mS a b/\True)/\(c3=false->inR .i64 c4/\∃y,xr a b y/\(a=a/\b=b/\c4=y/\True)/\Dc (Df a-y)<Dc (Df a-x)))/\(c2=false->true=mS a b/\True)))):
  evF (mkc KL1) (lvA [(4,[0,1,4,5])] (aA4 a b)) 35 [.dat R a,.dat R b] [] ⟨oY a,.dat .bool (mS a b),[]⟩:=oE e
def KL2: Kt:=kOr 168 (aw [.row N,.val I] (λ(n,_,_)=>mL n=true) λ(n,k,_)=>.dat (.sl S) (aO n k)) <|
 kOr 22 (aw [.val M,.val M] (λ(a,_,_)=>mild a) λ(a,b,_)=>.dat .bool (nI a b)) <|
 kOr 35 (aw [.val R,.val R] (λ(a,_,_)=>oY a) λ(a,b,_)=>.dat .bool (mS a b)) KL1
theorem WQ(cs:LC)(ns os:LB)(g:Lo)(ls:Ll)(z:Lk)(hvc:
 let c1:=Df cs;let c2:=Eh c1 10;let c3:=Di c2;let j:=c3->c3->c3;let c4:=Ea c2 true (Eh (Df ns) 10);let c5:=Di c4;let i:=c5->c5->c5;let c6:=Ea c4 true (Eh (Df os) 10);let c7:=Di c6;let h:=c7->c7->c7;let v:=Df g;let c9:=Ea c6 true (Eh v 16);let f:=Di c9;let u:=f->f->f;let c11:=Ea c9 true (Eh (Df ls) 50);let c12:=Di c11;let r:=c12->c12->c12;let c13:=Ea c11 true (Eh (Df z) 8);let c14:=(cs,ns,os,g,ls,z);let c15:=Ky c14;true/\(True->j/\j/\j/\(Dj true c3->c3)/\i/\i/\i/\(Dj true c5->c5)/\h/\h/\h/\(Dj true c7->c7)/\u/\u/\u/\(Dj true f->f)/\r/\r/\r/\(Dj true c12->c12)/\(c13->false=c15/\True)/\(c13=false->(∃x,Ib cs x/\c14=c14/\0=x/\True)/\∀(x:Int),let c16:=(Du cs (Dc x) ((0:Int),Dt Bool,Dt Int)).2;let Z:=Di (ga c16.1 c16.2);let X:=x+1;Ib cs x->(Dp x c1->0<=x/\x<c1/\True/\(Z->false=c15/\True)/\(Z=false->inR IntKind.i64 X/\∃y,Ib cs y/\(c14=c14/\X=y/\True)/\Dc (c1-y)<Dc (c1-x)))/\(Dp x c1=false->(∃x,Hy g x/\c14=c14/\0=x/\True)/\∀(x:Int),let V:=Eh (Df (Du g (Dc x) (ByteArray.mk #[],(0:Int),(0:Int),(0:Int),(0:Int),(0:Int),Dt ByteArray)).2.2.2.2.2.2) 30;let T:=x+1;Hy g x->(Dp x v->0<=x/\x<v/\(V->false=c15/\True)/\(V=false->inR IntKind.i64 T/\∃y,Hy g y/\(c14=c14/\T=y/\True)/\Dc (v-y)<Dc (v-x)))/\(Dp x v=false->(∃x,ym c14 x/\c14=c14/\1=x/\True)/\∀(x:Int),let O:=Ei x 5;let e:=Df (aO c14 x);let L:=x+1;ym c14 x->(O->mL c14/\(∃b,TJ (aO c14 x) b/\c14=c14/\x=x/\aO c14 x=aO c14 x/\0=b/\True)/\∀(b:Int),let G:=Eh (Et (Du (aO c14 x) (Dc b) (ByteArray.mk #[]))) 40;let A:=b+1;
 TJ (aO c14 x) b->(Dp b e->0<=b/\b<e/\(G->false=c15/\True)/\(G=false->inR .i64 A/\∃y,TJ (aO c14 x) y/\(c14=c14/\x=x/\aO c14 x=aO c14 x/\A=y/\True)/\Dc (e-y)<Dc (e-b)))/\(Dp b e=false->inR .i64 L/\∃y,ym c14 y/\(c14=c14/\L=y/\True)/\Dc (6-y)<Dc (6-x)))/\(O=false->true=c15/\True)))))):
  evF (mkc KL2) (lvA [(4,[1,2,3,4,5,6,7]),(9,[1,2,4,5,6,7]),(14,[1,2,5,6,7]),(18,[1,2,5,6,7])] (aF1 (cs,ns,os,g,ls,z))) 104 [net cs ns os g ls z] [] ⟨True,.dat .bool (Ky (cs,ns,os,g,ls,z)),[]⟩:=oE hvc
def aA2(a b:List (Lj)): Ann:=⟨λid st=>match id with
 | 4=>some {α:=Int,inv:=λk=>xo a b k,st:=λk=>put st [(5,.dat I k)],μ:=λk=>Dc (Dh (Df a) k)}
 | _=>none,λ_ _=>none,λ_ _=>none⟩
theorem xD(a b:List (Lj))(e:
 let c1:=Df a;let c2:=Df b;let c3:=Ec c1 c2;true/\(EP a->(c3->false=r7 a b/\True)/\(c3=false->(∃x,xo a b x/\a=a/\b=b/\0=x/\True)/\∀(x:Int),let c4:=Du a (Dc x) (Dt (Li));let c5:=Di (nI c4 (Du b (Dc x) (Dt (Li))));let c6:=x+1;xo a b x->(Dp x c1->0<=x/\x<c1/\0<=x/\x<c2/\mild c4/\(c5->false=r7 a b/\True)/\(c5=false->inR .i64 c6/\∃y,xo a b y/\(a=a/\b=b/\c6=y/\True)/\Dc (c1-y)<Dc (c1-x)))/\(Dp x c1=false->true=r7 a b/\True)))):
  evF (mkc KL2) (lvA [(4,[0,1,4,5])] (aA2 a b)) 24 [.dat (.sl M) a,.dat (.sl M) b] [] ⟨EP a,.dat .bool (r7 a b),[]⟩:=oE e
def KL3: Kt:=kOr 104 (aw [.row N] (λ_=>True) λ(n,_)=>.dat .bool (Ky n)) <|
 kOr 24 (aw [.val (.sl M),.val (.sl M)] (λ(a,_,_)=>EP a) λ(a,b,_)=>.dat .bool (r7 a b)) KL2
def smA(nx:Lj): Ann:=⟨λid s=>match id with
 | 4=>some {α:=Int,inv:=λk=>aCC nx k,st:=λk=>put s [(5,.dat I k)],μ:=λk=>Dc (Dh (Df nx) k)}
 | _=>none,λ_ _=>none,λ_ _=>none⟩
theorem QN(nx:Lj)(cs:LC)(ns os:LB)(f:Lo)(ls:Ll)(g:Lk)(h:
 let c1:=(cs,ns,os,f,ls,g);let c2:=Di (Ky c1);let c3:=Di c2;let b:=c3->c3->c3;let c4:=Ea c2 true (Eh (Df f) 6);let c5:=Di c4;let c6:=Ea c4 true (Eh (Df nx) 10);let c7:=smF c1 nx;true/\(True->True/\b/\b/\b/\(Dj true c3->c3)/\(c5->c5->c5)/\(c5->c5->c5)/\(Dj true c5->c5)/\(c6->false=c7/\True)/\(c6=false->(∃x,aCC nx x/\nx=nx/\0=x/\True)/\∀(x:Int),let i:=Dp x (Df nx);let c9:=Eh (Df (Du nx (Dc x) [])) 10;let e:=x+1;aCC nx x->(i->0<=x/\x<Df nx/\(c9->false=c7/\True)/\(c9=false->inR .i64 e/\∃y,aCC nx y/\(nx=nx/\e=y/\True)/\Dc (Df nx-y)<Dc (Df nx-x)))/\(i=false->true=c7/\True)))):
  evF (mkc KL3) (lvA [(4,[1,4,5])] (smA nx)) 37 [net cs ns os f ls g,.dat M nx] [] ⟨True,.dat .bool (smF (cs,ns,os,f,ls,g) nx),[]⟩:=oE h
def KL4: Kt:=kOr 37 (aw [.row N,.val M] (λ_=>True) λ(n,nx,_)=>.dat .bool (smF n nx)) KL3
theorem QM(a b:Int)(cs:LC)(ns os:LB)(g:Lo)(ls:Ll)(e:Lk)(f:
 let c1:=(cs,ns,os,g,ls,e);let c2:=smF c1 (Dt (Li));let h:=c2->c2->c2;let c3:=Ea c2 (Ei (Df e) 3) false;let c6:=c3->c3->c3;let c4:=Ei b (Ew IntKind.i64 (a+9));let c7:=Di c4;let c5:=Dj c3 c7->Dj c3 c7->Dj c3 c7;true/\(True->True/\h/\h/\h/\(Dj true c2->c2)/\c6/\c6/\c6/\c6/\c5/\c5/\c5/\c6/\(c3->Dj c3 c7->Dj c3 c7)/\(Dj true c3->c3)/\Ea c3 (Ea c4 true (Eh b (Ew IntKind.i64 (a+60)))) false=aA0 c1 a b/\True)):
  evF {mkc KL4 with mb:=λt=>t==18||t==23} az 10 [net cs ns os g ls e,.dat I a,.dat I b] [] ⟨True,.dat .bool (aA0 (cs,ns,os,g,ls,e) a b),[]⟩:=oE f
theorem aAb(b:
 let c1:=((0:Int),(0:Int),(2:Int),(1:Int),(10:Int),Dt ByteArray);let c2:=((600:Int),(60:Int),(1:Int));true/\(True->1=1/\0=0/\1=1/\0=0/\1=1/\0=0/\1=1/\1=1/\0=0/\1=1/\1=1/\0=0/\1=1/\1=1/\0=0/\1=1/\0=0/\1=1/\0=0/\1=1/\0=0/\[((0:Int),[true,true,true,true,true,true,true],Dt Int)]=xCs/\[ByteArray.mk #[(99:UInt8)]]=xNs/\[ByteArray.mk #[(112:UInt8)]]=xOs/\[(ByteArray.mk #[(97:UInt8)],c1),(ByteArray.mk #[(98:UInt8)],c1)]=xFs/\[(ByteArray.mk #[(120:UInt8)],(0:Int),(1:Int),c2),(ByteArray.mk #[(121:UInt8)],(1:Int),(0:Int),c2)]=xLs/\[(ByteArray.mk #[(107:UInt8)],(300:Int),(720:Int))]=xKs/\True)):
  evF (mkc KL4) az 34 [] [] ⟨True,.agg [.dat (.sl C) xCs,.dat (.sl S) xNs,.dat (.sl S) xOs,.dat (.sl Of) xFs,.dat (.sl Ln) xLs,.dat (.sl Kl) xKs],[]⟩:=oE b
def KL5: Kt:=kOr 10 (aw [.row N,.val I,.val I] (λ_=>True) λ(n,a,b,_)=>.dat .bool (aA0 n a b)) <|
 kOr 34 (aw [] (λ_=>True) λ_=>.agg [.dat (.sl C) xCs,.dat (.sl S) xNs,.dat (.sl S) xOs,.dat (.sl Of) xFs,.dat (.sl Ln) xLs,.dat (.sl Kl) xKs]) <|
 kOr 11 (aw [.row N,.val I,.val I] (λ_=>True) λ(n,a,b,_)=>.tup [.agg [.dat I (iz n a b).1,.dat I (iz n a b).2.1,.dat M (iz n a b).2.2.1,.dat (.sl M) (iz n a b).2.2.2],.agg [.dat R (H8 n a b).1,.dat I (H8 n a b).2],.dat I (rc n a b)]) <|
 kOr 12 (aw [.row N,.row Pl,.val I] (λ(_,p,_,_)=>fb p) λ(n,p,o,_)=>.tup [.dat R (gsF n p o),.dat R (ofF n p o)]) <|
 kOr 26 (aw [.row N,.row (.pair R I)] (λ(n,c,_)=>Go.Eng.In.HD c.1/\Go.Eng.In.qy n) λ(n,c,_)=>.dat I (Go.Eng.In.fP n c.1 c.2)) <|
 kOr 36 (aw [.val R] (λ(l,_)=>Go.Eng.In.PY l) λ(l,_)=>.dat I (Go.Eng.In.mR l)) KL4
def aFW: Ann:=⟨λ_ _=>none,λid s=>match id with
 | 8=>some (TY [1,2,3,4,5,6,9,10] (frz ((s.mem.filter λp=>match p.2 with
  | .buf ..=>true
  | _=>false).map (·.1)) s))
 | _=>none,λ_ _=>none⟩
theorem Lc  (hvc :
 let c1 := (xCs, xNs, xOs, xFs, xLs, xKs);
 let c2 := iz c1 (0 : Int) (1 : Int);
 let c3 := c2.fst;
 let c4 := c2.snd;
 let c5 := c4.fst;
 let c6 := c4.snd;
 let c7 := c6.fst;
 let c8 := c6.snd;
 let c9 := (c3, c5, c7, c8);
 let c10 := Df xFs;
 let c11 := Dz (0) (Dk xLs);
 let c12 := Ef (Dt (ByteArray × Int × Int × Int × Int × Int)) xLs;
 let c13 := ((600 : Int), (60 : Int), (1 : Int));
 let c14 := [(ByteArray.mk #[(122 : UInt8)], (0 : Int), (2 : Int), c13), (ByteArray.mk #[(119 : UInt8)], (2 : Int), (0 : Int), c13)];
 let c15 := Dz c11 (Dk c14);
 let c16 := Ef c12 c14;
 let c17 := rc c1 (0 : Int) (1 : Int);
 let c18 := gsF c1 c9 (0 : Int);
 let c19 := ofF c1 c9 (0 : Int);
 let c20 := rc c1 (0 : Int) (61 : Int);
 let c21 := H8 c1 (0 : Int) (1 : Int);
 let c22 := c21.fst;
 let c23 := c21.snd;
 let c24 := iz c1 (0 : Int) (61 : Int);
 let c25 := c24.fst;
 let c26 := c24.snd;
 let c27 := c26.fst;
 let c28 := c26.snd;
 let c29 := c28.fst;
 let c30 := c28.snd;
 let c31 := H8 c1 (0 : Int) (61 : Int);
 let c32 := c31.fst;
 let c33 := c31.snd;
 let c34 := (ByteArray.mk (Dt UInt8).toArray, (0 : Int), (0 : Int), (0 : Int), (0 : Int), (0 : Int), Dt ByteArray);
 let c35 := Du xFs (Dc (0 : Int)) c34;
 let c36 := c35.snd;
 let c37 := c36.snd;
 let c38 := c37.snd;
 let c39 := c38.snd;
 let c40 := c39.snd;
 let c41 := Du xFs (Dc (1 : Int)) c34;
 let c42 := c41.snd;
 let c43 := c42.snd;
 let c44 := c43.snd;
 let c45 := c44.snd;
 let c46 := c45.snd;
 let c47 := [(c35.fst, c36.fst, c37.fst, c38.fst, c39.fst, c40.fst, c40.snd), (c41.fst, c42.fst, c43.fst, c44.fst, c45.fst, c46.fst, c46.snd), (ByteArray.mk
  #[(99 : UInt8)], (0 : Int), (0 : Int), (2 : Int), (1 : Int), (10 : Int), Dt ByteArray)];
 let c48 := Eb c17 (0 : Int);
 let c49 := [(0 : Int)];
 let c50 := (-1 : Int) :: c49;
 let c51 := Ea c48 (nI c7 [c50, [(1 : Int), (-1 : Int)]]) false;
 let c52 := (0 : Int) :: c49;
 let c53 := Ea c51 (r7 c8 [[c52, c52]]) false;
 let c54 := Ea c53 (mS c22 [(0 : Int), (1 : Int), (2 : Int), (1 : Int), (0 : Int), (1 : Int), (2 : Int), (0 : Int), (1 : Int), (1 : Int), (1 : Int), (1 :
  Int), (2 : Int), (2 : Int)]) false;
 let c55 := Ea c54 (Eb c23 (In.mR c22)) false;
 let c56 := Ea c55 (mS c18 c50) false;
 let c57 := Ea c56 (mS c19 [(0 : Int), (1 : Int)]) false;
 let c58 := Ea c57 (Eb c20 (1 : Int)) false;
 let c59 := Ea c58 (Eb (rc (xCs, xNs, xOs, c47, c16, xKs) (0 : Int) (1 : Int)) (140 : Int)) false; true = true ∧ (True → True ∧ 1 = 1 ∧ 0 = 0 ∧ 1 = 1 ∧ 0
  = 0 ∧ True ∧ 1 = 1 ∧ 0 = 0 ∧ 1 = 1 ∧ 0 = 0 ∧ 1 = 1 ∧ 0 = 0 ∧ 1 = 1 ∧ 0 = 0 ∧ fb c9 ∧ 1 = 1 ∧ 0 = 0 ∧ True ∧ 1 = 1 ∧ 0 = 0 ∧ 1 = 1 ∧ 0 = 0 ∧ 1 = 1 ∧ 0 = 0 ∧
  1 = 1 ∧ 0 = 0 ∧ 1 = 1 ∧ 1 = 1 ∧ 0 = 0 ∧ Dl (0 : Int) (0 : Int) ∧ Dn (0 : Int) c10 ∧ 1 = 1 ∧ 1 = 1 ∧ 0 = 0 ∧ Dl (0 : Int) (1 : Int) ∧ Dn (1 : Int)
  c10 ∧ 1 = 1 ∧ 1 = 1 ∧ 0 = 0 ∧ 1 = 1 ∧ 1 = 1 ∧ 0 = 0 ∧ Dk (Dt (ByteArray × Int × Int × Int × Int × Int)) = 0 ∧ Dy (Ej c11 (56)) (140737488355328) ∧
  Dy c11 (9223372036854775807) ∧ Dk c12 = c11 ∧ Dy (Ej c15 (56)) (140737488355328) ∧ Dy c15 (9223372036854775807) ∧ 1 = 1 ∧ 1 = 1 ∧ 0 = 0 ∧ Dk
  c16 = c15 ∧ 1 = 1 ∧ 0 = 0 ∧ 0 = 0 ∧ 1 = 1 ∧ 0 = 0 ∧ 0 = 0 ∧ 1 = 1 ∧ 0 = 0 ∧ 0 = 0 ∧ c17 = c17 ∧ c18 = c18 ∧ c19 = c19 ∧ c20 = c20 ∧ 1 = 1 ∧ 0 = 0 ∧ 0 = 0 ∧ xCs
  = xCs ∧ xNs = xNs ∧ xOs = xOs ∧ xFs = xFs ∧ xLs = xLs ∧ xKs = xKs ∧ c3 = c3 ∧ c5 = c5 ∧ c7 = c7 ∧ c8 = c8 ∧ c22 = c22 ∧ c23 = c23 ∧ c25 = c25 ∧ c27 = c27 ∧ c29
  = c29 ∧ c30 = c30 ∧ c32 = c32 ∧ c33 = c33 ∧ xCs = xCs ∧ xNs = xNs ∧ xOs = xOs ∧ c47 = c47 ∧ Dk c16 = c15 ∧ c16 = c16 ∧ xKs = xKs ∧ 1 = 1 ∧ 0 = 0 ∧ True ∧ 1
  = 1 ∧ 0 = 0 ∧ 1 = 1 ∧ 0 = 0 ∧ (c48 = true → 1 = 1) ∧ (c48 = true → c48 = true → c48 = true) ∧ (c48 = true → 1 = 1) ∧ (c48 = true → 0 = 0) ∧ (c48 = true → c48 =
  true → c48 = true) ∧ (c48 = true → c48 = true → c48 = true) ∧ (c48 = true → c48 = true → c48 = true) ∧ (c48 = true → c48 = true → c48 = true) ∧ (c48 = true →
  mild c7) ∧ (Dj true c48 = true → c48 = true) ∧ (c51 = true → 1 = 1) ∧ (c51 = true → c51 = true → c51 = true) ∧ (c51 = true → 1 = 1) ∧ (c51 = true → 0 = 0) ∧
  (c51 = true → c51 = true → c51 = true) ∧ (c51 = true → c51 = true → c51 = true) ∧ (c51 = true → c51 = true → c51 = true) ∧ (c51 = true → c51 = true → c51 =
  true) ∧ (c51 = true → c51 = true → c51 = true) ∧ (c51 = true → EP c8) ∧ (Dj true c51 = true → c51 = true) ∧ (c53 = true → 1 = 1) ∧ (c53 = true → c53 =
  true → c53 = true) ∧ (c53 = true → 1 = 1) ∧ (c53 = true → 0 = 0) ∧ (c53 = true → c53 = true → c53 = true) ∧ (c53 = true → c53 = true → c53 = true) ∧ (c53 =
  true → oY c22) ∧ (Dj true c53 = true → c53 = true) ∧ (c54 = true → 1 = 1) ∧ (c54 = true → c54 = true → c54 = true) ∧ (c54 = true → 1 = 1) ∧ (c54 = true →
  0 = 0) ∧ (c54 = true → 1 = 1) ∧ (c54 = true → c54 = true → c54 = true) ∧ (c54 = true → 1 = 1) ∧ (c54 = true → 0 = 0) ∧ (c54 = true → c54 = true → c54 = true) ∧
  (c54 = true → In.PY c22) ∧ (c54 = true → c54 = true → c54 = true) ∧ (c54 = true → c54 = true → c54 = true) ∧ (Dj true c54 = true → c54 = true) ∧ (c55 =
  true → c55 = true → c55 = true) ∧ (c55 = true → c55 = true → c55 = true) ∧ (c55 = true → oY c18) ∧ (Dj true c55 = true → c55 = true) ∧ (c56 = true → c56
  = true → c56 = true) ∧ (c56 = true → c56 = true → c56 = true) ∧ (c56 = true → oY c19) ∧ (Dj true c56 = true → c56 = true) ∧ (c57 = true → c57 = true →
  c57 = true) ∧ (Dj true c57 = true → c57 = true) ∧ (c58 = true → c58 = true → c58 = true) ∧ (Dj true c58 = true → c58 = true) ∧ (c59 = true → 1 = 1) ∧
  (c59 = true → 0 = 0) ∧ (c59 = true → 1 = 1) ∧ (c59 = true → 0 = 0) ∧ (c59 = true → c59 = true → c59 = true) ∧ (c59 = true → c59 = true → c59 = true) ∧ (c59 =
  true → In.HD c22 ∧ In.qy c1) ∧ (c59 = true → c59 = true → c59 = true) ∧ (Dj true c59 = true → c59 = true) ∧ Ea c59 (Eb (In.fP c1 c22 c23) (0 :
  Int)) false = true ∧ True)) :
    evF { mkc KL5 with mb := fun t => t == 46 } aFW 9 [] [] ⟨True, .dat .bool true, []⟩ := oE hvc
def KL6: Kt:=kOr 9 (aw [] (λ_=>True) λ_=>.dat .bool true) KL5
theorem aAI(z:Int)(w:List Bool)(h:Li): af Tryz.prog G0 167 [cal z w h] [] ⟨True,.dat .bool (ga w h),[]⟩:=by
 refine ae (c:=mkc KC8) KC aK hm (WO z w h ⟨rfl,λ_=>?_⟩);simp only[qc,Dj,Es,Di,ga,Ei,Df]
 congr 1<;>congr 1<;>exact propext (by omega)
theorem aC0: aj Tryz.prog G0 KL1:=ai (ag λ((z,w,h),_)=>aAI z w h) KC
theorem aDS(k:Int)(cs:LC)(ns os:LB)(f:Lo)(ls:Ll)(b:Lk): af Tryz.prog G0 168 [net cs ns os f ls b,.dat I k] [] ⟨mL (cs,ns,os,f,ls,b)=true,.dat (.sl S) (aO (cs,ns,os,f,ls,b) k),[]⟩:=by
 refine ae (c:=mkc KL1) aC0 aK hm (aAa k cs ns os f ls b ⟨rfl,λy=>?_⟩);obtain⟨l1,l2,l3,Z,X,V⟩:=y8 cs ns os f ls b y;simp only[qc,Dj,Es,Di,qd,Dt,Eb,Ec,Dp,Eh,Ei,Ed,Ey,Df,Et,Dl,Dn,Eo,Dy,Dw,Dh,Dq,Ee,Fh,Dc,Dx,Dk,Dz,Ej,Du,Eu,Ez,En,Ef,Fe,Fj,Fg,Ep,Em,Ew,Fb];refine⟨λg=>?_,λh=>⟨λg=>?_,λO=>⟨λg=>?_,λL=>⟨λg=>?_,λG=>⟨λg=>?_,λA=>?_⟩⟩⟩⟩⟩
 .subst g;have z:(aO (cs,ns,os,f,ls,b) 1).length=cs.length:=fz cs ns;obtain⟨T,u⟩:=Bl (n:=(cs,ns,os,f,ls,b)) (k:=1) (el:=λx=>ns.getD x.toNat ⟨#[]⟩) (R:=aO (cs,ns,os,f,ls,b) 1) z (by omega) (λx i h=>tZ i h) rfl;refine⟨T,λx j=>⟨λr=>⟨λv=>⟨j.1,v,((u x j).1 r).2.2⟩,λv=>?_⟩,(u x j).2⟩⟩;have e:ns.getD x.toNat ⟨#[]⟩=⟨#[]⟩:=by rw[qA,wV (by have:=j.1;omega)];rfl
  have:=((u x j).1 r).2.2;simp only[e]at this;exact this
 .subst g;exact Bl (n:=(cs,ns,os,f,ls,b)) (k:=2) (m:=os.length) (el:=λx=>os.getD x.toNat ⟨#[]⟩) rfl (by omega) (λx _ _=>rfl) rfl
 .subst g;exact Bl (n:=(cs,ns,os,f,ls,b)) (k:=3) (m:=f.length) (el:=λx=>(f.getD x.toNat (⟨#[]⟩,0,0,0,0,0,[])).1) (map_length _ f) (by omega) (λx i h=>Ji _ i h) rfl
 .subst g;exact Bl (n:=(cs,ns,os,f,ls,b)) (k:=4) (m:=ls.length) (el:=λx=>(ls.getD x.toNat (⟨#[]⟩,0,0,0,0,0)).1) (map_length _ ls) (by omega) (λx i h=>Ji _ i h) rfl
 .subst g;exact Bl (n:=(cs,ns,os,f,ls,b)) (k:=5) (m:=b.length) (el:=λx=>(b.getD x.toNat (⟨#[]⟩,0,0)).1) (map_length _ b) (by omega) (λx i h=>Ji _ i h) rfl
 .unfold aO;rw[if_neg h,if_neg O,if_neg L,if_neg G,if_neg A]
theorem aDQ(a b:Lj): af Tryz.prog G0 22 [.dat M a,.dat M b] [] ⟨mild a,.dat .bool (nI a b),[]⟩:=by
 refine ae (c:=mkc KL1) aC0 aK hm (xS a b ⟨rfl,λ⟨G,j⟩=>?_⟩);simp only[qc,Dj,Es,Di,qd,Dt,Eb,Ec,Dp,Eh,Ei,Ed,Ey,Df,Et,Dl,Dn,Eo,Dy,Dw,Dh,Dq,Ee,Fh,Dc,Dx,Dk,Dz,Ej,Du,Eu,Ez,En,Ef,Fe,Fj,Fg,Ep,Em,Ew,Fb];refine⟨λh=>xp λe=>h (by rw[e]),λh=>⟨⟨qL _,qV _,by omega,G,rfl⟩,λx ⟨g,g1,V,T,u⟩=>⟨λf=>⟨g,f,g,by omega,λhd=>xp λe=>hd (by rw[e]),λhd=>?_⟩,λL=>?_⟩⟩⟩
 .have r:=j _ (getD_mem (l:=a) (i:=x.toNat) (d:=[]) (by omega));refine⟨⟨qL _,qV _,by omega,r,rfl⟩,λz ⟨A,f1,Z,X,v⟩=>⟨g,f,λy=>⟨g,f,A,y,g,by omega,A,by omega,λhd=>xp λe=>hd (by rw[e]),λO=>⟨⟨by omega,by omega⟩,z+1,⟨by omega,by omega,Z,X,?_⟩,rfl,by omega⟩⟩,λy=>⟨⟨by omega,by omega⟩,x+1,⟨by omega,by omega,V,T,?_⟩,rfl,by omega⟩⟩⟩
  .rw[show(z+1).toNat=z.toNat+1 by omega];exact iH v (by omega) (by omega) O
  .rw[show(x+1).toNat=x.toNat+1 by omega];refine iH (d:=[]) u (by omega) (by omega) ?_;rw[qQ (by omega),qQ (by omega)]at v;exact v
 .rw[qQ (by omega),qQ (by omega)]at u;subst u;unfold nI;simp
theorem G2{a b:Li}(h:a≠b): false=mS a b:=by unfold mS;exact(qAe.2 h).symm
theorem aDR(a b:Li): af Tryz.prog G0 35 [.dat R a,.dat R b] [] ⟨oY a,.dat .bool (mS a b),[]⟩:=by
 refine ae (c:=mkc KL1) aC0 aK hm (xV a b ⟨rfl,λj=>?_⟩);simp only[qc,Dj,Es,Di,qd,Dt,Eb,Ec,Dp,Eh,Ei,Ed,Ey,Df,Et,Dl,Dn,Eo,Dy,Dw,Dh,Dq,Ee,Fh,Dc,Dx,Dk,Dz,Ej,Du,Eu,Ez,En,Ef,Fe,Fj,Fg,Ep,Em,Ew,Fb];refine⟨λh=>G2 λe=>h (by rw[e]),λh=>⟨⟨qL _,qV _,by omega,j,rfl⟩,λx ⟨i,y,v,u,g⟩=>⟨λf=>⟨i,f,i,by omega,λhd=>G2 λe=>hd (by rw[e]),λhd=>⟨⟨by omega,by omega⟩,x+1,⟨by omega,by omega,v,u,?_⟩,rfl,by omega⟩⟩,λr=>?_⟩⟩⟩
 .rw[show(x+1).toNat=x.toNat+1 by omega];exact iH g (by omega) (by omega) hd
 .rw[qQ (by omega),qQ (by omega)]at g;subst g;unfold mS;simp
theorem aEP: aj Tryz.prog G0 KL2:=ai (ag λ((cs,ns,os,f,ls,e),k,_)=>aDS k cs ns os f ls e)<|ai (ag λ(a,b,_)=>aDQ a b)<|ai (ag λ(a,b,_)=>aDR a b) aC0
theorem aBy{n:Net}(q:mL n=true)(k:Int): (aO n k).length<=100:=by
 obtain⟨cs,ns,os,e,ls,b⟩:=n;obtain⟨r,j,i,h,g,f⟩:=y8 cs ns os e ls b q;unfold aO;split
 .exact wL (zY (fz cs ns)) (by omega)
 split
 .show os.length<=100;omega
 split
 .exact wL (zY (map_length _ e)) (by omega)
 split
 .exact wL (zY (map_length _ ls)) (by omega)
 split
 .exact wL (zY (map_length _ b)) (by omega)
 .exact wZ _
theorem aAJ(cs:LC)(ns os:LB)(f:Lo)(ls:Ll)(r:Lk): af Tryz.prog G0 104 [net cs ns os f ls r] [] ⟨True,.dat .bool (Ky (cs,ns,os,f,ls,r)),[]⟩:=by
 refine ae (c:=mkc KL2) aEP aK hm (WQ cs ns os f ls r ⟨rfl,λhp=>?_⟩);simp only[qc,Dj,Es,Di,qd,Dt,Eb,Ec,Dp,Eh,Ei,Ed,Ey,Df,Et,Dl,Dn,Eo,Dy,Dw,Dh,Dq,Ee,Fh,Dc,Dx,Dk,Dz,Ej,Du,Eu,Ez,En,Ef,Fe,Fj,Fg,Ep,Em,Ew,Fb];refine⟨λh=>HY λg=>?_,λh=>?_⟩
 .obtain⟨l1,l2,l3,l4,l5,l6⟩:=y8 cs ns os f ls r (og.1 g).1;omega
 have A:mL (cs,ns,os,f,ls,r)=true:=qW (by show cs.length<=10/\ns.length<=10/\os.length<=10/\f.length<=16/\ls.length<=50/\r.length<=8;omega);refine⟨⟨qL _,qV _,by simp⟩,λx ⟨x0,x1,x2⟩=>⟨λb=>⟨x0,b,λhb=>HY λg=>?_,λG=>⟨⟨by omega,by omega⟩,x+1,⟨by omega,by omega,?_⟩,rfl,by omega⟩⟩,λu=>?_⟩⟩
 .have:=pE (l:=cs) (p:=λc=>ga c.2.1 c.2.2) (d:=(0,[],[])) (k:=x.toNat) (by omega) hb;rw[(og.1 g).2.1]at this;cases this
 .rw[show(x+1).toNat=x.toNat+1 by omega];exact gR (d:=(0,[],[])) x2 (by omega) G
 have O:(cs.all λc=>ga c.2.1 c.2.2)=true:=by rwa [qQ (by omega)]at x2
 refine⟨⟨qL _,qV _,by simp⟩,λz ⟨z0,z1,T⟩=>⟨λb=>⟨z0,b,λhb=>HY λg=>?_,λG=>⟨⟨by omega,by omega⟩,z+1,⟨by omega,by omega,?_⟩,rfl,by omega⟩⟩,λu=>?_⟩⟩
 .have:=pE (l:=f) (p:=λo=>decide (o.2.2.2.2.2.2.length<=30)) (d:=(⟨#[]⟩,0,0,0,0,0,[])) (k:=z.toNat) (by omega) (vV (by omega));rw[(og.1 g).2.2.1]at this;cases this
 .rw[show(z+1).toNat=z.toNat+1 by omega];exact gR (d:=(⟨#[]⟩,0,0,0,0,0,[])) T (by omega) (qW (by omega))
 have L:(f.all λo=>decide (o.2.2.2.2.2.2.length<=30))=true:=by rwa [qQ (by omega)]at T
 refine⟨⟨qL _,by decide,λj y v=>by omega⟩,λk ⟨k0,k1,V⟩=>⟨λhk=>?_,λhk=>?_⟩⟩
 .have Z:(aO (cs,ns,os,f,ls,r) k).length<=100:=aBy A k;refine⟨A,⟨qL _,qV _,by simp[mD]⟩,λi ⟨i0,i1,X⟩=>⟨λb=>⟨i0,b,λhb=>HY λg=>?_,λG=>⟨⟨by omega,by omega⟩,i+1,⟨by omega,by omega,?_⟩,rfl,by omega⟩⟩,λu=>⟨⟨by omega,by omega⟩,k+1,⟨by omega,by omega,λj y v=>?_⟩,rfl,by omega⟩⟩⟩
  .have:=pE (l:=aO (cs,ns,os,f,ls,r) k) (p:=λs=>decide (s.size<=40)) (d:=⟨#[]⟩) (k:=i.toNat) (by omega) (vV (by omega));have v:=(og.1 g).2.2.2 k k0 (by omega);unfold mD at v;rw[v]at this;cases this
  .rw[show(i+1).toNat=i.toNat+1 by omega];exact gR (d:=⟨#[]⟩) X (by omega) (qW (by omega))
  .by_cases e:j=k
   .subst e
    rwa [qQ (by omega)]at X
   .exact V j y (by omega)
 .exact(og.2 ⟨A,O,L,λj y v=>V j y (by omega)⟩).symm
theorem G1{a b:List (Lj)}(h:a≠b): false=r7 a b:=by unfold r7;exact(qAe.2 h).symm
theorem AG{a b:Lj}: nI a b=true↔a=b:=xI
theorem aDP(a b:List (Lj)): af Tryz.prog G0 24 [.dat (.sl M) a,.dat (.sl M) b] [] ⟨EP a,.dat .bool (r7 a b),[]⟩:=by
 refine ae (c:=mkc KL2) aEP aK hm (xD a b ⟨rfl,λu=>?_⟩);simp only[qc,Dj,Es,Di,qd,Dt,Eb,Ec,Dp,Eh,Ei,Ed,Ey,Df,Et,Dl,Dn,Eo,Dy,Dw,Dh,Dq,Ee,Fh,Dc,Dx,Dk,Dz,Ej,Du,Eu,Ez,En,Ef,Fe,Fj,Fg,Ep,Em,Ew,Fb];obtain⟨r,f⟩:=u
 refine⟨λh=>G1 λe=>h (by rw[e]),λh=>⟨⟨qL _,qV _,by omega,rfl⟩,λx ⟨j,z,y,i⟩=>⟨λg=>⟨j,g,j,by omega,f _ (getD_mem (by omega)),λhd=>G1 λe=>?_,λhd=>⟨aL (by omega),x+1,⟨by omega,by omega,y,?_⟩,rfl,by omega⟩⟩,λv=>?_⟩⟩⟩
 .rw[e,AG.2 rfl]at hd;cases hd
 .rw[show(x+1).toNat=x.toNat+1 by omega];exact iH i (by omega) (by omega) (AG.1 hd)
 .rw[qQ (by omega),qQ (by omega)]at i;subst i;unfold r7;simp
theorem aFx: aj Tryz.prog G0 KL3:=ai (ag λ((cs,ns,os,f,ls,e),_)=>aAJ cs ns os f ls e)<|ai (ag λ(a,b,_)=>aDP a b) aEP
theorem XF(nx:Lj)(cs:LC)(ns os:LB)(f:Lo)(ls:Ll)(g:Lk): af Tryz.prog G0 37 [net cs ns os f ls g,.dat M nx] [] ⟨True,.dat .bool (smF (cs,ns,os,f,ls,g) nx),[]⟩:=by
 refine ae (c:=mkc KL3) aFx aK hm (QN nx cs ns os f ls g ⟨rfl,λ_=>?_⟩);simp only[qc,Dj,Es,Di,qd,Dt,Eb,Ec,Dp,Eh,Ei,Ed,Ey,Df,Et,Dl,Dn,Eo,Dy,Dw,Dh,Dq,Ee,Fh,Dc,Dx,Dk,Dz,Ej,Du,Eu,Ez,En,Ef,Fe,Fj,Fg,Ep,Em,Ew,Fb];have e:smF (cs,ns,os,f,ls,g) nx=((Ky (cs,ns,os,f,ls,g)&&decide ((f.length:Int)<=6))&&(decide ((nx.length:Int)<=10)&&nx.all λr=>decide ((r.length:Int)<=10))):=rfl
 refine⟨λh=>?_,λ⟨⟨y,A⟩,z⟩=>⟨⟨qL _,qV _,by omega,λi h=>by omega⟩,λx b=>⟨λj=>⟨b.1,j,λhb=>?_,λhb=>⟨aL (by have:=b.1;omega),x+1,⟨by have:=b.1;omega,by omega,b.2.2.1,λi hi=>?_⟩,rfl,by have:=b.1;omega⟩⟩,λv=>?_⟩⟩⟩
 .rw[e];rcases h with(h | h) | h
  .rw[h];rfl
  .rw[vV (by omega),kG];rfl
  .rw[vV (p:=(nx.length:Int)<=10) (by omega),kV,kG]
 .rw[e];have:(nx.all λr=>decide ((r.length:Int)<=10))=false:=by
   refine qBt.2 ⟨nx.getD x.toNat [],?_,by simp only[qE];omega⟩;rw[qA,qB (by have:=b.1;omega),qP];exact wE _
  rw[this,kG,kG]
 .by_cases h:(i:Int)<x
  .exact b.2.2.2 i h
  .have:i=x.toNat:=by have:=b.1;omega
   rw[this];omega
 .rw[e,y,qW (by omega),qW (p:=(nx.length:Int)<=10) (by omega)];refine(qN.2 λr u=>?_).symm;obtain⟨i,hi,rfl⟩:=wY.1 u;have:=b.2.2.2 i (by omega);rw[qA,qB hi,qP]at this;simp only[qE];omega
theorem aEO: aj Tryz.prog G0 KL4:=ai (ag λ((cs,ns,os,e,ls,b),nx,_)=>XF nx cs ns os e ls b) aFx
theorem XE(a b:Int)(cs:LC)(ns os:LB)(f:Lo)(ls:Ll)(e:Lk): af Tryz.prog G0 10 [net cs ns os f ls e,.dat I a,.dat I b] [] ⟨True,.dat .bool (aA0 (cs,ns,os,f,ls,e) a b),[]⟩:=by
 refine ae (c:={mkc KL4 with mb:=λt=>t==18||t==23}) aEO aK hm (QM a b cs ns os f ls e ⟨rfl,λ_=>?_⟩);simp only[qc,Dj,Es,Di,qd,Dt,Eb,Ec,Dp,Eh,Ei,Ed,Ey,Df,Et,Dl,Dn,Eo,Dy,Dw,Dh,Dq,Ee,Fh,Dc,Dx,Dk,Dz,Ej,Du,Eu,Ez,En,Ef,Fe,Fj,Fg,Ep,Em,Ew,Fb];rfl
theorem aDT: af Tryz.prog G0 34 [] [] ⟨True,.agg [.dat (.sl C) xCs,.dat (.sl S) xNs,.dat (.sl S) xOs,.dat (.sl Of) xFs,.dat (.sl Ln) xLs,.dat (.sl Kl) xKs],[]⟩:=by
 refine ae (c:=mkc KL4) aEO aK hm (aAb ⟨rfl,λ_=>?_⟩);simp only[qc,Dj,Es,Di,qd,Dt,Eb,Ec,Dp,Eh,Ei,Ed,Ey,Df,Et,Dl,Dn,Eo,Dy,Dw,Dh,Dq,Ee,Fh,Dc,Dx,Dk,Dz,Ej,Du,Eu,Ez,En,Ef,Fe,Fj,Fg,Ep,Em,Ew,Fb];exact⟨rfl,rfl,rfl,rfl,rfl,rfl⟩
theorem aFw : aj Tryz.prog G0 KL5 := ai (ag fun ((cs, ns, os, fs, ls, ks), a, b, _) => XE a b cs ns os fs ls ks) <| ai (ag fun _ => aDT) <| ai (ag fun ((cs, ns, os, fs, ls, ks), a, b, _) => L6 vz a b cs ns os fs ls ks) <|
  ai (ag fun ((cs, ns, os, fs, ls, ks), (p1, p2, nx, dy), o, _) => RS vz o cs ns os fs ls ks p1 p2 nx dy) <| ai (ag fun ((cs, ns, os, fs, ls, ks), c, _) => YR (Go.Eng.In.XV c.2 c.1 cs ns os fs ls ks)) <| ai (ag fun (l, _) => YR (Go.Eng.In.DI l)) aEO
noncomputable abbrev xN : Net := (xCs, xNs, xOs, xFs, xLs, xKs)
abbrev xP: Plan:=(0,1,[[-1,0],[1,-1]],[[[0,0],[0,0]]])
abbrev xL: Li:=[0,1,2,1,0,1,2,0,1,1,1,1,2,2]
set_option maxHeartbeats 4000000 in
theorem RQ : af Tryz.prog G0 9 [] [] ⟨True, .dat .bool true, []⟩ := by
  refine ae (c := { mkc KL5 with mb := fun t => t == 46 }) aFw aK hm (Lc ?_)
  intro c1 c2 c3 c4 c5 c6 c7 c8 c9 c10 c11 c12 c13 c14 c15 c16 c17 c18 c19 c20 c21 c22 c23 c24 c25 c26 c27 c28 c29 c30 c31 c32 c33 c34 c35 c36 c37 c38 c39 c40 c41 c42 c43 c44 c45 c46 c47 c48 c49 c50 c51 c52 c53 c54 c55 c56 c57 c58 c59
  have q2 : c2 = xP := by decide +kernel
  have q7 : c7 = [[-1, 0], [1, -1]] := by show c2.2.2.1 = _; rw [q2]
  have q8 : c8 = [[[0, 0], [0, 0]]] := by show c2.2.2.2 = _; rw [q2]
  have q9 : c9 = xP := by show (c2.1, c2.2.1, c2.2.2.1, c2.2.2.2) = _; rw [q2]
  have q17 : c17 = 0 := by decide +kernel
  have q18 : c18 = [-1, 0] := by show gsF xN c9 0 = _; rw [q9]; decide +kernel
  have q19 : c19 = [0, 1] := by show ofF xN c9 0 = _; rw [q9]; decide +kernel
  have q20 : c20 = 1 := by decide +kernel
  have q21 : c21 = (xL, Go.Eng.In.mR xL) := by decide +kernel
  have q22 : c22 = xL := by show c21.1 = _; rw [q21]
  have q23 : c23 = Go.Eng.In.mR xL := by show c21.2 = _; rw [q21]
  have h5 : rc (xCs, xNs, xOs, c47, c16, xKs) 0 1 = 140 := by
    show rc (xCs, xNs, xOs, yFs, yLs, xKs) 0 1 = 140
    decide +kernel
  have h8 : Go.Eng.In.fP xN xL (Go.Eng.In.mR xL) = 0 := by decide +kernel
  have e48 : c48 = true := by show Eb c17 0 = true; rw [q17]; rfl
  have e51 : c51 = true := by show Ea c48 (nI c7 [[-1, 0], [1, -1]]) false = true; rw [e48, q7]; rfl
  have e53 : c53 = true := by show Ea c51 (r7 c8 [[[0, 0], [0, 0]]]) false = true; rw [e51, q8]; rfl
  have e54 : c54 = true := by show Ea c53 (mS c22 xL) false = true; rw [e53, q22]; rfl
  have e55 : c55 = true := by show Ea c54 (Eb c23 (In.mR c22)) false = true; rw [e54, q22, q23]; show decide (In.mR xL = In.mR xL) = true; exact qW rfl
  have e56 : c56 = true := by show Ea c55 (mS c18 [-1, 0]) false = true; rw [e55, q18]; rfl
  have e57 : c57 = true := by show Ea c56 (mS c19 [0, 1]) false = true; rw [e56, q19]; rfl
  have e58 : c58 = true := by show Ea c57 (Eb c20 1) false = true; rw [e57, q20]; rfl
  have e59 : c59 = true := by show Ea c58 (Eb (rc (xCs, xNs, xOs, c47, c16, xKs) 0 1) 140) false = true; rw [e58, h5]; rfl
  have e60 : Ea c59 (Eb (In.fP c1 c22 c23) (0 : Int)) false = true := by
    show Ea c59 (Eb (In.fP xN c22 c23) (0 : Int)) false = true; rw [e59, q22, q23, h8]; rfl
  have m7 : mild c7 := by rw [q7]; unfold mild; decide
  have m8 : EP c8 := by rw [q8]; unfold EP mild; decide
  have m9 : fb c9 := by rw [q9]; unfold fb cn; decide
  have m22 : oY c22 := by rw [q22]; unfold oY; decide
  have s22 : In.PY c22 := by rw [q22]; unfold In.PY; decide
  have l22 : In.HD c22 ∧ In.qy c1 := ⟨by rw [q22]; unfold In.HD; decide, by show In.qy xN; unfold In.qy; decide⟩
  have m18 : oY c18 := by rw [q18]; unfold oY; decide
  have m19 : oY c19 := by rw [q19]; unfold oY; decide
  have k10 : Dn (0 : Int) c10 ∧ Dn (1 : Int) c10 := by constructor <;> decide
  have k11 : Dy (Ej c11 (56)) (140737488355328) ∧ Dy c11 (9223372036854775807) := by constructor <;> decide
  have k15 : Dy (Ej c15 (56)) (140737488355328) ∧ Dy c15 (9223372036854775807) := by constructor <;> decide
  have k16 : Dk c12 = c11 ∧ Dk c16 = c15 := ⟨rfl, rfl⟩
  clear_value c59 c58 c57 c56 c55 c54 c53 c51 c48 c31 c24 c23 c22 c21 c20 c19 c18 c17 c9 c8 c7 c2
  subst e48 e51 e53 e54 e55 e56 e57 e58 e59
  refine ⟨rfl, fun _ => ?_⟩
  generalize fb c9 = F9 at m9 ⊢
  and_intros
  all_goals first
    | with_reducible exact trivial
    | with_reducible rfl
    | with_reducible exact e60
    | with_reducible exact m9
    | with_reducible exact fun _ => m7
    | with_reducible exact fun _ => m8
    | with_reducible exact fun _ => m22
    | with_reducible exact fun _ => s22
    | with_reducible exact fun _ => l22
    | with_reducible exact fun _ => m18
    | with_reducible exact fun _ => m19
    | with_reducible exact k10.1
    | with_reducible exact k10.2
    | with_reducible exact k11.1
    | with_reducible exact k11.2
    | with_reducible exact k15.1
    | with_reducible exact k15.2
    | with_reducible exact k16.1
    | with_reducible exact k16.2
    | with_reducible exact fun _ => rfl
    | with_reducible exact fun h _ => h
    | with_reducible exact fun h => h
    | decide
    | rfl
theorem aGd: aj Tryz.prog G0 KL6:=ai (ag λ_=>RQ) aFw
noncomputable def u8P(a:Int): Prop:=0<=a/\a<=255
open Go.Eng.Mp (aJ ca pM br upto at2 od jf jg xi)
open Go.Eng.Mp (W PW U5)
theorem Cd{n:Net}{f t:Int}(b:rc n f t=0): (0<=f/\f<t/\t<=600/\t-f<=60)/\bg n=true/\mO n (iz n f t).2.2.1=true/\(iz n f t).2.2.2=Kv n (iz n f t).2.2.1 f t/\mQ n (p1F n f t)=0/\wrE n (p2F n f t)=0/\iz n f t=p2F n f t:=by
 have e:iz n f t=p2F n f t:=if_pos b;unfold rc at b;split at b
 .rename_i h;exact absurd b h
 .rename_i h;have h:Ia n (p0F f t)=0:=qBu.1 h;obtain⟨r,j,u,i⟩:=Cf h;split at b
  .rename_i g;exact absurd b g
  .rename_i g;rw[e];exact⟨r,j,i,rfl,qBu.1 g,b,rfl⟩
theorem Wi{n:Net}{p:Plan}(h:wrE n p=0): bg n=true/\fw n p=true:=by
 unfold wrE at h;split at h
 .assumption
 .cases h
theorem UH{n:Net}{f t:Int}(i:rc n f t=0): gX n (1440*f) (1440*t)=true/\(iz n f t).2.2.1=Yw n (fy n (1440*f) (1440*t))/\fw n (iz n f t)=true/\fb (iz n f t):=by
 obtain⟨r,b,h,j,_,hw,e⟩:=Cd i;have g:gX n (1440*f) (1440*t)=true:=by
  unfold gX;rw[qC];exact⟨sn.2 (by omega),b⟩
 refine⟨g,?_,?_,xg b h,by rw[j];exact GL b⟩
 .rw[e];exact if_pos g
 .rw[e];exact(Wi hw).2
theorem OO{α:Type}{p q:α->Bool}: ∀{l:List α},(∀x∈l,p x=true->q x=true)->(∃x∈l,q x=true/\p x=false)->l.countP p+1<=l.countP q
 | [],_,h=>by obtain⟨x,b,_⟩:=h;cases b
 | y::l,f,r=>by
  have j:l.countP p<=l.countP q:=List.countP_mono_left λx b=>f x (zF _ b)
  rw[List.countP_cons,List.countP_cons];obtain⟨x,b,i,g⟩:=r;rcases zM.1 b with rfl | b
  .rw[if_pos i,if_neg (by rw[g];decide)];omega
  .have u:=OO (λx b=>f x (zF _ b)) ⟨x,b,i,g⟩;have:=f y wU;by_cases e:p y=true
   .rw[if_pos e,if_pos (this e)];omega
   .rw[if_neg e];omega
theorem FG{p:Plan}{o x:Int}: x∈fO p o↔x≠-1/\∃d:Int,0<=d/\d<(dQ p o).length/\d≠o/\(dQ p o).getD d.toNat 0=x:=by
 unfold fO Rn;rw[yW,zV,wS];simp only[zV,vF,qE];constructor
 .rintro⟨⟨d,⟨g,f⟩,e⟩,b⟩;exact⟨b,d,by omega,by omega,f,by rw[qZ];exact e⟩
 .rintro⟨b,d,h,g,f,e⟩;exact⟨⟨d.toNat,⟨by omega,by rw[qR h];exact f⟩,e⟩,b⟩
theorem wc(p:Plan)(o:Int): (fO p o).Pairwise (· < ·):=m4 _
theorem YO{l:Li}{x:Int}(h:x∈l): rx x l<l.length/\l.getD (rx x l) 0=x:=by
 induction l with
 | nil=>cases h
 | cons a l e=>
  unfold rx;by_cases b:a=x
  .rw[if_pos b];exact⟨by simp,b⟩
  .rw[if_neg b];rcases zM.1 h with g | g
   .exact absurd g.symm b
   .obtain⟨i,f⟩:=e g;exact⟨by simp only[vU];omega,by simpa using f⟩
structure aE6 (n:Net) (p:Plan) (o:Int):Prop where
 gs:gsF n p o=-1::fO p o
 len:((ofF n p o).length:Int)=n.2.2.2.1.length
 at_:∀i:Int,0<=i->i<n.2.2.2.1.length->(ofF n p o).getD i.toNat 0=uj p o i
 self:uj p o o=0
 none_:∀i:Int,0<=i->i<n.2.2.2.1.length->i≠o->nxt p.2.2.1 o i=-1->uj p o i=-1
 some_:∀i:Int,0<=i->i<n.2.2.2.1.length->i≠o->nxt p.2.2.1 o i≠-1->1<=uj p o i/\uj p o i<(gsF n p o).length/\(gsF n p o).getD (uj p o i).toNat 0=nxt p.2.2.1 o i/\0<=nxt p.2.2.1 o i/\nxt p.2.2.1 o i<n.2.2.2.2.1.length/\cV n (nxt p.2.2.1 o i)=o
 small:(gsF n p o).length<=n.2.2.2.1.length+1
 lines:∀j:Int,1<=j->j<(gsF n p o).length->0<=(gsF n p o).getD j.toNat 0/\(gsF n p o).getD j.toNat 0<n.2.2.2.2.1.length/\cV n ((gsF n p o).getD j.toNat 0)=o/\(gsF n p o).getD (j-1).toNat 0<(gsF n p o).getD j.toNat 0/\∃i:Int,0<=i/\i<n.2.2.2.1.length/\uj p o i=j
theorem aBK(cs:LC)(ns os:LB)(f:Lo)(ls:Ll)(z:Lk){p:Plan}{o:Int}(hs:bg (cs,ns,os,f,ls,z)=true)(hf:fw (cs,ns,os,f,ls,z) p=true)(o0:0<=o)(o1:o<f.length): aE6 (cs,ns,os,f,ls,z) p o:=by
 have hg:gOk (cs,ns,os,f,ls,z) p o=true:=by
  unfold gOk dF;rw[qC,qC,qE];exact⟨⟨⟨o0,o1⟩,hs⟩,hf⟩
 have ht:mO (cs,ns,os,f,ls,z) p.2.2.1=true:=by
  unfold fw at hf;rw[qC,qC]at hf;exact hf.2.1
 have hrow:((dQ p o).length:Int)=f.length:=(gm cs ns os f ls z ht o0 o1 o0 o1).2.1;have b:∀i:Int,(dQ p o).getD i.toNat 0=nxt p.2.2.1 o i:=λ_=>rfl
 have e1:gsF (cs,ns,os,f,ls,z) p o=-1::fO p o:=if_pos hg;have e2:ofF (cs,ns,os,f,ls,z) p o=(List.range f.length).map λd:Nat=>uj p o d:=if_pos hg
 have hmem:∀i:Int,0<=i->i<f.length->i≠o->nxt p.2.2.1 o i≠-1->nxt p.2.2.1 o i∈fO p o:=λi Z X r h=>FG.2 ⟨h,i,Z,by omega,r,rfl⟩
 have G:∀i:Int,i≠o->nxt p.2.2.1 o i≠-1->uj p o i=Kx (-1::fO p o) (nxt p.2.2.1 o i):=λi r h=>by
  unfold uj;rw[if_neg r,b,if_neg h]
 have L:∀x:Int,x≠-1->x∈fO p o->Kx (-1::fO p o) x=((rx x (fO p o):Nat):Int)+1/\rx x (fO p o)<(fO p o).length/\(fO p o).getD (rx x (fO p o)) 0=x:=λx hx h=>by
  obtain⟨T,v⟩:=YO h;refine⟨?_,T,v⟩;have e:rx x (-1::fO p o)=rx x (fO p o)+1:=by
   show(if(-1:Int)=x then 0 else rx x (fO p o)+1)=_;rw[if_neg (λh=>hx h.symm)]
  unfold Kx;rw[e,if_pos (by simp only[vU];omega)];omega
 have u:∀x∈fO p o,0<=x/\x<ls.length/\cV (cs,ns,os,f,ls,z) x=o:=λx hx=>by
  obtain⟨h1,d,d0,d1,_,V⟩:=FG.1 hx;rw[b]at V;obtain⟨_,_,g⟩:=gm cs ns os f ls z ht o0 o1 d0 (by omega:d<f.length);obtain⟨⟨T,v⟩,A⟩:=g (by rw[V];exact h1);rw[V]at T v A;exact⟨T,v,A⟩
 have O:∀j:Int,1<=j->j<((-1::fO p o).length:Int)->((-1::fO p o).getD j.toNat 0)∈fO p o/\(-1::fO p o).getD j.toNat 0=(fO p o).getD (j-1).toNat 0:=λj j1 j2=>by
  obtain⟨k,rfl⟩:∃k:Nat,j=(k:Int)+1:=⟨(j-1).toNat,by omega⟩;have h:k<(fO p o).length:=by simp only[vU]at j2;omega
  rw[show((k:Int)+1).toNat=k+1 by omega,show((k:Int)+1-1).toNat=k by omega];refine⟨?_,rfl⟩;show(fO p o).getD k 0∈_;rw[qA,qB h];exact wE h
 refine⟨e1,by rw[e2,vG,vI],λi Z X=>?_,?_,λi Z X r h=>?_,λi Z X r h=>?_,?_,λj j1 j2=>?_⟩
 .have X:i<f.length:=X;rw[e2,qA,qO,vT (by omega),zC,qP,qR Z]
 .unfold uj;rw[if_pos rfl]
 .unfold uj;rw[if_neg r,b,if_pos h]
 .have hm:=hmem i Z X r h;obtain⟨T,v,A⟩:=L _ h hm;obtain⟨k1,k2,k3⟩:=u _ hm;rw[G i r h,T,e1];refine⟨by omega,by simp only[vU];omega,?_,k1,k2,k3⟩;rw[show(((rx (nxt p.2.2.1 o i) (fO p o):Nat):Int)+1).toNat=rx (nxt p.2.2.1 o i) (fO p o)+1 by omega];exact A
 .rw[e1];have:=FD p o;simp only[vU];show _<=f.length+1;omega
 .rw[e1]at j2 ⊢;obtain⟨hm,he⟩:=O j j1 j2;obtain⟨k1,k2,k3⟩:=u _ hm;refine⟨k1,k2,k3,?_,?_⟩
  .by_cases hj:j=1
   .rw[hj]at k1 ⊢;show(-1:Int)<_;omega
   .obtain⟨hm',he'⟩:=O (j-1) (by omega) (by omega);rw[he,he'];have hl:(j-1).toNat<(fO p o).length:=by simp only[vU]at j2;omega
    have hl':(j-1-1).toNat<(fO p o).length:=by omega
    have:=List.pairwise_iff_getElem.1 (wc p o) (j-1-1).toNat (j-1).toNat hl' hl (by omega);rw[qA,qA,qB hl,qB hl'];exact this
  .obtain⟨h1,d,d0,d1,d2,V⟩:=FG.1 hm;rw[b]at V;refine⟨d,d0,by show d<f.length;omega,?_⟩;rw[G d d2 (by rw[V];exact h1),V];obtain⟨T,v,A⟩:=L _ h1 hm;rw[T];rw[he]at v A ⊢;have hl:(j-1).toNat<(fO p o).length:=by simp only[vU]at j2;omega
   generalize hy:rx ((fO p o).getD (j-1).toNat 0) (fO p o)=y at v A ⊢;have hp:=wc p o;rw[qA,qA,qB hl,qB v]at A;have A:(fO p o)[y]=(fO p o)[(j-1).toNat]:=A;rcases qCr y (j-1).toNat with q | q | q
   .have:=List.pairwise_iff_getElem.1 hp y _ v hl q;omega
   .omega
   .have:=List.pairwise_iff_getElem.1 hp _ y hl v q;omega
def pj(pk ds:Li)(x:Int): Int:=pk.getD (ds.getD x.toNat 0).toNat 0
def Zi(pk ds l:Li)(j:Int): Li:=l.filter λx=>decide (pj pk ds x=j)
def jN(m:Int)(pk ds l:Li): Li:=(List.range m.toNat).flatMap λj:Nat=>Zi pk ds l j
def inB(b x:Int): Bool:=decide (0<=x/\x<b)
def belF(l:Li)(b:Int): Bool:=l.all (inB b)
def UT(l:Li)(b k:Int): Prop:=0<=k/\k<=l.length/\(l.take k.toNat).all (inB b)=true
def Y0(l:Li): Prop:=(l.length:Int)<=1000000
def rowB(m n:Int)(r:Li): Bool:=decide ((r.length:Int)=n)&&belF r m
def I4(m:Int)(sc:Lj)(ds:Li): Bool:=(fH m&&decide (1<=(sc.length:Int)/\(sc.length:Int)<=4/\(ds.length:Int)<=5000))&&decide (((sc.getD 0 []).length:Int)<=2000)
def iC(m:Int)(sc:Lj)(ds:Li): Bool:=I4 m sc ds&&sc.all (rowB m (sc.getD 0 []).length)&&belF ds (sc.getD 0 []).length
def G6(m:Int)(sc:Lj)(ds:Li)(k:Int): Prop:=0<=k/\k<=sc.length/\I4 m sc ds=true/\(sc.take k.toNat).all (rowB m (sc.getD 0 []).length)=true
def sa(sc:Lj)(ds:Li): Prop:=cn sc/\Y0 ds
def TX(pk ds:Li)(x:Int): Prop:=(0<=x/\x<ds.length)/\0<=ds.getD x.toNat 0/\ds.getD x.toNat 0<pk.length
def Nl(m:Int)(pk ds l:Li): Prop:=(2<=m/\m<=64)/\l.length<=5000/\∀x∈l,TX pk ds x/\0<=pj pk ds x/\pj pk ds x<m
def BQ(n:Nat)(k:Int): Li:=(List.range n).map λi:Nat=>if(i:Int)<k then(i:Int)else 0
def oK(m:Int)(sc:Lj)(ds:Li)(k:Int): Li:=(sc.take k.toNat).foldl (λl pk=>jN m pk ds l) (BQ ds.length ds.length)
def lS(m:Int)(sc:Lj)(ds:Li): Li:=if iC m sc ds=true then oK m sc ds sc.length else[]
def PO(m:Int)(sc:Lj)(ds:Li): Int:=if iC m sc ds=true then 0 else 1
def G8(m:Int)(sc:Lj)(ds:Li)(k:Int): Prop:=iC m sc ds=true/\0<=k/\k<=ds.length
def G7(m:Int)(sc:Lj)(ds:Li)(k:Int): Prop:=iC m sc ds=true/\0<=k/\k<=sc.length
def aF6(l:Li)(b:Int): Ann:=⟨λid s=>match id with
 | 2=>some {α:=Int,inv:=λk=>UT l b k,st:=λk=>put s [(9,.dat I k)],μ:=λk=>Dc (Dh (Df l) k)}
 | _=>none,λ_ _=>none,λ_ _=>none⟩
theorem Rf(l:Li)(b:Int)(e:
 true/\(Y0 l->(∃x,UT l b x/\b=b/\l=l/\Df l=Df l/\0=x/\True)/\∀(x:Int),let c1:=Dp x (Df l);let c2:=Du l (Dc x) 0;let c3:=Dp c2 0;let c4:=Di c3;let c5:=Ea c3 true (Ed c2 b);let c6:=x+1;UT l b x->(c1->0<=x/\x<Df l/\(c4->c4->c4)/\(c4->c4->c4)/\(Dj true c4->c4)/\(c5->false=belF l b/\True)/\(c5=false->inR .i64 c6/\∃y,UT l b y/\(b=b/\l=l/\Df l=Df l/\c6=y/\True)/\Dc (Df l-y)<Dc (Df l-x)))/\(c1=false->true=belF l b/\True))):
  evF (mkc KC8) (lvA [(2,[1,4,6,7,8,9])] (aF6 l b)) 159 [.dat R l,.dat I b] [] ⟨Y0 l,.dat .bool (belF l b),[]⟩:=oE e
def KP1: Kt:=kOr 159 (aw [.val R,.val I] (λ(l,_,_)=>Y0 l) λ(l,b,_)=>.dat .bool (belF l b)) KC8
def aEb(m:Int)(sc:Lj)(ds:Li): Ann:=⟨λid s=>match id with
 | 7=>some {α:=Int,inv:=λk=>G6 m sc ds k,st:=λk=>put s [(36,.dat I k)],μ:=λk=>Dc (Dh (Df sc) k)}
 | _=>none,λ_ _=>none,λ_ _=>none⟩
theorem WB(m:Int)(b:Lj)(ds:Li)(i:
 let f:=Df b;let c14:=Di (fH m);let c15:=Di c14->Di c14->Di c14;let c1:=Ea c14 true (Dp f 1);let c2:=Di c1;let c3:=Ea c1 true (Eh f 4);let c4:=Di c3;let c5:=Ea c3 true (Eh (Df ds) 5000);let c6:=Df (Du b (Dc 0) []);let c7:=Eh c6 2000;true/\(sa b ds->True/\c15/\c15/\(Dj true (Di c14)->Di c14)/\(c2->c2->c2)/\(c2->c2->c2)/\(Dj true c2->c2)/\(c4->c4->c4)/\(c4->c4->c4)/\(Dj true c4->c4)/\(c5->false=iC m b ds/\True)/\(c5=false->Dl 0 0/\0<Df b/\(c7->false=iC m b ds/\True)/\(c7=false->(∃x,G6 m b ds x/\m=m/\ds=ds/\c6=c6/\b=b/\Df b=Df b/\0=x/\True)/\∀(x:Int),let j:=Dp x f;let c9:=Du b (Dc x) [];let h:=Ec (Df c9) c6;let e:=Di h;let g:=e->e->e;let c12:=Ea h true (Di (belF c9 m));let c13:=x+1;G6 m b ds x->(j->0<=x/\x<Df b/\g/\g/\(e->Y0 c9)/\g/\(Dj true e->e)/\(c12->false=iC m b ds/\True)/\(c12=false->inR .i64 c13/\∃y,G6 m b ds y/\(m=m/\ds=ds/\c6=c6/\b=b/\Df b=Df b/\c13=y/\True)/\Dc (Df b-y)<Dc (Df b-x)))/\(j=false->Y0 ds/\belF ds c6=iC m b ds/\True))))):
  evF (mkc KP1) (lvA [(7,[0,2,6,7,9,34,35,36])] (aEb m b ds)) 86 [.dat I m,.dat M b,.dat R ds] [] ⟨sa b ds,.dat .bool (iC m b ds),[]⟩:=oE i
theorem WC(x:Int)(b ds:Li)(e:
 let c1:=Du ds (Dc x) 0;true/\(TX b ds x->0<=x/\x<Df ds/\0<=c1/\c1<Df b/\Du b (Dc c1) 0=pj b ds x/\True)):
  evF (mkc KP1) az 88 [.dat I x,.ip R b,.ip R ds] [] ⟨TX b ds x,.dat I (pj b ds x),[]⟩:=oE e
def Yq(args:List AV)(m:Mem): Option ja:=match m,args with
 | [],[.dat (.sl (.int .i64)) l,.dat (.int .i64) k,.fn f caps]=>if f=88 then match ofK [.ptr R,.ptr R] caps with
   | some (pk,ds,_)=>some ⟨Nl k pk ds l,.dat R (jN k pk ds l),[]⟩
   | none=>none
  else none
 | _,_=>none
def KP2: Kt:=kOr 87 Yq<|kOr 86 (aw [.val I,.val M,.val R] (λ(_,sc,ds,_)=>sa sc ds) λ(m,sc,ds,_)=>.dat .bool (iC m sc ds)) KP1
def aFQ(m:Int)(sc:Lj)(ds:Li): Ann:=⟨λid s=>match id with
 | 5=>match s.sig.T 8 with
  | .buf nm _=>some {α:=Int,inv:=λk=>G8 m sc ds k,st:=λk=>gC (put s [(22,.dat I k)]) nm (.buf 3 I (BQ (Dk ds) k) []),μ:=λk=>Dc (Dh (Df ds) k)}
  | _=>none
 | 10=>some {α:=Int,inv:=λk=>G7 m sc ds k,st:=λk=>put s [(32,.dat I k),(8,.dat R (oK m sc ds k))],μ:=λk=>Dc (Dh (Df sc) k)}
 | _=>none,λid s=>match id with
 | 9=>some (TY [0,1,5,6,7,8] (frz ((s.mem.filter λp=>match p.2 with
  | .buf ..=>true
  | _=>false).map (·.1)) s))
 | 12=>some (TY [0,1,5,6,7,8,11,30,31,32] (frz (allNames s) s))
 | _=>none,λ_ _=>none⟩
theorem fI(m:Int)(b:Lj)(ds:Li)(h:
 let e:=Df ds;let c1:=Di (iC m b ds);let c2:=Ep e (0:Int);let c3:=Int.ofNat (Dc e);true/\(sa b ds->sa b ds/\(c1->lS m b ds=Dt Int/\1=PO m b ds/\True)/\(c1=false->0<=Df ds/\(Dx 8*Df ds)<=281474976710656/\Df ds<=9223372036854775807/\Dk c2=Dc e/\(∃x,G8 m b ds x/\m=m/\b=b/\ds=ds/\Value.slice none 0 0=Value.slice none 0 0/\(0:Int)=(0:Int)/\Dc e=Dc e/\c3=c3/\0=x/\c2=BQ (Dk ds) x/\True)/\∀(x:Int),let c4:=BQ (Dk ds) x;let c5:=Dk c4;let c6:=x+1;G8 m b ds x->(Dp x c3->c5=Dc e/\0<=x/\x<Dx c5/\c5=Dc e/\inR .i64 c6/\∃y,G8 m b ds y/\(m=m/\b=b/\ds=ds/\Value.slice none 0 0=Value.slice none 0 0/\(0:Int)=(0:Int)/\Dc e=Dc e/\c3=c3/\c6=y/\En c4 (Dc x) x=BQ (Dk ds) y/\True)/\Dc (Df ds-y)<Dc (Df ds-x))/\(Dp x c3=false->m=m/\b=b/\ds=ds/\Value.slice none 0 0=Value.slice none 0 0/\(0:Int)=(0:Int)/\c5=Dc e/\c4=c4/\(∃x,G7 m b ds x/\m=m/\ds=ds/\Value.slice none 0 0=Value.slice none 0 0/\(0:Int)=(0:Int)/\c4=oK m b ds x/\b=b/\Df b=Df b/\0=x/\True)/\∀(x:Int),let c7:=Dp x (Df b);let f:=oK m b ds x;let c9:=Du b (Dc x) [];let g:=x+1;G7 m b ds x->(c7->0<=x/\x<Df b/\1=1/\0=0/\m=m/\ds=ds/\Value.slice none 0 0=Value.slice none 0 0/\(0:Int)=(0:Int)/\f=f/\1=1/\0=0/\c9=c9/\b=b/\Df b=Df b/\x=x/\Nl m c9 ds f/\inR IntKind.i64 g/\∃y,G7 m b ds y/\(m=m/\ds=ds/\Value.slice none 0 0=Value.slice none 0 0/\(0:Int)=(0:Int)/\jN m c9 ds f=oK m b ds y/\b=b/\Df b=Df b/\g=y/\True)/\Dc (Df b-y)<Dc (Df b-x))/\(c7=false->f=lS m b ds/\0=PO m b ds/\True))))):
  evF (mkc KP2) (lvA [(5,[0,1,5,6,7,8,9,11,21,22,30,31,32]),(10,[0,5,6,7,8,11,30,31,32])] (aFQ m b ds)) 29 [.dat I m,.dat M b,.dat R ds] [] ⟨sa b ds,.tup [.dat R (lS m b ds),.dat I (PO m b ds)],[]⟩:=oE h
theorem Ij{α:Type}{p:α->Bool}{l:List α}{d:α}{k:Int}(f:0<=k)(e:k<l.length)(h:(l.take k.toNat).all p=true)(b:p (l.getD k.toNat d)=true): (l.take (k+1).toNat).all p=true:=by
 rw[show(k+1).toNat=k.toNat+1 by omega,wO,kN,h,qB (by omega)];rw[qA,qB (by omega)]at b;simpa using b
theorem Py{α:Type}{p:α->Bool}{l:List α}{d:α}{k:Int}(f:0<=k)(e:k<l.length)(b:¬p (l.getD k.toNat d)=true): l.all p=false:=by
 rw[qBt];rw[qA,qB (by omega)]at b;exact⟨_,wE (by omega),b⟩
theorem Ik{α:Type}{p:α->Bool}{l:List α}{k:Int}(b:¬k<l.length)(h:(l.take k.toNat).all p=true): l.all p=true:=by
 rwa [qQ (by omega)]at h
theorem XU(l:Li)(b:Int): af Tryz.prog G0 159 [.dat R l,.dat I b] [] ⟨Y0 l,.dat .bool (belF l b),[]⟩:=by
 refine ae (c:=mkc KC8) KC aK hm (Rf l b ⟨rfl,λi=>?_⟩);have i:(l.length:Int)<=1000000:=i;simp only[qc,Dj,Es,Di,qd,Dt,Eb,Ec,Dp,Eh,Ei,Ed,Ey,Df,Et,Dl,Dn,Eo,Dy,Dw,Dh,Dq,Ee,Fh,Dc,Dx,Dk,Dz,Ej,Du,Eu,Ez,En,Ef,Fe,Fj,Fg,Ep,Em,Ew,Fb]
 refine⟨⟨qL _,qV _,rfl⟩,λx ⟨f,x1,x2⟩=>⟨λe=>⟨f,e,λh=>(Py (d:=0) f e λg=>?_).symm,λh=>⟨aL (by omega),x+1,⟨by omega,by omega,Ij (d:=0) f e x2 (qW (by omega))⟩,rfl,by omega⟩⟩,λe=>(Ik e x2).symm⟩⟩;have g:0<=l.getD x.toNat 0/\l.getD x.toNat 0<b:=vO g;omega
theorem aEN: aj Tryz.prog G0 KP1:=ai (ag λ(l,b,_)=>XU l b) KC
theorem aAD(x:Int)(b ds:Li): af Tryz.prog G0 88 [.dat I x,.ip R b,.ip R ds] [] ⟨TX b ds x,.dat I (pj b ds x),[]⟩:=by
 refine ae (c:=mkc KP1) aEN aK hm (WC x b ds ⟨rfl,λe=>?_⟩);simp only[qc,Dj,Es,Di,qd,Dt,Eb,Ec,Dp,Eh,Ei,Ed,Ey,Df,Et,Dl,Dn,Eo,Dy,Dw,Dh,Dq,Ee,Fh,Dc,Dx,Dk,Dz,Ej,Du,Eu,Ez,En,Ef,Fe,Fj,Fg,Ep,Em,Ew,Fb];exact⟨e.1.1,e.1.2,e.2.1,e.2.2,rfl⟩
theorem aAC(m:Int)(b:Lj)(ds:Li): af Tryz.prog G0 86 [.dat I m,.dat M b,.dat R ds] [] ⟨sa b ds,.dat .bool (iC m b ds),[]⟩:=by
 refine ae (c:=mkc KP1) aEN aK hm (WB m b ds ⟨rfl,λL=>?_⟩);simp only[qc,Dj,Es,Di,qd,Dt,Eb,Ec,Dp,Eh,Ei,Ed,Ey,Df,Et,Dl,Dn,Eo,Dy,Dw,Dh,Dq,Ee,Fh,Dc,Dx,Dk,Dz,Ej,Du,Eu,Ez,En,Ef,Fe,Fj,Fg,Ep,Em,Ew,Fb];obtain⟨⟨G,A⟩,hd⟩:=L;have hd:(ds.length:Int)<=1000000:=hd;have V:b.getD (Int.toNat 0) []=b.getD 0 []:=rfl;rw[V]
 have u:I4 m b ds=true↔(fH m=true/\1<=(b.length:Int)/\(b.length:Int)<=4/\(ds.length:Int)<=5000)/\((b.getD 0 []).length:Int)<=2000:=by
  unfold I4;rw[qC,qC,qE,qE]
 have e:¬I4 m b ds=true->false=iC m b ds:=λh=>by
  unfold iC;rw[xK.2 h];rfl
 have row:∀r,rowB m (b.getD 0 []).length r=true↔(r.length:Int)=(b.getD 0 []).length/\belF r m=true:=λr=>by
  unfold rowB;rw[qC,qE]
 refine⟨λh=>e λg=>?_,λ⟨⟨⟨X,a2⟩,a3⟩,a4⟩=>⟨qL _,by omega,λh=>e λg=>?_,λh=>?_⟩⟩
 .obtain⟨⟨i,z,g3,g4⟩,_⟩:=u.1 g;rcases h with((h | h) | h) | h
  .rw[h]at i;cases i
  .omega
  .omega
  .omega
 .have:=(u.1 g).2;omega
 .have v:=u.2 ⟨⟨X,by omega,by omega,by omega⟩,by omega⟩;refine⟨⟨qL _,qV _,v,rfl⟩,λx ⟨j,x1,_,y⟩=>⟨λf=>⟨j,f,λZ=>?_,λhb=>?_,λ⟨T,O⟩=>⟨aL (by omega),x+1,⟨by omega,by omega,v,Ij (d:=[]) j f y ((row _).2 ⟨T,O⟩)⟩,rfl,by omega⟩⟩,λf=>⟨hd,?_⟩⟩⟩
  .show((b.getD x.toNat []).length:Int)<=1000000;omega
  .have:b.all (rowB m (b.getD 0 []).length)=false:=Py (d:=[]) j f λg=>by
    obtain⟨i,z⟩:=(row _).1 g;rcases hb with hb | hb
    .exact hb i
    .rw[z]at hb;cases hb
   unfold iC;rw[this,kG];rfl
  .unfold iC;rw[v,Ik f y];rfl
theorem tG(n:Nat)(k:Int): (BQ n k).length=n:=by unfold BQ;rw[vG,vI]
theorem YP(n:Nat): List.replicate n (0:Int)=BQ n 0:=by
 unfold BQ;apply yP;intro j;by_cases b:j<n
 .rw[wQ,if_pos b,qO,vT b,zC,if_neg (by omega)]
 .rw[wV (by rw[wG];omega),wV (by rw[vG,vI];omega)]
theorem aBH{n:Nat}{k:Int}(h:0<=k)(g:k<n): (BQ n k).set k.toNat k=BQ n (k+1):=by
 apply yP;intro j;by_cases f:j<n
 .rw[yO];unfold BQ;rw[qO,qO,vT f,zC,zC];by_cases e:k.toNat=j
  .rw[if_pos e,if_pos (by rw[vG,vI];omega),if_pos (by omega)]
   congr 1;omega
  .rw[if_neg e];by_cases b:(j:Int)<k
   .rw[if_pos b,if_pos (by omega)]
   .rw[if_neg b,if_neg (by omega)]
 .rw[wV (by rw[zZ,tG];omega),wV (by rw[tG];omega)]
theorem aBI{n:Nat}{x:Int}: x∈BQ n n↔0<=x/\x<n:=by
 unfold BQ;rw[wS];constructor
 .rintro⟨i,hi,rfl⟩;have:=vF.1 hi;rw[if_pos (by omega)];omega
 .rintro⟨e,b⟩;exact⟨x.toNat,vF.2 (by omega),by rw[if_pos (by omega)];omega⟩
theorem Ta{m:Int}{b ds l:Li}{x:Int}: x∈jN m b ds l↔x∈l/\0<=pj b ds x/\pj b ds x<m:=by
 unfold jN Zi;rw[yF];simp only[zV,vF,qE];constructor
 .rintro⟨j,f,e,g⟩;exact⟨e,by omega,by omega⟩
 .rintro⟨f,e,g⟩;exact⟨(pj b ds x).toNat,by omega,f,by omega⟩
theorem Ie{b ds:Li}: ∀(l:Li) (k:Nat),((List.range k).flatMap λj:Nat=>Zi b ds l j).length=(l.filter λx=>decide (0<=pj b ds x/\pj b ds x<k)).length
 | l,0=>by
  rw[List.range_zero,qBc]
  symm
  rw[yL,qDd,qAn];intro x _ h;have:=vO h;omega
 | l,k+1=>by
  rw[zU,kT,qF,Ie l k,kP,qBc,wH];unfold Zi;induction l with
  | nil=>rfl
  | cons a l e=>
   simp only[yG];by_cases g:0<=pj b ds a/\pj b ds a<k
   .rw[if_pos (qW g),if_neg (by rw[qE];omega),if_pos (qW (by omega:0<=pj b ds a/\pj b ds a<((k+1:Nat):Int)))];simp only[vU];omega
   .by_cases f:pj b ds a=k
    .rw[if_neg (by rw[qE];omega),if_pos (qW f),if_pos (qW (by omega:0<=pj b ds a/\pj b ds a<((k+1:Nat):Int)))];simp only[vU];omega
    .rw[if_neg (by rw[qE];omega),if_neg (by rw[qE];omega),if_neg (by rw[qE];omega)];exact e
theorem Tc{m:Int}{b ds l:Li}(f:0<=m)(h:∀x∈l,0<=pj b ds x/\pj b ds x<m): (jN m b ds l).length=l.length:=by
 unfold jN;rw[Ie,show((m.toNat:Nat):Int)=m by omega,List.filter_eq_self.2 λx e=>qW (h x e)]
structure aGi (m:Int) (sc:Lj) (ds:Li) (k:Int):Prop where
 len:(oK m sc ds k).length=ds.length
 mem:∀x,x∈oK m sc ds k↔0<=x/\x<ds.length
 ok:k<sc.length->Nl m (sc.getD k.toNat []) ds (oK m sc ds k)
theorem E7{m:Int}{b:Lj}{ds:Li}{k:Int}(f:0<=k)(e:k<b.length): oK m b ds (k+1)=jN m (b.getD k.toNat []) ds (oK m b ds k):=by
 unfold oK;rw[show(k+1).toNat=k.toNat+1 by omega,wO,qB (by omega),qAp,qA,qB (by omega)];rfl
theorem G5{m:Int}{b:Lj}{ds:Li}: iC m b ds=true↔(2<=m/\m<=64)/\(1<=(b.length:Int)/\(b.length:Int)<=4/\(ds.length:Int)<=5000)/\((b.getD 0 []).length:Int)<=2000/\(∀r∈b,(r.length:Int)=(b.getD 0 []).length/\∀x∈r,0<=x/\x<m)/\∀x∈ds,0<=x/\x<(b.getD 0 []).length:=by
 unfold iC I4 rowB belF inB fH;simp only[qC,qE,qN];constructor
 .rintro⟨⟨⟨⟨i,h⟩,g⟩,f⟩,e⟩;exact⟨i,h,g,f,e⟩
 .rintro⟨i,h,g,f,e⟩;exact⟨⟨⟨⟨i,h⟩,g⟩,f⟩,e⟩
theorem getD_in{l:Li}{x:Int}(e:0<=x)(b:x<l.length): l.getD x.toNat 0∈l:=by
 rw[qA,qB (by omega),qP];exact wE _
theorem N5{m:Int}{b:Lj}{ds l:Li}(r:iC m b ds=true)(L:l.length=ds.length)(hm:∀x,x∈l↔0<=x/\x<ds.length){k:Int}(G:0<=k)(A:k<b.length): Nl m (b.getD k.toNat []) ds l:=by
 obtain⟨y,T,O,v,u⟩:=G5.1 r;have e:b.getD k.toNat []∈b:=by
  rw[qA,qB (by omega),qP];exact wE _
 obtain⟨z,h⟩:=v _ e;refine⟨y,by omega,λx j=>?_⟩;obtain⟨f,x1⟩:=(hm x).1 j;obtain⟨g,V⟩:=u _ (getD_in f x1);obtain⟨i,p1⟩:=h _ (getD_in g (by omega:ds.getD x.toNat 0<(b.getD k.toNat []).length));exact⟨⟨⟨f,x1⟩,g,by omega⟩,i,p1⟩
theorem T8{m:Int}{b:Lj}{ds:Li}(j:iC m b ds=true): ∀(k:Nat),(k:Int)<=b.length->aGi m b ds k
 | 0,_=>by
  have e:oK m b ds ((0:Nat):Int)=BQ ds.length ds.length:=rfl;have g:(oK m b ds ((0:Nat):Int)).length=ds.length:=by rw[e,tG]
  have f:∀x,x∈oK m b ds ((0:Nat):Int)↔0<=x/\x<ds.length:=λx=>by rw[e];exact aBI
  exact⟨g,f,λh=>N5 j g f (by omega) h⟩
 | k+1,v=>by
  have i:=T8 j k (by omega);have r:=i.ok (by omega);have e:oK m b ds ((k+1:Nat):Int)=jN m (b.getD (k:Int).toNat []) ds (oK m b ds k):=E7 (k:=(k:Int)) (by omega) (by omega);have g:(oK m b ds ((k+1:Nat):Int)).length=ds.length:=by rw[e,Tc (by have:=r.1;omega) λx u=>(r.2.2 x u).2,i.len]
  have f:∀x,x∈oK m b ds ((k+1:Nat):Int)↔0<=x/\x<ds.length:=λx=>by
   rw[e,Ta,<- i.mem];exact⟨λh=>h.1,λh=>⟨h,(r.2.2 x h).2⟩⟩
  exact⟨g,f,λh=>N5 j g f (by omega) h⟩
def vn: Prop:=∀(m:Int) (pk ds l:Li),af Tryz.prog G0 87 [.dat R l,.dat I m,.fn 88 [.ip R pk,.ip R ds]] [] ⟨Nl m pk ds l,.dat R (jN m pk ds l),[]⟩
theorem Td(i:vn): ∀args m c,Yq args m=some c->af Tryz.prog G0 87 args m c:=by
 intro args m c b;unfold Yq at b;split at b
 case h_2=>cases b
 rename_i l k f caps;split at b
 case isFalse=>cases b
 rename_i r;subst r;split at b
 case h_2=>cases b
 rename_i e ds u j;cases b;exact(i k e ds l).args λC us x h=>oS h λv g=>pq j g
theorem aGb(e:vn): aj Tryz.prog G0 KP2:=ai (Td e)<|ai (ag λ(m,b,ds,_)=>aAC m b ds) aEN
theorem aDq(e:vn)(m:Int)(f:Lj)(ds:Li): af Tryz.prog G0 29 [.dat I m,.dat M f,.dat R ds] [] ⟨sa f ds,.tup [.dat R (lS m f ds),.dat I (PO m f ds)],[]⟩:=by
 refine ae (c:=mkc KP2) (aGb e) aK hm (fI m f ds ⟨rfl,λz=>?_⟩);obtain⟨⟨u,r⟩,hd⟩:=z;have hd:(ds.length:Int)<=1000000:=hd;simp only[qc,Dj,Es,Di,qd,Dt,Eb,Ec,Dp,Eh,Ei,Ed,Ey,Df,Et,Dl,Dn,Eo,Dy,Dw,Dh,Dq,Ee,Fh,Dc,Dx,Dk,Dz,Ej,Du,Eu,Ez,En,Ef,Fe,Fj,Fg,Ep,Em,Ew,Fb]
 refine⟨⟨⟨u,r⟩,hd⟩,λh=>⟨?_,?_⟩,λb=>⟨by omega,by omega,by omega,by rw[wG],⟨0,⟨b,qL _,by omega⟩,rfl,YP _⟩,λx ⟨_,v,x1⟩=>⟨λj=>⟨tG _ _,v,by rw[tG];exact j,tG _ _,aL (by omega),x+1,⟨b,by omega,by omega⟩,⟨rfl,aBH v j⟩,by omega⟩,λj=>⟨tG _ _,⟨0,⟨b,qL _,by omega⟩,?_,rfl⟩,λy ⟨_,i,A⟩=>⟨λg=>⟨i,g,?_,aL (by omega),y+1,⟨b,by omega,by omega⟩,⟨(E7 i g).symm,rfl⟩,by omega⟩,λg=>⟨?_,?_⟩⟩⟩⟩⟩⟩
 .unfold lS;rw[h];rfl
 .unfold PO;rw[h];rfl
 .have:x=ds.length:=by omega
  rw[this];rfl
 .have:=T8 b y.toNat (by omega);rw[qR i]at this;exact this.ok g
 .unfold lS;rw[b,show y=f.length by omega];rfl
 .unfold PO;rw[b];rfl
abbrev U8: Ty:=.int .u8
def u8L(l:Li): Prop:=∀i:Int,0<=l.getD i.toNat 0/\l.getD i.toNat 0<=255
def atO(n:Net)(o:Int): Int:=Int.tmod o n.2.2.2.1.length
def gvG(n:Net)(f t o:Int): Li:=gsF n (iz n f t) o
def gvF(n:Net)(f t o:Int): Li:=ofF n (iz n f t) o
def dsG(n:Net)(f t o x:Int): Int:=(gvF n f t o).getD (Int.tmod x n.2.2.2.1.length).toNat 0
def qT(n:Net)(f t o:Int)(it:Li)(k:Int): Li:=((it.take k.toNat).map (dsG n f t o)).filter λg=>decide (0<=g)
def aD7(n:Net)(f t o:Int): Prop:=rc n f t=0/\0<=o/\o<n.2.2.2.1.length
def aAZ(n:Net)(f t o:Int)(it:Li)(k:Int): Prop:=aD7 n f t o/\0<=k/\k<=it.length
def poK(n:Net)(o:Int): Int:=(bR n o).2.2.2.1
def paS(n:Net)(o:Int): Int:=(bR n o).2.2.2.2.1
def Kw(n:Net)(f t o:Int): Lj:=fN (poK n o) (paS n o) (gvG n f t o).length
def soR(n:Net)(f t o:Int)(it:Li): Li:=lS (poK n o) (Kw n f t o) (qT n f t o it it.length)
def MD(n:Net)(f t o:Int)(it:Li)(k:Int): Prop:=aD7 n f t o/\0<=k/\k<=(soR n f t o it).length
def soA(n:Net)(f t o:Int)(it:Li): Ann:=⟨λid s=>match id with
 | 14=>some {α:=Int,inv:=λk=>aAZ n f t (atO n o) it k,st:=λk=>gC (put s [(21,.dat I k),(20,.buf 100 (Dk (qT n f t (atO n o) it k)))]) 100 (.buf 3 I (qT n f t (atO n o) it k) []),μ:=λk=>Dc (Dh (Df it) k)}
 | 23=>some {α:=Int,inv:=λk=>MD n f t (atO n o) it k,st:=λk=>put s [(25,.dat I k)],μ:=λk=>Dc (Dh (Df (soR n f t (atO n o) it)) k)}
 | _=>none,λid s=>match id with
 | 19=>some (frz [100] s)
 | _=>none,λ_ _=>none⟩
def KLU: Kt:=kOr 29 (aw [.val I,.val M,.val R] (λ(_,sc,ds,_)=>sa sc ds) λ(m,sc,ds,_)=>.tup [.dat R (lS m sc ds),.dat I (PO m sc ds)]) KL6
set_option maxHeartbeats 4000000 in
theorem WS(f t o:Int)(it:Li)(cs:LC)(ns os:LB)(fs:Lo)(ls:Ll)(ks:Lk)(hvc:
 let c1:=(cs,ns,os,fs,ls,ks);let c2:=Di (aA0 c1 f t);let c3:=Di c2;let c16:=c3->c3->c3;let c4:=Df fs;let c5:=Ea c2 true (Eb c4 0);let c6:=Di c5;let c7:=Ea c5 true (Eh (Df it) 60);let c8:=Ec (rc c1 f t) 0;let c9:=iz c1 f t;let h:=Fq o c4;let c18:=(Du fs (Dc h) (ByteArray.mk #[],(0:Int),(0:Int),(0:Int),(0:Int),(0:Int),Dt ByteArray)).2.2.2;let c21:=Df (gsF c1 c9 h);let c22:=Ec (ux c18.1 c18.2.1 c21) 0;let c23:=Di c22;let c14:=c23->c23->c23;let G:=ofF c1 c9 h;let c25:=Df G;let c26:=Ea c22 true (Ec c25 c4);let r:=atO c1 o;let z:=fN c18.1 c18.2.1 c21;let e:=H8 c1 f t;let c32:=Df (soR c1 f t r it);true/\(u8P o/\u8L it->True/\True/\c16/\c16/\c16/\(Dj true c3->c3)/\(c6->c6->c6)/\(c6->c6->c6)/\(Dj true c6->c6)/\(c7->true/\True)/\(c7=false->True/\1=1/\0=0/\1=1/\0=0/\(c8->true/\True)/\(c8=false->inR .i64 o/\c4≠0/\1=1/\0=0/\fb c9/\0<=h/\h<c4/\0<=h/\h<c4/\True/\c14/\c14/\c14/\c14/\c14/\(Dj true c23->c23)/\(c26->false/\True)/\(c26=false->(∃x,let c33:=qT c1 f t r it x;aAZ c1 f t r it x/\it=it/\c1=c1/\false=false/\true/\h=h/\G=G/\z=z/\Dk c33=0/\c33=Dt Int/\0=x/\c9.1=c9.1/\c9.2.1=c9.2.1/\c9.2.2.1=c9.2.2.1/\c9.2.2.2=c9.2.2.2/\e.1=e.1/\e.2=e.2/\c33=Dt Int/\True)/\∀(x:Int),let c34:=Dp x (Df it);let c35:=Du it (Dc x) 0;let c36:=Fq c35 c4;let c37:=Du G (Dc c36) 0;let c38:=Ed c37 0;let j:=qT c1 f t r it x;let c40:=Dk j;let c41:=[c37];let c42:=c40+Dk c41;let c43:=x+1;let c44:=Ec (PO c18.1 z j) 0;let c45:=Di c44;let c15:=c45->c45->c45;let V:=lS c18.1 z j;let v:=Df V;let Z:=Df j;
 let c49:=Ea c44 true (Ec v Z);aAZ c1 f t r it x->(c34->0<=x/\x<Df it/\inR .i64 c35/\c4≠0/\0<=c36/\c36<c25/\(c38->c40=c40/\(c42*8)<=140737488355328/\c42<=9223372036854775807/\inR IntKind.i64 c43/\∃y,let c50:=qT c1 f t r it y;aAZ c1 f t r it y/\(it=it/\c1=c1/\false=false/\true/\h=h/\G=G/\z=z/\c42=Dk c50/\c43=y/\c9.1=c9.1/\c9.2.1=c9.2.1/\c9.2.2.1=c9.2.2.1/\c9.2.2.2=c9.2.2.2/\e.1=e.1/\e.2=e.2/\Ef j c41=c50/\True)/\Dc (Df it-y)<Dc (Df it-x))/\(c38=false->inR .i64 c43/\∃y,let c51:=qT c1 f t r it y;aAZ c1 f t r it y/\(it=it/\c1=c1/\false=false/\true/\h=h/\G=G/\z=z/\c40=Dk c51/\c43=y/\c9.1=c9.1/\c9.2.1=c9.2.1/\c9.2.2.1=c9.2.2.1/\c9.2.2.2=c9.2.2.2/\e.1=e.1/\e.2=e.2/\j=c51/\True)/\Dc (Df it-y)<Dc (Df it-x)))/\(c34=false->it=it/\c1=c1/\false=false/\true/\h=h/\G=G/\z=z/\c40=c40/\j=j/\x=x/\x=x/\it=it/\Df it=Df it/\c34=c34/\c9.1=c9.1/\c9.2.1=c9.2.1/\c9.2.2.1=c9.2.2.1/\c9.2.2.2=c9.2.2.2/\e.1=e.1/\e.2=e.2/\0<=h/\h<c4/\sa z j/\c15/\c15/\c15/\c15/\(Dj true c45->c45)/\(c49->false/\True)/\(c49=false->(∃x,MD c1 f t r it x/\true/\j=j/\V=V/\0=x/\c9.1=c9.1/\c9.2.1=c9.2.1/\c9.2.2.1=c9.2.2.1/\c9.2.2.2=c9.2.2.2/\e.1=e.1/\e.2=e.2/\True)/\∀(x:Int),let O:=Du V (Dc x) 0;let c53:=Dp O 0;let T:=Di c53;let c13:=T->T->T;let c55:=Ea c53 true (Ed O Z);let g:=Eh x 0;let i:=g->g->g;let A:=x-1;let X:=Du V (Dc A) 0;let c59:=Du j (Dc X) 0;let c60:=Du j (Dc O) 0;let c61:=Eh c59 c60;let b:=Dj g (Di c61);let c12:=b->b->b;let u:=Eb c59 c60;
 let L:=Dj b u->Dj b u->Dj b u;let c64:=Ea g (Ea c61 true (Ea u (Ed X O) false)) false;let c65:=x+1;MD c1 f t r it x->(Dp x v->0<=x/\x<v/\c13/\c13/\(T->0<=x)/\(T->x<v)/\c13/\c13/\c13/\c13/\(Dj true T->T)/\(c55->false/\True)/\(c55=false->i/\(g->inR .i64 A)/\i/\i/\(g->0<=A)/\(g->A<v)/\i/\i/\i/\(g->0<=X)/\(g->X<Z)/\i/\i/\i/\(g->0<=x)/\(g->x<v)/\i/\i/\i/\(g->0<=O)/\(g->O<Z)/\i/\i/\i/\i/\c12/\(b->inR .i64 A)/\c12/\c12/\(b->0<=A)/\(b->A<v)/\c12/\c12/\c12/\(b->0<=X)/\(b->X<Z)/\c12/\c12/\c12/\(b->0<=x)/\(b->x<v)/\c12/\c12/\c12/\(b->0<=O)/\(b->O<Z)/\c12/\c12/\c12/\c12/\L/\(Dj b u->inR .i64 A)/\L/\L/\(Dj b u->0<=A)/\(Dj b u->A<v)/\L/\L/\L/\(Dj b u->0<=x)/\(Dj b u->x<v)/\L/\L/\L/\c12/\(b->Dj b u->Dj b u)/\i/\(g->b->b)/\(Dj true g->g)/\(c64->false/\True)/\(c64=false->inR .i64 c65/\∃y,MD c1 f t r it y/\(true/\j=j/\V=V/\c65=y/\c9.1=c9.1/\c9.2.1=c9.2.1/\c9.2.2.1=c9.2.2.1/\c9.2.2.2=c9.2.2.2/\e.1=e.1/\e.2=e.2/\True)/\Dc (c32-y)<Dc (c32-x))))/\(Dp x v=false->true/\True)))))))):
  evF (mkc KLU) (lvA [(14,[4,5,10,11,15,17,18,20,21,22,23,24,25]),(23,[10,11,20,23,25])] (soA (cs,ns,os,fs,ls,ks) f t o it)) 7 [net cs ns os fs ls ks,.dat I f,.dat I t,.dat U o,.dat (.sl U8) it] [] ⟨u8P o/\u8L it,.dat .bool true,[]⟩:=oE hvc
def dE(ds:Li)(x:Int): Nat:=(ds.getD x.toNat 0).toNat
def RR(M k:Nat)(ds:Li)(a b:Int): Prop:=dE ds a%M ^ k<dE ds b%M ^ k\/(dE ds a%M ^ k=dE ds b%M ^ k/\a<b)
theorem Zt{M k:Nat}{ds:Li}{a b:Int}(h:RR M k ds a b)(e:dE ds a/M ^ k%M=dE ds b/M ^ k%M): RR M (k+1) ds a b:=by
 unfold RR at h ⊢;rw[Nat.mod_pow_succ,Nat.mod_pow_succ,e];generalize M ^ k*(dE ds b/M ^ k%M)=z;omega
theorem Zu{M k:Nat}{ds:Li}{a b:Int}(f:0<M)(e:dE ds a/M ^ k%M<dE ds b/M ^ k%M): RR M (k+1) ds a b:=by
 unfold RR;rw[Nat.mod_pow_succ,Nat.mod_pow_succ];have h:dE ds a%M ^ k<M ^ k:=qDp _ (Nat.pow_pos f);have g:=Nat.mul_le_mul_left (M ^ k) (show dE ds a/M ^ k%M+1<=dE ds b/M ^ k%M from e);rw[Nat.mul_add,yJ]at g;generalize M ^ k*(dE ds b/M ^ k%M)=z at *;generalize M ^ k*(dE ds a/M ^ k%M)=y at *;generalize dE ds b%M ^ k=u at *;generalize dE ds a%M ^ k=v at *;omega
theorem D9{m:Int}{v ds l:Li}{M k:Nat}(T:0<M)(e:∀x∈l,pj v ds x=((dE ds x/M ^ k%M:Nat):Int))(h:l.Pairwise (RR M k ds)): (jN m v ds l).Pairwise (RR M (k+1) ds):=by
 unfold jN;rw[List.pairwise_flatMap];constructor
 .intro j _;unfold Zi;refine(h.filter _).imp_of_mem λ{a b} O hb G=>?_
  obtain⟨u,g⟩:=zV.1 O;obtain⟨r,f⟩:=zV.1 hb;have g:=vO g;have f:=vO f;rw[e a u]at g;rw[e b r]at f;exact Zt G (by omega)
 .refine List.pairwise_lt_range.imp λ{i j} L x A y z=>?_
  unfold Zi at A z;obtain⟨u,g⟩:=zV.1 A;obtain⟨r,f⟩:=zV.1 z;have g:=vO g;have f:=vO f;rw[e x u]at g;rw[e y r]at f;exact Zu T (by omega)
theorem Oj(n M:Nat)(ds:Li): (BQ n n).Pairwise (RR M 0 ds):=by
 unfold BQ;rw[List.pairwise_map];refine List.pairwise_lt_range.imp_of_mem λ{i j} hi b e=>?_
 have:=vF.1 hi;have:=vF.1 b;rw[if_pos (by omega),if_pos (by omega)]
 right
 rw[Nat.pow_zero,Nat.mod_one,Nat.mod_one];exact⟨rfl,by omega⟩
theorem rY{p q n:Int}(h:ux p q n=0): ((2<=p/\p<=64)/\(1<=q/\q<=4)/\0<=n/\n<=2000)/\n<=p ^ q.toNat/\fN p q n=(List.range q.toNat).map λk:Nat=>(List.range n.toNat).map λd:Nat=>Vq p k d:=by
 have e:fN p q n=_:=if_pos h;unfold ux at h;split at h
 case isFalse=>cases h
 rename_i b;split at h
 case isTrue=>cases h
 rename_i f;unfold I0 fH at b;simp only[qC,qE]at b;refine⟨by omega,?_,e⟩;unfold oJ at f;omega
theorem AB{p:Int}{k d:Nat}(b:0<=p): Vq p k d=((d/p.toNat ^ k%p.toNat:Nat):Int):=by
 obtain⟨P,rfl⟩:∃P:Nat,p=P:=⟨p.toNat,by omega⟩;unfold Vq oJ;rw[qZ,qZ,<- Int.natCast_pow,Int.tdiv_eq_ediv_of_nonneg (qV d),<- Int.natCast_ediv,qBg (qV _),<- Int.natCast_emod]
theorem BJ{p q n:Int}{ds:Li}(g:ux p q n=0)(h:iC p (fN p q n) ds=true)(hd:∀x∈ds,0<=x/\x<n): ∀k:Nat,(k:Int)<=(fN p q n).length->(oK p (fN p q n) ds k).Pairwise (RR p.toNat k ds)
 | 0,_=>Oj _ _ _
 | k+1,u=>by
  obtain⟨⟨⟨z,p1⟩,⟨y,v⟩,G,A⟩,_,e⟩:=rY g;have j:=BJ g h hd k (by omega);have ok:=T8 h k (by omega);rw[show oK p (fN p q n) ds ((k+1:Nat):Int)=_ from E7 (k:=(k:Int)) (by omega) (by omega)];refine D9 (by omega) (λx r=>?_) j;obtain⟨i,x1⟩:=(ok.mem x).1 r;obtain⟨O,L⟩:=hd _ (getD_in i x1);have f:k<q.toNat:=by
   have:=u;rw[e,vG,vI]at this;omega
  have b:(fN p q n).getD (k:Int).toNat []=(List.range n.toNat).map λd:Nat=>Vq p k d:=by
   rw[e,qZ,qA,qO,vT f];rfl
  unfold pj;rw[b,qA,qO,vT (by omega:(ds.getD x.toNat 0).toNat<n.toNat),zC,qP];exact AB (by omega)
theorem I5{p q n:Int}{ds:Li}(V:ux p q n=0)(hl:ds.length<=5000)(hd:∀x∈ds,0<=x/\x<n): PO p (fN p q n) ds=0/\(lS p (fN p q n) ds).length=ds.length/\(∀i:Int,0<=i->i<ds.length->0<=(lS p (fN p q n) ds).getD i.toNat 0/\(lS p (fN p q n) ds).getD i.toNat 0<ds.length)/\
  ∀i:Int,1<=i->i<ds.length->ds.getD ((lS p (fN p q n) ds).getD (i-1).toNat 0).toNat 0<ds.getD ((lS p (fN p q n) ds).getD i.toNat 0).toNat 0\/(ds.getD ((lS p (fN p q n) ds).getD (i-1).toNat 0).toNat 0=ds.getD ((lS p (fN p q n) ds).getD i.toNat 0).toNat 0/\(lS p (fN p q n) ds).getD (i-1).toNat 0<(lS p (fN p q n) ds).getD i.toNat 0):=by
 obtain⟨⟨⟨p0,p1⟩,⟨q0,q1⟩,n0,n1⟩,hpw,e⟩:=rY V;have u:(fN p q n).length=q.toNat:=by rw[e,vG,vI]
 have f:∀r∈fN p q n,r.length=n.toNat/\∀x∈r,0<=x/\x<p:=λr h=>by
  rw[e]at h;obtain⟨k,_,rfl⟩:=wS.1 h;refine⟨by rw[vG,vI],λx z=>?_⟩;obtain⟨d,_,rfl⟩:=wS.1 z;rw[AB (by omega)];have:=qDp (d/p.toNat ^ k) (show 0<p.toNat by omega);omega
 have Z:((fN p q n).getD 0 [])∈fN p q n:=by
  rw[qA,qB (by omega),qP];exact wE _
 have A:=(f _ Z).1;have v:iC p (fN p q n) ds=true:=G5.2 ⟨⟨p0,p1⟩,by omega,by omega,λr h=>⟨by rw[(f r h).1,A],(f r h).2⟩,λx z=>by have:=hd x z;omega⟩;have ok:=T8 v (fN p q n).length (qL _);have so:=BJ V v hd (fN p q n).length (qL _);have eL:lS p (fN p q n) ds=oK p (fN p q n) ds ((fN p q n).length:Int):=if_pos v;rw[eL]
 have g:∀i:Int,0<=i->i<ds.length->0<=(oK p (fN p q n) ds ((fN p q n).length:Int)).getD i.toNat 0/\(oK p (fN p q n) ds ((fN p q n).length:Int)).getD i.toNat 0<ds.length:=λi T y=>
  (ok.mem _).1 (getD_in T (by rw[ok.len];exact y))
 refine⟨if_pos v,ok.len,g,λi T y=>?_⟩;have a:=g (i-1) (by omega) (by omega);have b:=g i (by omega) y;have X:=hd _ (getD_in a.1 a.2);have hb:=hd _ (getD_in b.1 b.2);have O:(i-1).toNat<(oK p (fN p q n) ds ((fN p q n).length:Int)).length:=by rw[ok.len];omega
 have L:i.toNat<(oK p (fN p q n) ds ((fN p q n).length:Int)).length:=by rw[ok.len];omega
 have:=List.pairwise_iff_getElem.1 so (i-1).toNat i.toNat O L (by omega);have e1:∀j:Nat,∀h:j<(oK p (fN p q n) ds ((fN p q n).length:Int)).length,(oK p (fN p q n) ds ((fN p q n).length:Int))[j]=(oK p (fN p q n) ds ((fN p q n).length:Int)).getD j 0:=λj h=>by
  rw[qA,qB h];rfl
 rw[e1 _ O,e1 _ L]at this;have hP:((p.toNat ^ q.toNat:Nat):Int)=p ^ q.toNat:=by rw[Int.natCast_pow,qR (by omega)]
 have G:∀x:Int,0<=ds.getD x.toNat 0->ds.getD x.toNat 0<n->dE ds x%p.toNat ^ (fN p q n).length=dE ds x:=λx Z h1=>Nat.mod_eq_of_lt (by
  rw[u];unfold dE;omega)
 unfold RR at this;rw[G _ X.1 X.2,G _ hb.1 hb.2]at this;unfold dE at this;omega
theorem aGc(e:vn): aj Tryz.prog G0 KLU:=ai (ag λ(m,b,ds,_)=>aDq e m b ds) aGd
set_option maxHeartbeats 4000000 in
theorem aAL(O:vn)(f t o:Int)(it:Li)(cs:LC)(ns os:LB)(fs:Lo)(ls:Ll)(ks:Lk): af Tryz.prog G0 7 [net cs ns os fs ls ks,.dat I f,.dat I t,.dat U o,.dat (.sl U8) it] [] ⟨u8P o/\u8L it,.dat .bool true,[]⟩:=by
 refine ae (c:=mkc KLU) (aGc O) aK hm (WS f t o it cs ns os fs ls ks ⟨rfl,λhp=>?_⟩);obtain⟨n,b⟩:∃n:Net,n=(cs,ns,os,fs,ls,ks):=⟨_,rfl⟩;simp only[<- b];have eF:fs=n.2.2.2.1:=by rw[b]
 rw[eF];have eA:Fq o n.2.2.2.1.length=atO n o:=rfl;have eP:((iz n f t).1,(iz n f t).2.1,(iz n f t).2.2.1,(iz n f t).2.2.2)=iz n f t:=rfl;have eG:gsF n (iz n f t) (atO n o)=gvG n f t (atO n o):=rfl;have eO:ofF n (iz n f t) (atO n o)=gvF n f t (atO n o):=rfl;have eK:(n.2.2.2.1.getD (atO n o).toNat (ByteArray.mk #[],0,0,0,0,0,[])).2.2.2.1=poK n (atO n o):=rfl
 have eQ:(n.2.2.2.1.getD (atO n o).toNat (ByteArray.mk #[],0,0,0,0,0,[])).2.2.2.2.1=paS n (atO n o):=rfl;have eS:fN (poK n (atO n o)) (paS n (atO n o)) (gvG n f t (atO n o)).length=Kw n f t (atO n o):=rfl;have eX:∀x:Int,(gvF n f t (atO n o)).getD (Fq x n.2.2.2.1.length).toNat 0=dsG n f t (atO n o) x:=λ_=>rfl
 simp only[qc,Dj,Es,Di,qd,Dt,Eb,Ec,Dp,Eh,Ei,Ed,Ey,Df,Et,Dl,Dn,Eo,Dy,Dw,Dh,Dq,Ee,Fh,Dc,Dx,Dk,Dz,Ej,Du,Eu,Ez,En,Ef,Fe,Fj,Fg,Ep,Em,Ew,Fb,eA,eP,eG,eO,eK,eQ,eS,eX];intro⟨⟨hsm,hne⟩,h60⟩ hc;obtain⟨⟨l0,l1⟩,hit⟩:=hp;obtain⟨hr,hs,ht,hD,L,_,e2⟩:=Cd hc;obtain⟨hu,hnx,T,hfit⟩:=UH hc;obtain⟨q1,_⟩:=lq n.1 n.2.1 n.2.2.1 n.2.2.2.1 n.2.2.2.2.1 n.2.2.2.2.2 hs;have q1:(n.2.2.2.1.length:Int)<=12:=q1
 have a0:0<=atO n o:=Int.tmod_nonneg _ l0;have a1:atO n o<n.2.2.2.1.length:=Int.tmod_lt_of_pos _ (by omega);have g:=aBK n.1 n.2.1 n.2.2.1 n.2.2.2.1 n.2.2.2.2.1 n.2.2.2.2.2 (p:=iz n f t) (o:=atO n o) hs T a0 a1;have j:aD7 n f t (atO n o):=⟨hc,a0,a1⟩;have v:((gvF n f t (atO n o)).length:Int)=n.2.2.2.1.length:=g.len;have gsm:(gvG n f t (atO n o)).length<=n.2.2.2.1.length+1:=g.small
 have hE:ux (poK n (atO n o)) (paS n (atO n o)) (gvG n f t (atO n o)).length=0:=by
  unfold mQ at L;split at L
  case isFalse=>cases L
  rename_i hall;have:=vO (qN.1 hall (atO n o).toNat (vF.2 (by omega)));rw[qR a0]at this;unfold Sz at this;have eg:fO (p1F n f t) (atO n o)=fO (iz n f t) (atO n o):=by rw[e2];rfl
  have el:((gvG n f t (atO n o)).length:Int)=1+(fO (iz n f t) (atO n o)).length:=by
   show((gsF n (iz n f t) (atO n o)).length:Int)=_;rw[g.gs,vU];omega
  rw[el,<- eg];exact this
 have hdg:∀x:Int,0<=x->-1<=dsG n f t (atO n o) x/\dsG n f t (atO n o) x<(gvG n f t (atO n o)).length/\0<=Int.tmod x n.2.2.2.1.length/\Int.tmod x n.2.2.2.1.length<n.2.2.2.1.length:=λx G=>by
  have d0:0<=Int.tmod x n.2.2.2.1.length:=Int.tmod_nonneg _ G;have X:Int.tmod x n.2.2.2.1.length<n.2.2.2.1.length:=Int.tmod_lt_of_pos _ (by omega);have e:dsG n f t (atO n o) x=uj (iz n f t) (atO n o) (Int.tmod x n.2.2.2.1.length):=g.at_ _ d0 X;have gl:1<=(gvG n f t (atO n o)).length:=by show 1<=(gsF n (iz n f t) (atO n o)).length;rw[g.gs];simp
  rw[e];by_cases he:Int.tmod x n.2.2.2.1.length=atO n o
  .rw[he,g.self];exact⟨by omega,by omega,a0,a1⟩
  .by_cases b:nxt (iz n f t).2.2.1 (atO n o) (Int.tmod x n.2.2.2.1.length)=-1
   .rw[g.none_ _ d0 X he b];exact⟨by omega,by omega,d0,X⟩
   .obtain⟨k1,k2,_⟩:=g.some_ _ d0 X he b;exact⟨by omega,k2,d0,X⟩
 have hds:∀k,∀x∈qT n f t (atO n o) it k,0<=x/\x<(gvG n f t (atO n o)).length:=λk x G=>by
  obtain⟨h1,h2⟩:=zV.1 G;obtain⟨y,h3,rfl⟩:=wS.1 h1;obtain⟨i,hi,rfl⟩:=wY.1 (qAa h3);have:=hit (i:Int);rw[qZ,qA,qB hi,qP]at this;exact⟨vO h2,(hdg _ this.1).2.1⟩
 have V:∀k,(qT n f t (atO n o) it k).length<=60:=λk=>by
  unfold qT;have h1:=yR (λg=>decide (0<=g)) ((it.take k.toNat).map (dsG n f t (atO n o)));rw[vG,qI]at h1;omega
 have nx:∀k:Int,0<=k->k<it.length->qT n f t (atO n o) it (k+1)=qT n f t (atO n o) it k++(if 0<=dsG n f t (atO n o) (it.getD k.toNat 0)then[dsG n f t (atO n o) (it.getD k.toNat 0)]else[]):=λk k0 k1=>by
  unfold qT;rw[show(k+1).toNat=k.toNat+1 by omega,wO,qB (by omega),yU,yV,qA,qB (by omega)]
  congr 1
  show List.filter _ [dsG n f t (atO n o) it[k.toNat]]=if 0<=dsG n f t (atO n o) it[k.toNat]then _ else _
  by_cases h:0<=dsG n f t (atO n o) it[k.toNat]
  .rw[if_pos h,yG,if_pos (qW h)];rfl
  .rw[if_neg h,yG,if_neg (by rw[qE];exact h)];rfl
 refine⟨aL (by omega),hne,hfit,a0,a1,a0,a1,λh=>?_,λ_=>⟨⟨0,⟨j,qL _,by omega⟩,rfl,rfl,rfl,rfl⟩,λx ⟨_,x0,x1⟩=>⟨λG=>?_,λG=>?_⟩⟩⟩
 .rcases h with h | h
  .exact absurd hE h
  .exact absurd v h
 .obtain⟨i0,i1⟩:=hit x;obtain⟨X,d2,d3,d4⟩:=hdg _ i0;have b:=nx x x0 G;refine⟨x0,G,aL (by omega),hne,d3,by rw[v];exact d4,λh=>?_,λh=>?_⟩
  .rw[if_pos h]at b;have:=V x;refine⟨by rw[vZ];omega,by rw[vZ];omega,aL (by omega),x+1,⟨j,by omega,by omega⟩,⟨by rw[b,qF],rfl,b.symm⟩,by omega⟩
  .rw[if_neg h,wH]at b;exact⟨aL (by omega),x+1,⟨j,by omega,by omega⟩,⟨by rw[b],rfl,b.symm⟩,by omega⟩
 .obtain rfl:x=it.length:=by omega
  obtain⟨r1,r2,r3,r4⟩:=I5 hE (by have:=V it.length;omega) (hds it.length);have r1:PO (poK n (atO n o)) (Kw n f t (atO n o)) (qT n f t (atO n o) it it.length)=0:=r1;have r2:(lS (poK n (atO n o)) (Kw n f t (atO n o)) (qT n f t (atO n o) it it.length)).length=(qT n f t (atO n o) it it.length).length:=r2;have hl60:=V it.length
  have eR:soR n f t (atO n o) it=lS (poK n (atO n o)) (Kw n f t (atO n o)) (qT n f t (atO n o) it it.length):=rfl;have hfs:sa (Kw n f t (atO n o)) (qT n f t (atO n o) it it.length):=by
   obtain⟨⟨⟨p0,p1⟩,⟨q0,q1⟩,n0,n1⟩,_,e⟩:=rY hE;have e:Kw n f t (atO n o)=_:=e;refine⟨?_,by show((qT n f t (atO n o) it it.length).length:Int)<=1000000;omega⟩;rw[e];refine⟨by rw[vG,vI];omega,λr h=>?_⟩;obtain⟨k,_,rfl⟩:=wS.1 h;rw[vG,vI];omega
  refine⟨a0,a1,hfs,λh=>?_,λ_=>⟨⟨j,qL _,by omega⟩,λy ⟨_,y0,y1⟩ hy=>?_⟩⟩
  .rcases h with h | h
   .exact absurd r1 h
   .rw[r2]at h;exact absurd rfl h
  rw[r2]at hy;have k1:=r3 y y0 (by omega);have k2:=r3 (y-1);have k3:=r4 y;have eS':fN (poK n (atO n o)) (paS n (atO n o)) (gvG n f t (atO n o)).length=Kw n f t (atO n o):=rfl;rw[eS']at k1 k2 k3;have hin:inR .i64 (y-1):=aL (by omega);have u:inR .i64 (y+1):=aL (by omega)
  have hY:∃z,MD n f t (atO n o) it z/\y+1=z/\(((lS (poK n (atO n o)) (Kw n f t (atO n o)) (qT n f t (atO n o) it it.length)).length:Int)-z).toNat<(((lS (poK n (atO n o)) (Kw n f t (atO n o)) (qT n f t (atO n o) it it.length)).length:Int)-y).toNat:=⟨y+1,⟨j,by omega,by rw[eR];omega⟩,rfl,by omega⟩
  generalize (lS (poK n (atO n o)) (Kw n f t (atO n o)) (qT n f t (atO n o) it it.length)).getD (y-1).toNat 0=A at *;generalize (lS (poK n (atO n o)) (Kw n f t (atO n o)) (qT n f t (atO n o) it it.length)).getD y.toNat 0=B at *;generalize (qT n f t (atO n o) it it.length).getD A.toNat 0=C at *;generalize (qT n f t (atO n o) it it.length).getD B.toNat 0=Z at *
  and_intros
  all_goals try (intros;first | trivial | omega | exact hin | exact u)
  intro _
  and_intros
  all_goals try (intros;first | trivial | omega | exact hin | exact u | (exfalso;omega))
open Go.RowKit
theorem Yp(m:Nat)(b ds l:Li): qx (pj b ds) l m=jN m b ds l:=by
 unfold qx jN iK Zi;rw[qZ,xG]
theorem Nn: vn:=by
 rintro m z ds l ⟨⟨m0,m1⟩,l5,hl⟩ w D E us hD hG T hH;obtain⟨u1,us,rfl,h1,u2,us,rfl,h2,u3,us,rfl,⟨cs,rfl,hcs⟩,rfl⟩:=T;obtain⟨p1,_,rfl,q1,p2,_,rfl,q2,rfl⟩:=hcs;have h2:[u2]=[Value.int .i64 m]:=h2;cases h2;obtain⟨ao,cap,e1,_,_,hsp,r⟩:=h1;cases e1;have lies:CY w.heap.size w (.slice ao l.length cap) l:=by
  refine⟨ao,cap,rfl,?_⟩;by_cases hz:l.length=0
  .exact .inl hz
  .have at0:l[0]?=some (l.getD 0 0):=by
    rw[qA,qB (by omega),qP]
   obtain⟨A,_,e2,hb2,_⟩:=r 0 _ at0;subst e2;have G:=hsp A rfl (by omega);refine .inr ⟨A.block,A.off,?_,hD _ hb2,λj X=>?_⟩
   .obtain⟨b,f,s⟩:=A;have G:s=none:=G;subst G;rfl
   .have atj:l[j]?=some (l.getD j 0):=by
     rw[qA,qB X,qP]
    obtain⟨a3,ue3,e3,hb3,hc3,O⟩:=r j _ atj;cases e3;have O:ue3=[Value.int .i64 (l.getD j 0)]:=O;subst O;have h:w.cell? ⟨A.block,A.off+j*1+0,none⟩=some (Value.int .i64 (l.getD j 0)):=hc3 0 _ rfl;rw[show A.off+j*1+0=A.off+j by omega]at h;exact h
 have hK:∀x∈l,∀W,Go.RowKit.Below w.heap.size w W->Calls Tryz.prog 88 #[.int .i64 x,p1,p2] W λe w'=>e=.returned (.int .i64 (pj z ds x))/\Go.RowKit.Below W.heap.size W w':=λx hx W hB=>by
  have L:Later ⟨w,D,bw [],E⟩ ⟨W,D,bw [],E⟩:=⟨λ_ h=>h,λb h=>hB.block b (hD b h)⟩;have hc:=aAD x z ds (hl x hx).1 W D E [.int .i64 x,p1,p2] (λb h=>qM (hD b h) hB.size) (jG.mono L hG)
   ⟨_,_,rfl,rfl,_,_,rfl,AV.rel_mono L (λV h=>by cases h) q1,_,_,rfl,AV.rel_mono L (λV h=>by cases h) q2,rfl⟩ (Held.none _ _ _ _)
  refine hc.mono ?_;rintro e w' ⟨v,D',E',rfl,hL,hv⟩;have hv:[v]=[Value.int .i64 (pj z ds x)]:=hv;cases hv;exact⟨rfl,hL.chg.os,hL.chg.tape,hL.chg.output,hL.chg.size,λk hk=>hL.chg.block k hk (λ⟨V,blk,h,_⟩=>by cases h)⟩
 have hc:=Yr (.slice ao l.length cap) m p1 p2 (pj z ds) l w lies m0 m1 l5 (λx hx=>(hl x hx).2) hK;refine hc.mono ?_;rintro e w' ⟨v,rfl,r,hB⟩;have ep:qx (pj z ds) l m.toNat=jN m z ds l:=by
  rw[Yp,qR (by omega)]
 rw[ep]at r;refine⟨v,λb=>D b\/fD w w' b,E,rfl,⟨(Chg.refl _ _).below hB,λ_ h=>.inl h,λb h=>h.imp id λh=>.inl h.1,λb h=>h.elim (λh=>qM (hD b h) hB.size) λh=>h.2,Held.none _ _ _ _,λV b b' g=>(by cases g),λV b b' g=>(by cases g),λV b _ g=>(by cases g),λV i b g=>(gZ g).elim⟩,?_⟩;show ∃(ao:Option Addr) (cap:Nat),[v]=[.slice ao (jN m z ds l).length cap]/\_
 obtain⟨_,⟨rfl,h0⟩ | ⟨g,cap,cur,rfl,hg,hb,Z,_,hsz,htk⟩⟩:=r
 .have h0:jN m z ds l=[]:=vP h0;rw[h0];exact⟨none,0,rfl,qJ _,λ_=>rfl,λ_ h=>(by cases h),λi y h=>(by cases h)⟩
 .refine⟨_,cap,rfl,Z,λh=>(by cases h),λa h _=>(by cases h;rfl),λi y hy=>⟨_,[Value.int .i64 y],rfl,.inr ⟨hg,(vJ.1 hb).1⟩,λj u X=>?_,rfl⟩⟩;cases j with
  | succ j=>cases X
  | zero=>
   have X:some (Value.int .i64 y)=some u:=X;cases X;show w'.cell? ⟨g,0+i*1+0,none⟩=_;have hi:i<(jN m z ds l).length:=(qG.1 hy).1;have e:(cur.toList.take ((jN m z ds l).length*1))[i]?=some (Value.int .i64 y):=by
    rw[htk,qO,hy];rfl
   rw[List.getElem?_take_of_lt (by omega),zT]at e;have hi2:0+i*1+0<cur.size:=by omega
   rw[show 0+i*1+0=i by omega]at hi2 ⊢;simp[World.cell?,hb,e]
theorem TN(f t o:Int)(it:Li)(cs:LC)(ns os:LB)(e:Lo)(ls:Ll)(b:Lk): af Tryz.prog G0 7 [net cs ns os e ls b,.dat I f,.dat I t,.dat U o,.dat (.sl U8) it] [] ⟨u8P o/\u8L it,.dat .bool true,[]⟩:=aAL Nn f t o it cs ns os e ls b
end Go.Eng.Sv
namespace Go.Eng
open Go.RowKit Go.ChangeShapes
theorem yb{H:Type}{enc:TypeId×Value->H}{P:Program}{f:Func}{s:ChangeSpec}{apart fresh h again:Bool}{W y:World}{args:Array Value}{v:Value}{ds gs:List (DataW H)}{before pa pv:List MemPlace}
  (L:DataW.Whole enc P f.params.toList s.vars apart W args.toList ds gs before) (hb:Below W.heap.size W y)
  (i:∀(b:Nat) (sp:Nat->Bool) (hd:Bool),DataW.TrodAll enc P y b sp hd f.resultTypes.toList (v.resultList f.resultTypes.size) (s.fn H (ds++gs)).results [])
  (g:∀sp:Nat->Bool,(∀p∈before,sp p.block=true)->DataW.TrodAll enc P y 0 sp true f.params.toList args.toList (s.fn H (ds++gs)).args pa)
  (e:∀sp:Nat->Bool,(∀p∈before,sp p.block=true)->DataW.TrodVars enc P y sp s.vars (s.fn H (ds++gs)).vars pv)
  (u:before=pa++pv)
  (G:∀(j:Nat) (t:TypeId) (r:Value),f.resultTypes[j]?=some t->(v.resultList f.resultTypes.size)[j]?=some r->Value.okWide P y .any 0 t r):
  s.post enc P f apart fresh h again W args v y:=by
 have A:∀p∈before,p.block<W.heap.size:=λp x=>L.lt p x
 have hold:∀p∈before,(λb=>decide (b<W.heap.size)) p.block=true:=λp x=>by simpa using A p x
 refine⟨ds,gs,before,[],pa,pv,L,i _ _ _,g _ hold,e _ hold,hb.frame _,λ_=>?_⟩;obtain⟨_,_,_,_,_,O,T⟩:=L;refine⟨G,_,_,([]++pa)++pv,⟨[]++pa,pv,trodAll_append (g _ (λ_ _=>rfl)) (i _ _ _),e _ (λ_ _=>rfl),rfl,?_,?_⟩,?_⟩
 .intro b off x;have z:MemPlace.cell b off∈before:=by rw[u];simpa using x
  rw[hb.frozen (A _ z)];exact O b off z
 .intro V;have:=T V;rw[u]at this;simpa using this
 .intro p x _;rw[u];simpa using x
def okT: (t:Ty)->t.den->Prop
 | .int k,x=>inR k x
 | .bool,_=>True
 | .str,s=>s.size<=9223372036854775807
 | .sl e,xs=>List.length xs<=9223372036854775807/\∀x∈(xs:List e.den),okT e x
 | .pair a b,x=>okT a x.1/\okT b x.2
def jC: (t:Ty)->t.den->Nat
 | .int _,_=>1
 | .bool,_=>1
 | .str,s=>s.size+1
 | .sl e,xs=>((xs:List e.den).map λx=>jC e x).sum+1
 | .pair a b,x=>jC a x.1+jC b x.2
mutual
def pA{H:Type}: DataW H->Nat
 | .lit (.string bytes)=>bytes.length+1
 | .slice elems _=>ko elems+1
 | .agg parts=>ko parts+1
 | _=>1
def ko{H:Type}: List (DataW H)->Nat
 | []=>0
 | d::r=>pA d+ko r
end
theorem Bf{H:Type}(d:DataW H): 1<=pA d:=by
 cases d with
 | lit l=>cases l<;>simp[pA]
 | _=>simp[pA]
def I7: (a c:Ty)->a.den->c.den->(lg a c).den
 | .pair _ b,c,x,y=>(x.1,I7 b c x.2 y)
 | .int _,_,x,y=>(x,y)
 | .bool,_,x,y=>(x,y)
 | .str,_,x,y=>(x,y)
 | .sl _,_,x,y=>(x,y)
theorem AQ: ∀(a c:Ty),(lg a c).sz=a.sz+c.sz
 | .pair a b,c=>by simp only[lg,Ty.sz,AQ b c];omega
 | .int _,_ | .bool,_ | .str,_ | .sl _,_=>by simp[lg,Ty.sz]
theorem AP{w:World}{D:Nat->Prop}: ∀{a c:Ty} {x:a.den} {y:c.den} {us vs:Lv},ah w D a x us->ah w D c y vs->ah w D (lg a c) (I7 a c x y) (us++vs)
 | .pair a b,c,x,y,us,vs,g,f=>by
  obtain⟨i,h,e,r,j⟩:=g;subst e;exact⟨i,h++vs,by simp,r,AP j f⟩
 | .int _,_,_,_,us,vs,g,f=>⟨us,vs,rfl,g,f⟩
 | .bool,_,_,_,us,vs,g,f=>⟨us,vs,rfl,g,f⟩
 | .str,_,_,_,us,vs,g,f=>⟨us,vs,rfl,g,f⟩
 | .sl _,_,_,_,us,vs,g,f=>⟨us,vs,rfl,g,f⟩
theorem He: ∀{a c:Ty} {x:a.den} {y:c.den},okT a x->okT c y->okT (lg a c) (I7 a c x y)
 | .pair _ _,_,_,_,b,e=>⟨b.1,He b.2 e⟩
 | .int _,_,_,_,b,e=>⟨b,e⟩
 | .bool,_,_,_,b,e=>⟨b,e⟩
 | .str,_,_,_,b,e=>⟨b,e⟩
 | .sl _,_,_,_,b,e=>⟨b,e⟩
theorem ve: ∀{a c:Ty} {x:a.den} {y:c.den},jC (lg a c) (I7 a c x y)=jC a x+jC c y
 | .pair a b,c,x,y=>by
  show jC a x.1+jC (lg b c) (I7 b c x.2 y)=jC a x.1+jC b x.2+jC c y;rw[ve];omega
 | .int _,_,_,_=>rfl
 | .bool,_,_,_=>rfl
 | .str,_,_,_=>rfl
 | .sl _,_,_,_=>rfl
def fieldsB(P:Program)(T:TypeId->Option Ty): Nat->List Field->Option Ty
 | _,[]=>none
 | off,f::r=>if f.offset=off then match T f.type with
  | some a=>if P.cellsOf f.type=a.sz then match r with
   | []=>some a
   | g::r'=>match fieldsB P T (off+a.sz) (g::r')with
    | some c=>some (lg a c)
    | none=>none
   else none
  | none=>none
  else none
def tyB(P:Program): Nat->TypeId->Option Ty
 | 0,_=>none
 | n+1,t=>match P.underlying t with
  | some (.int k)=>some (.int k)
  | some .bool=>some .bool
  | some .string=>some .str
  | some (.slice e)=>match tyB P n e with
   | some ty=>if P.cellsOf e=ty.sz then some (.sl ty)else none
   | none=>none
  | some (.struct fs)=>match fieldsB P (tyB P n) 0 fs.toList with
   | some ty=>if P.cellsOf t=ty.sz then some ty else none
   | none=>none
  | _=>none
abbrev Nw(w:World): Nat->Prop:=λb=>b<w.heap.size
theorem aBG{k:IntKind}{n:Int}(h:(Lit.int k n).wf=true): inR k n:=by
 simp only[Lit.wf,qC,qE]at h;cases k<;>simpa[IntKind.min,IntKind.max,IntKind.signed,IntKind.bits,inR]using h
section
variable {H:Type} {enc:TypeId×Value->H} {P:Program} {w:World}
def Opened(w:World)(ty:Ty)(cs:Lv)(n:Nat): Prop:=∃d:ty.den,ah w (Nw w) ty d cs/\okT ty d/\jC ty d<=n
theorem sF{T:TypeId->Option Ty}{n:Nat}{cs:Lv}
  (O:∀t ty,T t=some ty->∀cs x,DataW.trod enc P w 0 (λ_=>true) true n t cs=some x->Opened w ty cs (pA x.1)):
  ∀(A:List Field) (off:Nat) (ty:Ty) (xs:List (DataW H×List MemPlace)),fieldsB P T off A=some ty->xs.length=A.length->
   (∀(i:Nat) (f:Field),A[i]?=some f->DataW.trod enc P w 0 (λ_=>true) true n f.type ((cs.drop f.offset).take (P.cellsOf f.type))=xs[i]?)->
   cs.length=off+ty.sz->Opened w ty (cs.drop off) (ko (xs.map (·.1)))
 | [],_,_,_,h,_,_,_=>by simp[fieldsB]at h
 | f::r,off,ty,xs,h,u,L,Z=>by
  rw[fieldsB.eq_2]at h;split at h
  case isFalse=>cases h
  rename_i b;split at h
  case h_2=>cases h
  rename_i a ha;split at h
  case isFalse=>cases h
  rename_i j
  match xs,u with
  | y::ys,u=>
   have z:=L 0 f rfl;simp only[qAg]at z;rw[b,j]at z;obtain⟨d,G,V,d3⟩:=O _ _ ha _ _ z;split at h
   .cases h;refine⟨d,?_,V,?_⟩
    .rw[qQ (by rw[wC];omega)]at G;exact G
    .simp only[zH,ko];omega
   .rename_i g X _;split at h
    case h_2=>cases h
    rename_i c v;cases h;rw[AQ]at Z;obtain⟨e,e1,e2,e3⟩:=sF O (g::X) (off+a.sz) c ys v (by simpa using u) (λi f' hi=>by simpa using L (i+1) f' (by simpa using hi)) (by omega);refine⟨I7 a c d e,?_,He V e2,?_⟩
    .have:=AP G e1
     rwa [<- yK,xE]at this
    .rw[ve];simp only[zH,ko];omega
theorem CB{e:Ty}(f:Nat->e.den)(D:Nat->DataW H): ∀l:List Nat,(∀i∈l,jC e (f i)<=pA (D i))->((l.map f).map λx=>jC e x).sum<=ko (l.map D)
 | [],_=>by simp[ko]
 | i::l,h=>by
  have r:=h i (by simp);have g:=CB f D l (λj b=>h j (by simp[b]));simp only[zH,List.sum_cons,ko];omega
theorem sG: ∀(n:Nat) {t:TypeId} {ty:Ty},tyB P n t=some ty->∀(fuel:Nat) (cs:Lv) (x:DataW H×List MemPlace),
  DataW.trod enc P w 0 (λ_=>true) true fuel t cs=some x->Opened w ty cs (pA x.1)
 | 0,_,_,h,_,_,_,_=>by simp[tyB]at h
 | n+1,t,ty,h,fuel,cs,x,O=>by
  simp only[tyB]at h;split at h
  .rename_i k z;cases h;obtain⟨m,rfl,rfl,hw⟩:=DataW.trod_int z O;exact⟨m,rfl,aBG hw,Bf _⟩
  .rename_i z;cases h;obtain⟨b,rfl,rfl⟩:=DataW.trod_bool z O;exact⟨b,rfl,trivial,Bf _⟩
  .rename_i z;cases h;obtain⟨s,rfl,rfl,hs⟩:=DataW.trod_string z O;refine⟨s,rfl,by simpa[okT,maxLen]using hs,?_⟩;simp only[jC,pA];have:s.data.toList.length=s.size:=by rw[vK];rfl
   omega
  .rename_i e z;split at h
   case h_2=>cases h
   rename_i g he;split at h
   case isFalse=>cases h
   rename_i hsz;cases h;rcases Deep.open_slice z O with⟨rfl,rfl⟩ | ⟨a,len,cap,m,n',Dd,Pl,rfl,hb,hl,hm,hmm,rfl,hel⟩
   .exact⟨[],aZ _ _ _,⟨wZ _,λx O=>by cases O⟩,by simp[jC,pA]⟩
   .have hlm:len<=m:=by rw[hmm];simpa using hl
    haveI:Inhabited g.den:=⟨g.dflt⟩
    obtain⟨f,X⟩:=Deep.choose_lt (α:=g.den) (n:=len) (p:=λi d=>∃r,w.cells? 0 (a.add (i*g.sz)) g.sz=some r/\ah w (Nw w) g d r/\okT g d/\jC g d<=pA (Dd i)) (λi hi=>by
     obtain⟨r,Z,h2⟩:=hel i (by omega);rw[hsz]at Z;obtain⟨d,d1,d2,d3⟩:=sG n he _ _ _ h2;exact⟨d,r,Z,d1,d2,d3⟩)
    have hp:=Ty.sz_pos g;have G:0<len->a.spot=none/\a.block<w.heap.size:=λh0=>by
     obtain⟨r,Z,d1,_⟩:=X 0 h0;obtain⟨_,hcl,V⟩:=World.cells?_some Z;have:=V 0 hp;have hlt:0<r.length:=by omega
     rw[qB hlt]at this;simp only[yY]at this;have e0:(a.add 0).add 0=a:=by simp[Addr.add]
     rw[e0]at this;unfold World.cell? at this;split at this
     .rename_i c t' fr hc;refine⟨?_,(vJ.1 hc).1⟩;split at this
      .cases this
      .rename_i hs;cases A:a.spot with
       | none=>rfl
       | some _=>rw[A]at hs;simp at hs
     .cases this
    have v:List.length ((List.range len).map f)=len:=by simp
    refine⟨(List.range len).map f,⟨some a,cap,by rw[v],by rw[v];exact hl,(λh=>by cases h),λa' ha' L=>?_,λi y hy=>?_⟩,⟨?_,λy hy=>?_⟩,?_⟩
    .cases ha';rw[v]at L;exact(G L).1
    .have hi:i<len:=by
      have:=(qG.1 hy).1
      rwa [v]at this
     have ey:y=f i:=by
      rw[qO,vT hi]at hy;exact(wX hy).symm
     subst ey;obtain⟨r,Z,d1,_⟩:=X i hi;obtain⟨A,hbk⟩:=G (by omega);refine⟨a,r,rfl,hbk,λj u hj=>?_,d1⟩;obtain⟨_,hcl,V⟩:=World.cells?_some Z;have hjl:=(qG.1 hj).1;have:=V j (by omega);rw[hj,Deep.add_add]at this;have e1:a.add (i*g.sz+j)=⟨a.block,a.off+i*g.sz+j,none⟩:=by
      cases a with | mk b o s=>simp only at A;subst A;rw[yS,gB]
     rw[e1]at this;exact this
    .rw[v];unfold maxLen at hm;omega
    .obtain⟨i,hi,rfl⟩:=wS.1 hy;obtain⟨_,_,_,h2,_⟩:=X i (vF.1 hi);exact h2
    .have:=CB f Dd (List.range len) (λi hi=>by
      obtain⟨_,_,_,_,h3⟩:=X i (vF.1 hi);exact h3)
     simp only[jC,pA];omega
  .rename_i fs z;split at h
   case h_2=>cases h
   rename_i ty' hfs;split at h
   case isFalse=>cases h
   rename_i hsz;cases h;obtain⟨xs,m,_,rfl,hcl,hxl,X⟩:=DataW.trod_struct z O;obtain⟨d,d1,d2,d3⟩:=sF (cs:=cs) (n:=m) (T:=tyB P n) (λt' ty' ht' r x' hx'=>sG n ht' _ _ _ hx') fs.toList 0 ty xs hfs (by simpa using hxl)
    (λi f' hi=>X i f' (by simpa using hi)) (by omega)
   refine⟨d,by simpa using d1,d2,?_⟩;simp only[pA];omega
  .cases h
abbrev TT:=Bool×Ty
def Wg: List TT->Type
 | []=>PUnit
 | p::r=>p.2.den×Wg r
def aCc(p:TT)(x:p.2.den): AV:=match p.1 with
 | true=>.agg (cellsOf p.2 x)
 | false=>.dat p.2 x
def avs: (l:List TT)->Wg l->List AV
 | [],_=>[]
 | p::r,x=>aCc p x.1::avs r x.2
def okL: (l:List TT)->Wg l->Prop
 | [],_=>True
 | p::r,x=>okT p.2 x.1/\okL r x.2
def UQ: (l:List TT)->Wg l->Nat
 | [],_=>0
 | p::r,x=>jC p.2 x.1+UQ r x.2
def ttB(P:Program)(t:TypeId)(p:TT): Bool:=decide (tyB P 12 t=some p.2)&&(match P.underlying t with
 | some (.struct _)=>p.1
 | some (.int _) | some .bool | some .string | some (.slice _)=>!p.1
 | _=>false)
def PN(P:Program): List TypeId->List TT->Bool
 | [],[]=>true
 | t::ts,p::ps=>ttB P t p&&PN P ts ps
 | _,_=>false
theorem open_arg{t:TypeId}{p:TT}{base:Nat}{v:Value}{d:DataW H}{u:List MemPlace}(j:ttB P t p=true)(b:Value.okWide P w .any base t v)
  (h:DataW.Trod enc P w 0 (λ_=>true) true t v d u):∃x:p.2.den,(aCc p x).rel P ⟨w,Nw w,noM,noE⟩ v/\okT p.2 x/\jC p.2 x<=pA d:=by
 unfold ttB at j;simp only[qC,qE]at j;obtain⟨i,f⟩:=j;obtain⟨fuel,z⟩:=h;obtain⟨x,x1,x2,r⟩:=sG 12 i _ _ _ z;refine⟨x,?_,x2,r⟩;have plain:(∀cs,v≠.agg cs)->p.1=false->(aCc p x).rel P ⟨w,Nw w,noM,noE⟩ v:=λy A=>by
  have e:v.cells.toList=[v]:=by cases v<;>first | rfl | exact(y _ rfl).elim
  rw[e]at x1;unfold aCc;rw[A];exact x1
 split at f
 .rename_i G g;have:∃cs,v=.agg cs:=by
   unfold Value.okWide at b;rw[g]at b;obtain⟨cs,e,_⟩:=b;exact⟨cs,e⟩
  obtain⟨cs,rfl⟩:=this;unfold aCc;rw[f];refine⟨cs.toList,rfl,bS (C:=⟨w,Nw w,noM,noE⟩) ?_⟩;exact x1
 all_goals first
  | cases f
  | (rename_i g
     refine plain (λcs e=>?_) (by simpa using f);subst e;simp[Value.okWide,g,Cell.okWide,Cell.ok]at b)
theorem A8: ∀{ts:List TypeId} {l:List TT} {vs:Lv} {ds:List (DataW H)} {f:List MemPlace} {base:Nat},PN P ts l=true->
  (∀(j:Nat) t v,ts[j]?=some t->vs[j]?=some v->Value.okWide P w .any base t v)->DataW.TrodAll enc P w 0 (λ_=>true) true ts vs ds f->
  ∃x:Wg l,AV.relL P ⟨w,Nw w,noM,noE⟩ (avs l x) vs/\okL l x/\UQ l x<=ko ds
 | [],[],vs,ds,f,base,_,_,h=>by
  obtain⟨rfl,rfl,rfl⟩:=trodAll_nil h;exact⟨PUnit.unit,rfl,trivial,wZ _⟩
 | t::ts,p::l,vs,ds,f,base,b,i,h=>by
  obtain⟨v,e,d,O,p1,q,rfl,rfl,rfl,L,G⟩:=trodAll_cons h;simp only[PN,qC]at b;obtain⟨x,x1,x2,V⟩:=open_arg b.1 (i 0 t v rfl rfl) L;obtain⟨y,u,r,T⟩:=A8 b.2 (λj t' z A g=>i (j+1) t' z (by simpa using A) (by simpa using g)) G;exact⟨(x,y),⟨v,e,rfl,x1,u⟩,⟨x2,r⟩,by simp only[UQ,ko];omega⟩
 | [],_::_,_,_,_,_,b,_,_=>by simp[PN]at b
 | _::_,[],_,_,_,_,b,_,_=>by simp[PN]at b
theorem BI{W r:World}(j:laidOutB P=true)(hb:Below W.heap.size W r): ∀{ts:List TypeId} {vs:Lv} {ds:List (DataW H)} {e:List MemPlace},
  (ts.all λt=>P.readableRec t&&decide (t<P.types.size))=true->DataW.TrodAll enc P W 0 (λ_=>true) true ts vs ds e->(∀x∈e,x.block<W.heap.size)->
  ∀sp:Nat->Bool,(∀x∈e,sp x.block=true)->DataW.TrodAll enc P r 0 sp true ts vs ds e
 | [],vs,ds,e,_,h,_,sp,_=>by
  obtain⟨rfl,rfl,rfl⟩:=trodAll_nil h;exact trodAll_mk0
 | t::ts,vs,ds,e,i,h,g,sp,f=>by
  obtain⟨v,u,d,G,p1,q,rfl,rfl,rfl,z,y⟩:=trodAll_cons h;simp only[qAi,qC,qE]at i;have A:=WideElems.Trod_stays (enc:=enc) (sp':=sp) j i.1.1 i.1.2 z (λx b=>hb.same (g x (qH.2 (.inl b)))) (λx b=>f x (qH.2 (.inl b)));exact⟨p1,q,A,BI j hb (by simpa using i.2) y (λx b=>g x (qH.2 (.inr b))) sp (λx b=>f x (qH.2 (.inr b))),rfl⟩
theorem law_contractG{G:List (Nat×AV)}{f:FuncId}{fn:Func}{s:ChangeSpec}{apart fresh r again:Bool}{l:List TT}{X:Wg l->Prop}{rt:TypeId}(hf:∀x:Wg l,X x->af P G f (avs l x) [] ⟨True,.dat .bool true,[]⟩)
  (O:PN P fn.params.toList l=true) (hl:laidOutB P=true) (hrd:(fn.params.toList.all λt=>P.readableRec t&&decide (t<P.types.size))=true)
  (V:fn.resultTypes=#[rt]) (i:P.underlying rt=some .bool) (g:s.vars=[])
  {W:World} {base:Nat} {args:Array Value} {ds gs:List (DataW H)} {before:List MemPlace}
  (y:ds.length=l.length->s.fn H ds={results:=[.lit (.bool true)],args:=ds})
  (L:∀(j:Nat) t v,fn.params[j]?=some t->args[j]?=some v->Value.okWide P W .any base t v)
  (hW:DataW.Whole enc P fn.params.toList s.vars apart W args.toList ds gs before)
  (hX:∀x:Wg l,okL l x->UQ l x<=ko ds->X x) (hG:jG P ⟨W,Nw W,noM,noE⟩ G):
  Calls P f args W λe W'=>∃v,e=.returned v/\s.post enc P fn apart fresh r again W args v W':=by
 obtain⟨p,q,hA,hV,u,hfz,hnd⟩:=id hW;rw[g]at hV;obtain⟨rfl,rfl⟩:=trodVars_none hV;rw[wH]at u;subst u;have hlt:∀x∈before,x.block<W.heap.size:=λx hx=>hW.lt x hx
 obtain⟨x,x1,x2,x3⟩:=A8 (l:=l) O (λj t v h1 h2=>L j t v (by simpa using h1) (by simpa using h2)) hA;have hsl:∀{ts:List TypeId} {l:List TT} {vs:Lv} {ds:List (DataW H)} {p:List MemPlace},PN P ts l=true->DataW.TrodAll enc P W 0 (λ_=>true) true ts vs ds p->ds.length=l.length:=by
  intro ts;induction ts with
  | nil=>
   intro l vs ds p T h;obtain⟨rfl,rfl,rfl⟩:=trodAll_nil h;cases l with
   | nil=>rfl
   | cons _ _=>simp[PN]at T
  | cons t ts ih=>
   intro l vs ds p T h;obtain⟨v,vs',d,ds',p1,q,rfl,rfl,rfl,h1,h2⟩:=trodAll_cons h;cases l with
   | nil=>simp[PN]at T
   | cons _ l=>
    simp only[PN,qC]at T;simp[ih T.2 h2]
 have z:=y (hsl O hA);have A:=(hf x (hX x x2 x3)).data trivial (w:=W) (D:=Nw W) (us:=args.toList) (λb hb=>hb) hG x1;refine A.mono λe W' he=>?_
 obtain⟨v,rfl,hb,Z⟩:=he;have Z:v=.bool true:=by simpa[AV.rel,ah]using Z
 subst Z;refine⟨_,rfl,yb (pa:=before) (pv:=[]) hW hb (λb sp hd=>?_) (λsp hsp=>?_) (λsp _=>?_) (by simp) (ok_one V rfl (okWide_bool_mk i _))⟩
 .rw[wH,z,V];exact trodAll_mk1 (shut_bool i true)
 .rw[wH,z];exact BI hl hb hrd hA hlt sp hsp
 .rw[g,wH,z];exact rfl
theorem laid_strs{n:String}{g:Nat}{ta te m:Nat}{w:World}{xs:List ByteArray}(hg:P.globalNamed n=some g)(ht:(P.globals[g]?).map (·.type)=some ta)(ha:P.underlying ta=some (.array m te))
  (he:P.underlying te=some .string) (hc:P.cellsOf te=1) (hsz:m<=9223372036854775807) (O:0<m) {r:List (String×DataW Unit)} {ps:List MemPlace}
  (h:DataW.LaidVars P w ((n,.agg (xs.map λs=>.lit (.string s.data.toList)))::r) ps):jG P ⟨w,Nw w,noM,noE⟩ [(g,.ia .str xs)]/\∃x,DataW.LaidVars P w r x:=by
 obtain⟨g',t',cs,fuel,p,q',T,L,hv,hd,hr,_⟩:=h;obtain rfl:=wX (hg.symm.trans T);obtain rfl:=wX (ht.symm.trans L);refine⟨λz hz=>?_,q',hr⟩;obtain rfl:=vH.1 hz;obtain⟨ys,f,rfl,G,hlen,hm,V⟩:=DataW.trod_array ha hd;simp only[qBy,DataW.agg.injEq]at G;have hxl:xs.length=m:=by
  have:=yB List.length G.1;simpa[hm]using this
 have cell:∀i (hi:i<m),∃y,xs[i]?=some y/\w.cell? ⟨g,i,none⟩=some (.string y):=by
  intro i hi;have h1:=V i hi;rw[hc,yJ,qB (by omega)]at h1;obtain⟨s,e1,e2,_⟩:=DataW.trod_string he h1;have e:cs[i]?=some (.string s):=by
   have:=yB (·[0]?) e1;simpa[vN,qY]using this
  refine⟨s,?_,by rw[World.var?_cell hg hv];exact e⟩;have v:=yB (·[i]?) G.1;simp only[qO,qB (show i<ys.length by omega),qB (show i<xs.length by omega),zC,wF]at v;rw[e2]at v;simp only[DataW.lit.injEq,Lit.string.injEq]at v;rw[qB (by omega)];have:xs[i].data=s.data:=Array.toList_inj.1 v;cases A:xs[i]with | mk d=>cases s with | mk d'=>rw[A]at this;exact yB some (yB ByteArray.mk this)
 have b:Nw w g:=by
  obtain⟨y,_,e⟩:=cell 0 O;show g<w.heap.size;unfold World.cell? at e;split at e
  .rename_i c t' fr X;exact(vJ.1 X).1
  .cases e
 refine⟨rfl,g,0,rfl,some ⟨g,0,none⟩,xs.length,by rfl,qJ _,(λh=>by cases h),λa' Z _=>by cases Z;rfl,λi y hy=>?_⟩;have hi:=(qG.1 hy).1;obtain⟨y',e1,e2⟩:=cell i (by omega);obtain rfl:=wX (hy.symm.trans e1);refine⟨⟨g,0,none⟩,[.string y],rfl,b,λj u hj=>?_,rfl⟩;have:j=0:=by
  have:=(qG.1 hj).1;simp at this;omega
 subst this;obtain rfl:Value.string y=u:=by simpa using hj
 simpa[Ty.sz]using e2
end
end Go.Eng
