/- Wc1p -/
import Derived.Test.YtecnnbcfgijddaaGreatDoorETPrmE
import Derived.Test.YtecnnbcfgijddaaGreatDoorETPrmZC
import Derived.Test.YtecnnbcfgijddaaGreatDoorETPrmZJ
import Derived.Test.YtecnnbcfgijddaaGreatDoorETPrmZL
set_option linter.unusedSimpArgs false
set_option linter.unusedVariables false
set_option maxRecDepth 100000
noncomputable section
namespace Go.Eng.Sv
open Go.Proofs
def fbF(b:Bool):ByteArray:=if b=true then⟨#[116,114,117,101]⟩else⟨#[102,97,108,115,101]⟩
def tY(l:Li)(k:Int):List ByteArray:=(l.take k.toNat).map iaF
def upTo'(l:Li)(k:Int):Prop:=0<=k/\k<=l.length
def adP(l:Li)(xs:List ByteArray)(k:Nat):Prop:=(xs.length=k/\xs.length+l.length<=1000000)/\∀x∈l,inR .i64 x
def DF(lo:Bool)(st:List Stop)(si:Li)(k:Int):List ByteArray:=[fbF lo]++[(st.length:Int),si.length].map iaF++(st.take k.toNat).flatMap λs=>[s.1,s.2.1,s.2.2.1,s.2.2.2].map iaF
def aBy(lo:Bool)(st:List Stop)(si:Li)(h f:List ByteArray):ByteArray:=joF (DF lo st si st.length++si.map iaF++h++f) ⟨#[32]⟩
def wrP(t:Trk):Prop:=Top.trB t=true
def aD8(ts:List Trk)(lb:ByteArray)(k:Int):Prop:=(0<=k/\k<=ts.length)/\∀j:Nat,(j:Int)<k->∀t,ts[j]?=some t->Fz t.1.1 lb=false
def idP(ts:List Trk):Prop:=ts.length<=1000000
def mf(ts:List Trk)(lb:ByteArray):Int:=if ts.findIdx (λt=>Fz t.1.1 lb)<ts.length then ts.findIdx (λt=>Fz t.1.1 lb)else -1
def upS(l:List Stop)(k:Int):Prop:=0<=k/\k<=l.length
def nThe(ts:List Trk)(k:Int):Trk:=ts.getD k.toNat ((⟨#[]⟩,0,0,0,0),[],false,[],[],[])
def wrt(t:Trk):ByteArray:=aBy t.2.2.1 t.2.1 t.2.2.2.1 t.2.2.2.2.1 t.2.2.2.2.2
def dpF(x:Post):oC:=(1,x.2.2.2.2,x.1,x.2.1,x.2.2.1,x.2.2.2.1,x.2.2.2.2,⟨#[]⟩,⟨#[]⟩,0)
def alF(n:Net)(nx:Lj)(x:Post):List Trk:=iY n nx (fU [dpF x])
def alE(n:Net)(nx:Lj)(x:Post):Int:=I3 n nx (fU [dpF x])
def Zg(n:Net)(nx:Lj)(ds:List oC)(lb:ByteArray):Bool:=decide (I3 n nx (fU ds)=0)&&decide (0<=mf (iY n nx (fU ds)) lb)&&decide (alE n nx (nThe (iY n nx (fU ds)) (mf (iY n nx (fU ds)) lb)).1=0) &&
 Fz (wrt (nThe (iY n nx (fU ds)) (mf (iY n nx (fU ds)) lb))) (wrt (nThe (alF n nx (nThe (iY n nx (fU ds)) (mf (iY n nx (fU ds)) lb)).1) 0))
def aEh(n:Net)(nx:Lj)(ds:List oC):Prop:=I1 n nx (fU ds)
def wdM(k:Nat)(xs:List ByteArray):Mem:=[(1,.var [.buf 0 k]),(0,.buf 9 S xs [])]
abbrev ME:=az [.val .bool] (λ_=>True) λ(b,_)=>.dat .str (fbF b)
def KC0:Kt:=kOr 113 ME KY1
abbrev SG:=az [.val .bool] (λ_=>True) λ(b,_)=>.dat .str (fbF b)
abbrev MG:=az [.row Tk,.ptr S] (λ_=>True) λ(t,f,_)=>.dat .bool (Fz t.1.1 f)
abbrev G2:=az [.val I] (λ(k,_)=>inR .i64 k) λ(k,_)=>.dat .str (iaF k)
def KC1:Kt:=kOr 55 SG <|
 kOr 53 MG <|
 kOr 57 G2 KY1
def aG1(ts:List Trk)(lb:ByteArray):Ann:=Z8 2 Int (aD8 ts lb) (λs k=>put s [(8,.dat I k)]) λk=>Dc (Dk (Dh ts) k)
def aGP(l:Li)(xs:List ByteArray):Ann:=Z8 1 Int (upTo' l) (λs j=>{put (flat s) [(7,.dat I j)]with mem:=wdM (Ed (Dl xs) (Dl (tY l j))) (Ei xs (tY l j))}) λj=>Dc (Dk (Dh l) j)
def KC2:Kt:=kOr 52 (λargs m=>match args,m with
 |[a,.fn 53 [.ip .str lb]],[]=>(match ofK [.val (.sl Tk)] [a]with
  |some (ts,_)=>some ⟨idP ts,.dat I (mf ts lb),[]⟩|none=>none)
 |_,_=>none)<|kOr 56 (λargs m=>match args,m with
 |[.dat (.sl (.int .i64)) l,.ptr 1 1 0 0],[(1,.var [.buf 0 k]),(0,.buf 9 .str xs [])]=>some ⟨adP l xs k,.tup [],wdM (Ed k (Dl (tY l (Dh l)))) (Ei xs (tY l (Dh l)))⟩|_,_=>none)<|kOr 58 (λargs m=>match args,m with
 |[.buf 0 k,.dat .str s],[(0,.buf 9 .str xs [])]=>some ⟨joP xs k s,.dat .str (joF xs s),[]⟩|_,_=>none) KC1
def aGO(lo:Bool)(st:List Stop)(si:Li):Ann:=Z8 5 Int (upS st) (λs j=>{put (flat s) [(24,.dat I j)]with mem:=wdM (Dl (DF lo st si j)) (DF lo st si j)}) λj=>Dc (Dk (Dh st) j)
def mkw(K:Kt):Cfg:={mkc K with mb:=λt=>t==3||t==10}
abbrev LL:=az [.row Tk] (λ(t,_)=>wrP t) λ(t,_)=>.dat .str (aBy t.2.2.1 t.2.1 t.2.2.2.1 t.2.2.2.2.1 t.2.2.2.2.2)
def KC3:Kt:=kOr 54 LL KC2
theorem aCa:eO 57 G2:=ae λ((k:Int),_)=>by
 intro y w D E us L G f hH;obtain⟨u,_,rfl,A,rfl⟩:=f;cases(A:[u]=[Value.int .i64 k]);refine(Zi (Yy G) y.1 y.2).mono ?_;rintro e w' ⟨rfl,z⟩;exact⟨_,D,E,rfl,⟨(Chg.refl _ _).below z,λ_ h=>h,λ_ h=>.inl h,λb h=>qI (L b h) z.size,Held.none _ _ _ _,λj b X g=>(by cases g),λj b X g=>(by cases g),λj b _ g=>(by cases g),λj i b g=>(gn g).elim⟩,rfl⟩
theorem aFa:eO 113 ME:=ae λ((b:Bool),_)=>zE (A:=aE) (p:=(True->(b->ByteArray.mk #[(116:UInt8),(114:UInt8),(117:UInt8),(101:UInt8)]=fbF b/\True)/\(b=false->ByteArray.mk #[(102:UInt8),(97:UInt8),(108:UInt8),(115:UInt8),(101:UInt8)]=fbF b/\True))) Zt λ_=>⟨λh=>⟨by subst h;rfl,trivial⟩,λh=>⟨by subst h;rfl,trivial⟩⟩
theorem aHf:ay Tryz.prog G0 KC0:=ah aFa Zt
theorem aGS:eO 55 SG:=ae λ((b:Bool),_)=>zE (A:=aE) (p:=(True->True/\T5 (fbF b))) aHf λ_=>⟨trivial,rfl,trivial⟩
theorem aFc:eO 53 MG:=ae λ((t:Trk),(f:ByteArray),_)=>zE (A:=aE) (p:=(True->T5 (Fz t.1.1 f))) Zt λ_=>⟨rfl,trivial⟩
theorem aGb:ay Tryz.prog G0 KC1:=ah aGS<|ah aFc<|ah aCa Zt
theorem aE3(ts:List Trk)(lb:ByteArray):aj Tryz.prog G0 52 [.dat (.sl Tk) ts,.fn 53 [.ip .str lb]] [] ⟨idP ts,.dat I (mf ts lb),[]⟩:=by
 refine zE (A:=(lvA [(2,[0,1,4,5,7,8])] (aG1 ts lb))) (p:=let f:=Dh ts;(idP ts->(∃x,aD8 ts lb x/\Q3 ts lb f (0=x/\True))/\∀(x:Int),let c2:=Fz (Dw ts (Dc x) ((ByteArray.mk #[],(0:Int),(0:Int),(0:Int),(0:Int)),Du (Int×Int×Int×Int),false,Du Int,Du ByteArray,Du ByteArray)).1.1 lb;let c3:=x+1;aD8 ts lb x->(Dn x f->0<=x/\x<f/\True/\(c2->x=mf ts lb/\True)/\(c2=false->inR IntKind.i64 c3/\∃y,aD8 ts lb y/\(Q3 ts lb f (c3=y/\True))/\Dc (f-y)<Dc (f-x)))/\(Dn x f=false->(-1:Int)=mf ts lb/\True))) aGb λhp=>?_;have hp:ts.length<=1000000:=hp;refine Z9 ?_;refine⟨⟨⟨qL 0,qR _⟩,λj h=>Z⟩,λx ⟨hx,L⟩=>⟨λz=>⟨hx.1,z,λu=>?_,λu=>⟨jk Z,x+1,⟨⟨Z,Z⟩,λj hj t X=>?_⟩,rfl,Z⟩⟩,λhge=>?_⟩⟩;have G:x.toNat<ts.length:=by omega
 rw[qA,qB G]at u;have e:ts.findIdx (λt=>Fz t.1.1 lb)=x.toNat:=(List.findIdx_eq G).2 ⟨yJ.2 u,λj hj=>L j Z _ (qB _)⟩;unfold mf;rw[e,if_pos G];omega;by_cases h:(j:Int)<x;exact L j h t X;obtain rfl:j=x.toNat:=by omega
 rw[qA,X]at u;exact kW.2 u;unfold mf;rw[if_neg];intro h;have h1:=List.findIdx_getElem (w:=h);rw[L _ Z _ (qB h)]at h1;cases h1
theorem aBi{l:Li}{k:Int}(h:upTo' l k):(tY l k).length=k.toNat:=by
 unfold tY;rw[vT,qM];have:=h.1;have:=h.2;omega
theorem Yj{l:Li}{k:Int}(h:0<=k)(f:k<l.length):tY l (k+1)=tY l k++[iaF (l.getD k.toNat 0)]:=by
 unfold tY;rw[show(k+1).toNat=k.toNat+1 by omega,wW,qA,qB (show k.toNat<l.length by omega),wV];rfl
theorem aFj(l:Li)(xs:List ByteArray)(k:Nat):aj Tryz.prog G0 56 [.dat R l,.ptr 1 1 0 0] (wdM k xs) ⟨adP l xs k,.tup [],wdM (Ed k (Dl (tY l (Dh l)))) (Ei xs (tY l (Dh l)))⟩:=by
 refine zE (A:=(lvA [(1,[1,4,5,6,7])] (aGP l xs))) (p:=let c1:=tY l (Dh l);let c2:=Ei xs c1;(adP l xs k->1=1/\Dl xs<=Dl c2/\(∃x,upTo' l x/\T6 1 0 0 l (Dh l) (0=x/\k=Dl xs+Dl (tY l x)/\xs=Ei xs (tY l x)/\k7 1 (Dl xs)))/\∀(x:Int),let c3:=Dn x (Dh l);let X:=Dw l (Dc x) 0;let z:=Ei xs (tY l x);let f:=Dl xs+Dl (tY l x);let u:=[iaF X];let j:=f+Dl u;let A:=Ei z u;let h:=x+1;upTo' l x->(c3->0<=x/\x<Dh l/\L7 1 0 (inR .i64 X/\Dl z=f/\(j*16)<=140737488355328/\j<=9223372036854775807/\L7 1 0 (Dl A=j/\inR .i64 h/\∃y,upTo' l y/\(T6 1 0 0 l (Dh l) (h=y/\j=Dl xs+Dl (tY l y)/\A=Ei xs (tY l y)/\k7 1 (Dl xs)))/\Dc (Dh l-y)<Dc (Dh l-x))))/\(c3=false->f=k+Dl c1/\z=c2/\k7 1 (Dl xs)))) aGb λ⟨⟨hk,hr⟩,hl⟩=>?_;refine Z9 ?_;simp only[qc,qG,qX];have eN:upTo' l l.length:=⟨qR _,qL _⟩;refine⟨Z,⟨0,⟨qL _,qR _⟩,rfl,by show k=xs.length+0;omega,(vZ _).symm⟩,λx u=>⟨λf=>?_,λhge=>?_⟩⟩;have G:=u.1;have e1:=aBi u;have L:=Yj G f;refine⟨G,f,hl _ (getD_mem Z),Z,Z,jk Z,x+1,⟨Z,Z⟩,⟨rfl,by rw[L,qG];rfl,by rw[L,wQ]⟩,Z⟩;obtain rfl:x=l.length:=by have:=u.2;omega
 exact⟨Z,rfl⟩
theorem aGC:ay Tryz.prog G0 KC2:=ah (λargs m c h=>by
  split at h;split at h;rename_i lb _ ts _ j;cases h;refine(aE3 ts lb).args λC L _ y=>?_;obtain⟨u,f,rfl,A,z⟩:=y;obtain⟨v,_,e,G,rfl⟩:=ie j ⟨u,[],rfl,A,rfl⟩;cases e;exact⟨_,_,rfl,G,z⟩;cases h;cases h)<|ah (λargs m c h=>by
  split at h;cases h;exact aFj _ _ _;cases h)<|ah (λargs m c h=>by
  split at h;cases h;exact aB9 _ _ _;cases h) aGb
theorem aBj{l:Li}:tY l l.length=l.map iaF:=by
 unfold tY;rw[qO Z]
theorem aC9{l:List Stop}{f:Stop->List ByteArray}(h:∀s,(f s).length=4):(l.flatMap f).length=4*l.length:=by
 induction l with
 |nil=>rfl|cons a l j=>rw[yZ,qG,j,h,wH];omega
theorem IN{lo:Bool}{st:List Stop}{si:Li}{k:Int}(h:upS st k):(DF lo st si k).length=3+4*k.toNat:=by
 unfold DF;rw[qG,aC9 (λ_=>rfl),qM];have:=h.1;have:=h.2;show 3+4*min k.toNat st.length=_;omega
theorem U5{lo:Bool}{st:List Stop}{si:Li}{k:Int}(h:0<=k)(f:k<st.length):DF lo st si (k+1)=DF lo st si k++[(st.getD k.toNat (0,0,0,0)).1,(st.getD k.toNat (0,0,0,0)).2.1,(st.getD k.toNat (0,0,0,0)).2.2.1,(st.getD k.toNat (0,0,0,0)).2.2.2].map iaF:=by
 unfold DF;rw[show(k+1).toNat=k.toNat+1 by omega,wW,qA,qB (show k.toNat<st.length by omega),kK,wQ];rfl
theorem U4{lo:Bool}{st:List Stop}{si:Li}{k:Int}:∀s∈DF lo st si k,s.size<=1000:=by
 unfold DF;simp only[qJ,qW,vU,yU];rintro s ((rfl|⟨x,_,rfl⟩)|⟨_,_,x,_,rfl⟩);cases lo<;>decide;have:=MO x;omega;have:=MO x;omega
theorem aED:eO 54 LL:=ae λ((t:Trk),_)=>by
 obtain⟨⟨x1,x2,x3,x4,x5⟩,f,lo,si,la,se⟩:=t;refine zF (c:=mkw KC2) (A:=(lvA [(5,[1,2,3,4,6,22,23,24])] (aGO lo f si))) aGC sJ hm (p:=let L:=ByteArray.mk #[(32:UInt8)];let c1:=(f,lo,si,la,se);let c2:=[fbF lo];let c3:=Dl c2;let G:=Dh f;let c5:=[G,Dh si];let X:=tY c5 (Dh c5);let c7:=Ei c2 X;let c8:=(x1,x2,x3,x4,x5,c1);let c10:=tY si (Dh si);true/\(wrP ((x1,x2,x3,x4,x5),c1)->True/\L7 1 0 (c3=1/\adP c5 c2 1/\1=1/\c3<=Dl c7/\(∃x,let c11:=DF lo f si x;upS f x/\L4 c8 (ByteArray.mk #[]) 1 0 0 1 0 0 f (G=G/\0=x/\1+Dl X=Dl c11/\c7=c11/\True))/\∀(x:Int),let h:=Dw f (Dc x) ((0:Int),(0:Int),(0:Int),(0:Int));let A:=[h.1,h.2.1,h.2.2.1,h.2.2.2];let z:=DF lo f si x;let j:=Dl z;let c18:=tY A (Dh A);let c19:=Ei z c18;let c20:=x+1;let c21:=Ei z c10;let c22:=j+Dl c10;let u:=c22+Dl la;let c24:=Ei c21 la;let c25:=u+Dl se;let c26:=Ei c24 se;upS f x->(Dn x G->0<=x/\x<G/\L4 1 0 1 1 0 1 1 0 1 (T6 1 0 1 1 0 (adP A z j/\1=1/\j<=Dl c19/\inR .i64 c20/\∃y,let c27:=DF lo f si y;upS f y/\(L4 c8 (ByteArray.mk #[]) 1 0 0 1 0 0 f (G=G/\c20=y/\j+Dl c18=Dl c27/\c19=c27/\True))/\Dc (G-y)<Dc (G-x))))/\(Dn x G=false->adP si z j/\1=1/\j<=Dl c21/\L7 1 0 (Dl c21=c22/\(u*16)<=140737488355328/\u<=9223372036854775807/\L7 1 0 (Dl c24=u/\L7 1 0 (Dl c24=u/\(c25*16)<=140737488355328/\c25<=9223372036854775807/\joP c26 c25 L/\joF c26 L=aBy lo f si la se/\True))))))) ⟨rfl,λhp=>?_⟩
 refine Z9 ?_;simp only[qc,qG,qX];have hp:Top.trB _=true:=hp;unfold Top.trB at hp;simp only[qC,qF,qU]at hp;obtain⟨⟨⟨⟨⟨⟨⟨⟨a1,a2⟩,a3⟩,a4⟩,b1⟩,b2⟩,b3⟩,b4⟩,_⟩:=hp;have hB:∀{k:Int},Top.bB k=true->inR .i64 k:=λ{k} h=>by
  unfold Top.bB at h;simp only[qC,qF]at h;exact jk Z
 have hZ:∀{s:ByteArray},Top.zB s=true->s.size<=1000:=λh=>vJ h;have eN:∀l:Li,tY l (l.length:Int)=l.map iaF:=λ_=>aBj;simp only[eN,vT];have z0:upS f 0:=⟨qL 0,qR _⟩;refine⟨⟨⟨rfl,by show 1+2<=_;omega⟩,λx X=>?_⟩,Z,⟨0,z0,rfl,(IN z0).symm,by unfold DF;simp⟩,λx X=>⟨λhlt=>?_,λhge=>?_⟩⟩;simp only[wY,List.not_mem_nil,or_false]at X;rcases X with rfl|rfl<;>exact jk Z;have h0:=X.1;have e1:=IN (lo:=lo) (si:=si) X;have e2:=U5 (lo:=lo) (si:=si) h0 hlt;obtain⟨⟨⟨s1,s2⟩,s3⟩,s4⟩:=b1 _ (getD_mem (l:=f) (i:=x.toNat) (d:=(0,0,0,0)) Z);refine⟨h0,hlt,⟨⟨rfl,by show _+4<=_;omega⟩,λy hy=>?_⟩,Z,jk Z,x+1,⟨Z,Z⟩,⟨rfl,by rw[e2,qG];rfl,e2.symm⟩,Z⟩;simp only[wY,List.not_mem_nil,or_false]at hy;rcases hy with rfl|rfl|rfl|rfl<;>apply hB<;>assumption;obtain rfl:x=f.length:=by have:=X.2;omega
 have e1:=IN (lo:=lo) (si:=si) X;refine⟨⟨⟨rfl,Z⟩,λy hy=>hB (b2 y hy)⟩,Z,Z,Z,Z,Z,⟨by simp only[qG,vT],by simp only[qG,vT];omega,by decide,λs L=>?_⟩,rfl⟩;simp only[qJ,vU]at L;rcases L with((L|⟨y,_,rfl⟩)|L)|L;exact U4 s L;have:=MO y;omega;exact hZ (b3 s L);exact hZ (b4 s L)
theorem aHe:ay Tryz.prog G0 KC3:=ah aED aGC
theorem aC4{ts:List Trk}{lb:ByteArray}:mf ts lb<0\/mf ts lb<ts.length:=by
 unfold mf;split<;>omega
theorem gD(lb:ByteArray)(ds:List oC)(p1 p2:Int)(nx:Lj)(dy:List (Lj))(G:LC)(j f:LB)(z:Lo)(u:Ll)(y:Lk):aj Tryz.prog G0 16 [net G j f z u y,.agg [.dat I p1,.dat I p2,.dat M nx,.dat (.sl M) dy],.dat (.sl Df) ds,.dat .str lb] [] ⟨aEh (G,j,f,z,u,y) nx ds,.dat .bool (Zg (G,j,f,z,u,y) nx ds lb),[]⟩:=by
 refine zE (A:=aE) (p:=let c1:=(G,j,f,z,u,y);let c2:=Ea (I3 c1 nx (fU ds)) 0;let c3:=Zg c1 nx ds lb;let c4:=iY c1 nx (fU ds);let c5:=mf c4 lb;let h:=Dn c5 0;let A:=((ByteArray.mk #[],(0:Int),(0:Int),(0:Int),(0:Int)),Du (Int×Int×Int×Int),false,Du Int,Du ByteArray,Du ByteArray);let c8:=Dw c4 (Dc c5) A;let c18:=fU [((1:Int),c8.1.2.2.2.2,c8.1.1,c8.1.2.1,c8.1.2.2.1,c8.1.2.2.2.1,c8.1.2.2.2.2,ByteArray.mk #[],ByteArray.mk #[],(0:Int))];let c19:=Ea (I3 c1 nx c18) 0;let c29:=iY c1 nx c18;let X:=Dw c29 (Dc 0) A;(aEh c1 nx ds->I1 c1 nx (fU ds)/\(c2->false=c3/\True)/\(c2=false->idP c4/\(h->false=c3/\True)/\(h=false->0<=c5/\c5<Dh c4/\T7 1 0 1 1 0 1 0 (I1 c1 nx c18/\(c19->false=c3/\True)/\(c19=false->0<=c5/\c5<Dh c4/\wrP c8/\Dp 0 0/\0<Dh c29/\wrP X/\Fz (aBy c8.2.2.1 c8.2.1 c8.2.2.2.1 c8.2.2.2.2.1 c8.2.2.2.2.2) (aBy X.2.2.1 X.2.1 X.2.2.2.1 X.2.2.2.2.1 X.2.2.2.2.2)=c3/\True)))))) aHe λhp=>?_;obtain⟨hs,ht,hd⟩:=id (hp:I1 _ _ _);have hl:(iY (G,j,f,z,u,y) nx (fU ds)).length<=120:=Top.QY;have ha:∀{t:Trk},t∈iY (G,j,f,z,u,y) nx (fU ds)->wrP t/\I1 (G,j,f,z,u,y) nx (fU [dpF t.1]):=λh=>⟨Top.EN h,hs,ht,Top.Yg hd h⟩;refine Z9 ?_;have hx:=aC4 (ts:=iY (G,j,f,z,u,y) nx (fU ds)) (lb:=lb);unfold Zg;generalize hL:iY (G,j,f,z,u,y) nx (fU ds)=L at *;generalize hi:mf L lb=i at *;refine⟨hp,λh=>?_,λhe=>⟨by show _<=_;omega,λh=>?_,λh=>?_⟩⟩;rw[qV h];rfl;rw[show decide (0<=i)=false from qV Z,kR];rfl;have hn:i.toNat<L.length:=Z;obtain⟨h1,h2⟩:=ha (wM hn);have hg:∀d,L.getD i.toNat d=L[i.toNat]:=λd=>by rw[qA,qB hn];rfl
 have hT:nThe L i=L[i.toNat]:=hg _;simp only[hg];rw[hT,he,show decide (0<=i)=true from qP Z];generalize L[i.toNat]=t at *;obtain⟨⟨x1,x2,x3,x4,x5⟩,st,lo,si,la,se⟩:=t;refine⟨Z,Z,h2,λh=>?_,λh0=>?_⟩;rw[show decide (alE (G,j,f,z,u,y) nx _=0)=false from qV h];rfl;have h3:(alF (G,j,f,z,u,y) nx (x1,x2,x3,x4,x5)).length=1:=Top.Uz h0;have h3':(iY (G,j,f,z,u,y) nx (fU [dpF (x1,x2,x3,x4,x5)])).length=1:=h3;refine⟨Z,Z,h1,qL 0,?_,?_,?_⟩;show(0:Int)<((iY (G,j,f,z,u,y) nx (fU [dpF (x1,x2,x3,x4,x5)])).length:Int);rw[h3'];decide;have hz:(0:Int).toNat<(alF (G,j,f,z,u,y) nx (x1,x2,x3,x4,x5)).length:=by rw[h3];decide
 show wrP (nThe (alF (G,j,f,z,u,y) nx (x1,x2,x3,x4,x5)) 0);unfold nThe;rw[qA,qB hz];exact Top.EN (wM hz);rw[show decide (alE (G,j,f,z,u,y) nx _=0)=true from qP h0];rfl
end Go.Eng.Sv
namespace Go.Eng.Top
open Go.Proofs
open Go.Eng.Sv (Net Stop Trk nxt iV IE yy lK xF NA ja IK dvD Yt Ko UY PO DK PN rW BZ vL aZ nC da cw DJ BD Ja ti oI iL lJ jf je TM oL uA Ah mU gA iaF fbF joF DF aBy wrt)
open Go.Eng.In (Acc ai Ab Ai DV)
theorem aCP{its:List Itm}(h:(PG its).Nodup){i j:Itm}(z:i∈its)(y:j∈its)(e:i.post.1=j.post.1):i=j:=by
 unfold PG PE at h;rw[qBb]at h;induction its with
 |nil=>cases z
 |cons a l A=>
  rw[wR,List.nodup_cons]at h;rcases wY.1 z with u|u;rcases wY.1 y with f|f;rw[u,f];exact absurd (vU.2 ⟨j,f,by show j.post.1=a.post.1;rw[<- e,u]⟩) h.1;rcases wY.1 y with f|f;exact absurd (vU.2 ⟨i,u,by show i.post.1=a.post.1;rw[e,f]⟩) h.1;exact A h.2 u f
def bts(s:ByteArray):List UInt8:=s.data.toList
theorem aC5{k:Int}(h:bB k=true):bts (iaF k)=Go.Lib.itoa k:=by
 unfold bB at h;simp only[qC,qF]at h;unfold iaF bts;rw[if_pos Z]
def four(s:Stop):Li:=[s.1,s.2.1,s.2.2.1,s.2.2.2]
theorem MW:∀{l m:List Stop},l.flatMap four=m.flatMap four->l=m
 |[],[],_=>rfl|[],_::_,h=>by simp[four]at h|_::_,[],h=>by simp[four]at h|(a,b,c,d)::l,(u,j,f,d')::m,h=>by
  simp only[yZ,four,qAs,xI,vF]at h;obtain⟨rfl,rfl,rfl,rfl,h⟩:=h;rw[MW h]
theorem MV{l:List Stop}:(l.flatMap four).length=4*l.length:=by
 induction l with
 |nil=>rfl|cons a l f=>rw[yZ,qG,f,wH];show 4+_=_;omega
theorem Y8{l:Li}(h:∀k∈l,bB k=true):(l.map iaF).map bts=l.map Go.Lib.itoa:=by
 rw[qBb];exact zS λk f=>aC5 (h k f)
theorem ZC{t:Trk}(h:trB t=true):(DF t.2.2.1 t.2.1 t.2.2.2.1 t.2.1.length).map bts=bts (fbF t.2.2.1)::([(t.2.1.length:Int),t.2.2.2.1.length].map Go.Lib.itoa++(t.2.1.flatMap four).map Go.Lib.itoa):=by
 unfold trB at h;simp only[qC,qF,qU]at h;obtain⟨⟨⟨⟨⟨⟨⟨⟨a1,a2⟩,a3⟩,a4⟩,u⟩,b2⟩,X⟩,L⟩,_⟩:=h;have e:(t.2.1.flatMap λs=>[s.1,s.2.1,s.2.2.1,s.2.2.2].map iaF)=(t.2.1.flatMap four).map iaF:=by rw[List.map_flatMap];rfl
 unfold DF;rw[qO Z,e,wV,wV,Y8,Y8];rfl;intro k f;obtain⟨s,j,f⟩:=yU.1 f;obtain⟨⟨⟨G,A⟩,z⟩,y⟩:=u s j;simp only[four,wY,List.not_mem_nil,or_false]at f;rcases f with rfl|rfl|rfl|rfl<;>assumption;intro k f;simp only[wY,List.not_mem_nil,or_false]at f;unfold bB;simp only[qC,qF];rcases f with rfl|rfl<;>omega
theorem ZB{t u:Trk}(L:trB t=true)(hu:trB u=true)(nt:t.2.2.2.1≠[])(nu:u.2.2.2.1≠[])(h:bts (wrt t)=bts (wrt u)):t.2.2.1=u.2.2.1/\t.2.1=u.2.1/\t.2.2.2.1.length=u.2.2.2.1.length:=by
 have y:∀{t:Trk},trB t=true->bts (wrt t)=Go.Lib.join (bts (fbF t.2.2.1)::([(t.2.1.length:Int),t.2.2.2.1.length].map Go.Lib.itoa++((t.2.1.flatMap four).map Go.Lib.itoa++((t.2.2.2.1.map iaF).map bts++(t.2.2.2.2.1.map bts++t.2.2.2.2.2.map bts))))) [32]:=λ{t} L=>by
  show Go.Lib.join ((DF _ _ _ _++_++_++_).map bts) _=_;rw[wV,wV,wV,ZC L];simp only[wQ,qAs]
 rw[y L,y hu]at h;have ne:∀{l:Li}{r:List (List UInt8)},l≠[]->(l.map iaF).map bts++r≠[]:=λ{l r} hl e=>by simp[hl]at e
 have G:=ne (r:=t.2.2.2.2.1.map bts++t.2.2.2.2.2.map bts) nt;have A:=ne (r:=u.2.2.2.2.1.map bts++u.2.2.2.2.2.map bts) nu;have j:∀b:Bool,∀x∈bts (fbF b),x≠32:=λb=>by cases b<;>decide
 have z:∀{a b:List (List UInt8)},b≠[]->a++b≠[]:=λh e=>h (qAi.1 e).2;obtain⟨X,f⟩:=mP (List.cons_ne_nil _ _) (List.cons_ne_nil _ _) (j _) (j _) h;have h3:=vR (l:=[(t.2.1.length:Int),t.2.2.2.1.length]) (m:=[(u.2.1.length:Int),u.2.2.2.1.length]) (z G) (z A) rfl f;simp only[vF,wB]at h3;obtain⟨h4,h5⟩:=h3;rw[h4,h5]at f;obtain⟨_,f⟩:=mP (List.cons_ne_nil _ _) (List.cons_ne_nil _ _) (mQ _) (mQ _) f;obtain⟨_,f⟩:=mP (z G) (z A) (mQ _) (mQ _) f;have h6:=vR G A (by rw[MV,MV];omega) f;refine⟨?_,MW h6,Z⟩;generalize t.2.2.1=a at X;generalize u.2.2.1=b at X;cases a<;>cases b<;>first|rfl|exact absurd X (by decide)
theorem base_of{n:Net}{nx:Lj}{x:Pst}(hs:aZ n=true)(ht:nC n nx=true)(h0:0<=x.2.2.1)(h1:x.2.2.1<n.2.2.2.1.length):Base' n nx x:=by
 obtain⟨G,j,f,A,u,y⟩:=n;have L:=gA G j f A u y hs;refine⟨λl t X=>TM G j f A u y hs X,λo o0 o1 h=>?_,λo o0 o1 t=>?_,λl X=>?_,λl t X he=>?_⟩;obtain⟨_,_,z⟩:=oL G j f A u y ht o0 o1 h0 h1;exact⟨L,(z h).1.1,(z h).1.2⟩;have:=(uA G j f A u y (t:=t) ⟨L,o0,o1⟩).1;omega;obtain⟨_,_,h1,h2,_,_,z,_⟩:=Ah G j f A u y X;exact⟨h1,h2,z⟩;obtain⟨h1,h2,z,h4⟩:=mU G j f A u y X he;exact⟨z,Z⟩
theorem PX{n:Net}{nx:Lj}{tz:Int}:∀(k:Nat) (o t:Int),(iV n nx tz k o t).2=0->∃s:Stop,(iV n nx tz k o t).1.getLast?=some s/\s.1=tz/\s.2.2.1=-1
 |k,o,t,h=>by
  by_cases f:o=tz;rw[oI k f];exact⟨_,rfl,f,rfl⟩;obtain⟨j,rfl,L,G,y,u⟩:=s7 f h;obtain⟨s,A,z⟩:=PX j _ _ y;refine⟨s,?_,z⟩;rw[u,List.getLast?_cons,A];rfl
theorem LH{l:List Stop}{s:Stop}(h:l.getLast?=some s):ja l=s:=by
 unfold ja;rw[List.getLast?_eq_getElem?]at h;rw[qA,h];rfl
theorem OA{n:Net}{l:Li}{ds:List Sv.oC}{t:Trk}(hn:Ab n)(ll:Ai l)(ac:Acc n l)(hs:aZ n=true)(ht:nC n (ai l).2.2.1=true)(hd:da n (Sv.fU ds)=true)
  (he:KR n (ai l).2.2.1 (Sv.fU ds)=0) (hm:t∈td n (ai l).2.2.1 (Sv.fU ds)) (y:Sv.Zg n (ai l).2.2.1 ds t.1.1=true):vL n (ai l) t=true:=by
 have tm:=EN hm;obtain⟨f,hr,hL⟩:=gC he;rw[hL]at hm;obtain⟨i,hi,rfl⟩:=vU.1 hm;unfold Sv.Zg at y;rw[show Sv.iY n (ai l).2.2.1 (Sv.fU ds)=f.map dP from hL]at y;simp only[qC,qF]at y;obtain⟨⟨⟨_,hx⟩,hz⟩,hw⟩:=y;have key:Sv.nThe (f.map dP) (Sv.mf (f.map dP) (dP i).1.1)=dP i:=by
  unfold Sv.mf at hx ⊢;by_cases u:(f.map dP).findIdx (λt=>Fz t.1.1 (dP i).1.1)<(f.map dP).length;case neg=>rw[if_neg u]at hx;exact absurd hx (by decide)
  rw[if_pos u];have h1:=List.findIdx_getElem (w:=u);unfold Sv.nThe;rw[zJ,qA,qB u,vK];rw[List.getElem_map]at h1 ⊢;rw[aCP (YG hd hr).1 (wM _) hi (Qb (yJ.1 h1))]
 rw[key]at hz hw;unfold vL;cases hc:rW n (ai l) (dP i).1 with
 |false=>rfl|true=>
 cases A:BZ n (ai l) (dP i).1 with
 |false=>rfl|true=>
 show(IK n (dP i)&&decide (dvD n (dP i)<=PN n (ai l).2.2.2 (dP i).1))=true;unfold rW at hc;simp only[qC,qF,zD,wJ]at hc;obtain⟨⟨⟨⟨⟨c1,c2⟩,z⟩,c4⟩,c5⟩,c6⟩:=hc;unfold BZ at A;have A:=vJ A;have ex:(dP i).1=i.post:=rfl;rw[ex]at c1 c2 z c4 c5 c6 A;have h:lK n (ai l).2.2.1 i.post.2.1 i.post.2.2.1 i.post.2.2.2.2=true:=by
  cases e:lK n (ai l).2.2.1 i.post.2.1 i.post.2.2.1 i.post.2.2.2.2 with
  |true=>rfl|false=>unfold NA at z;rw[e]at z;cases z
 have eL:xF n (ai l).2.2.1 i.post.2.1 i.post.2.2.1 i.post.2.2.2.2=IE n (ai l).2.2.1 i.post.2.1 i.post.2.2.1 i.post.2.2.2.2:=if_pos h;have eE:yy n (ai l).2.2.1 i.post.2.1 i.post.2.2.1 i.post.2.2.2.2=0:=by unfold NA at z;rw[if_pos h]at z;exact z
 unfold lK cw at h;simp only[qC,qF]at h;obtain⟨⟨⟨w1,w2⟩,_⟩,_⟩:=h;have hz:KR n (ai l).2.2.1 [dpO i.post]=0:=hz;obtain⟨its2,hr2,X⟩:=gC hz;obtain⟨j,rfl,p1,g1,g3,p4,p5⟩:=Q5 (base_of hs ht w2.1 w2.2) eE w1 hr2;have e0:Sv.nThe (Sv.alF n (ai l).2.2.1 (dP i).1) 0=dP j:=by
  show Sv.nThe (td n (ai l).2.2.1 [dpO i.post]) 0=_;rw[X];rfl
 rw[e0]at hw;have tj:trB (dP j)=true:=EN (by rw[X];exact qW.2 rfl);have sn:∀k:Itm,(dP k).2.2.2.1≠[]:=λk e=>by
  have:k.sL++[k.sn]=[]:=e;simp at this
 obtain⟨f1,f2,f3⟩:=ZB tm tj (sn i) (sn j) (zX bts (Qb (yJ.1 hw)));have f3:(dP i).2.2.2.1.length=(j.sL++[j.sn]).length:=f3;rw[p5]at f3;have f4:(dP i).2.2.2.2.1=[i.post.1]:=by
  unfold trB at tm;simp only[qC,qF]at tm;exact tm.2 f3
 have f1:(dP i).2.2.1=false:=f1.trans g3;have f2:(dP i).2.1=IE n (ai l).2.2.1 i.post.2.1 i.post.2.2.1 i.post.2.2.2.2:=f2.trans g1;obtain⟨s,G,s2,s3⟩:=PX 19 i.post.2.1 i.post.2.2.2.2 eE;have G:(IE n (ai l).2.2.1 i.post.2.1 i.post.2.2.1 i.post.2.2.2.2).getLast?=some s:=G;have es:ja (dP i).2.1=s:=by rw[f2];exact LH G
 rw[eL,LH G]at A;have L:IK n (dP i)=true:=by
  unfold IK;rw[es,f4,f1,f2];simp only[qC,qF,zD];refine⟨⟨⟨⟨⟨⟨⟨by rw[<- eL];omega,hs⟩,trivial⟩,s2⟩,s3⟩,by simp⟩,xW _⟩,by rw[s2];exact A⟩
 rw[L,yM];refine qP ?_;unfold dvD;rw[if_pos L,es,s2];exact DV hn ll ac c1 Z Z z c2 (by rw[eL];exact G) A
end Go.Eng.Top
namespace Go.Eng.Sv
open Go.Proofs
def aDV(l:List Trk)(k:Int):Prop:=0<=k/\k<=l.length
def aGs(l:Li)(ds:List oC):Prop:=Go.Eng.In.aBE l/\nj (fU ds)
def KY2:Kt:=kOr 12 (az [.row N,.row Pl,.val (.sl Df)] (λ(_,p,f,_)=>XF p.2.2.1 f) λ(n,p,f,_)=>.dat .bool (Tv n p.2.2.1 f)) <|
 kOr 14 (az [.row N,.row Pl,.row Tk] (λ(_,p,t,_)=>SI p t) λ(n,p,t,_)=>.dat .bool (vL n p t)) <|
 kOr 16 (az [.row N,.row Pl,.val (.sl Df),.val S] (λ(n,p,f,_)=>aEh n p.2.2.1 f) λ(n,p,f,h,_)=>.dat .bool (Zg n p.2.2.1 f h)) <|
 kOr 6 (az [] (λ_=>True) λ_=>.dat .bool true) KY1
def aFw:Ann:=⟨λf s=>match f with
 |14=>match s.sig.T 11 with
  |.dat (.sl (.pair (.pair .str (.pair (.int .i64) (.pair (.int .i64) (.pair (.int .i64) (.int .i64))))) (.pair (.sl (.pair (.int .i64) (.pair (.int .i64) (.pair (.int .i64) (.int .i64))))) (.pair .bool (.pair (.sl (.int .i64)) (.pair (.sl .str) (.sl .str))))))) l=>some {α:=Int,inv:=λi=>aDV l i,st:=λi=>put s [(13,.dat I i)],μ:=λi=>Dc (Dk (Dh l) i)}|_=>none
 |_=>none,λ_ _=>none,λ_ _=>none⟩
theorem JM{n:Net}{l:Li}(h:Go.Eng.In.sy n l=true):l.length<=3000/\Go.Eng.In.Ab n:=by
 unfold Go.Eng.In.sy Go.Eng.In.smF at h;simp only[qC,qF]at h;obtain⟨⟨⟨j,y⟩,_⟩,u⟩:=h;have f:=(Go.Eng.In.fL.1 j).1;unfold Go.Eng.In.iF at f;rw[qF]at f;exact⟨Z,⟨⟨⟨Z,Z⟩,Z⟩,Z⟩⟩
theorem aFK{n:Net}{l:Li}(h:Go.Eng.In.sy n l=true):nK n=true:=by
 unfold Go.Eng.In.sy Go.Eng.In.smF at h;simp only[qC]at h;have f:=Go.Eng.In.fL.1 h.1.1.1;unfold nK;rw[qC];exact⟨f.1,f.2.2.1⟩
theorem aBn{n:Net}{l:Li}(h:Go.Eng.In.Acc n l):Go.Eng.In.pq (l,Go.Eng.In.jI l)=Go.Eng.In.ai l/\Go.Eng.In.FP (l,Go.Eng.In.jI l)=0:=by
 have:Go.Eng.In.fH (l,Go.Eng.In.jI l)=true:=by
  unfold Go.Eng.In.fH;rw[show Go.Eng.In.dq (l,Go.Eng.In.jI l).1 (l,Go.Eng.In.jI l).2=true from Go.Eng.In.zj h.ins,show Go.Eng.In.ni (l,Go.Eng.In.jI l).1=true from h.pl];rfl
 unfold Go.Eng.In.pq Go.Eng.In.FP;rw[if_pos this,if_pos this];exact⟨rfl,rfl⟩
theorem Ro{l:Li}(y:Go.Eng.In.dz l)(h:Go.Eng.In.ni l=true):jb (Go.Eng.In.ai l).2.2.1/\fitsT (Go.Eng.In.ai l).2.2.2:=by
 obtain⟨⟨L,G⟩,⟨A,z⟩,_⟩:=Go.Eng.In.mL y h;have f:∀(g:Int->Int->Int),jb (Go.Eng.In.iT g (l.getD 2 0)):=λg=>⟨by rw[Go.Eng.In.qb];omega,λr u=>by have:=(Go.Eng.In.mB u).1;omega⟩;refine⟨f _,?_,λt j=>?_⟩;show(Go.Eng.In.t8 _ _ _).length<=_;rw[Go.Eng.In.Kv];omega;obtain⟨k,rfl⟩:=Go.Eng.In.Ku j;exact f _
theorem aF6(h9:aj Tryz.prog G0 6 [] [] ⟨True,.dat .bool true,[]⟩):ay Tryz.prog G0 KY2:=ah (ae λ((A,h,f,y,j,u),(p1,p2,nx,z),G,_)=>aCd G p1 p2 nx z A h f y j u) <|
 ah (ae λ((A,h,f,y,j,u),(p1,p2,nx,z),(po,L,lo,X,la,se),_)=>aB8 po L lo X la se p1 p2 nx z A h f y j u)<|ah (ae λ((A,h,f,y,j,u),(p1,p2,nx,z),G,lb,_)=>gD lb G p1 p2 nx z A h f y j u)<|ah (ae λ_=>h9) Zt
theorem aB3(h9:aj Tryz.prog G0 6 [] [] ⟨True,.dat .bool true,[]⟩)(l:Li)(ds:List oC)(cs:LC)(X G:LB)(fs:Lo)(ls:Ll)(ks:Lk):aj Tryz.prog G0 4 [net cs X G fs ls ks,.dat R l,.dat (.sl Df) ds] [] ⟨aGs l ds,.dat .bool true,[]⟩:=by
 refine zF (c:=mkc KY2) (A:=(lvA [(14,[2,3,6,7,9,11,13])] aFw)) (aF6 h9) sJ hm (p:=let u:=(cs,X,G,fs,ls,ks);let c2:=Di (In.sy u l);let c3:=Di c2;let c4:=Dz c2 true (Di (aZ u));let c5:=Di c4;let A:=Dz c4 true (Ea (In.iH u l (In.jI l)) 0);let L:=(l,In.jI l);let c8:=Ea (In.FP L) 0;let h:=In.pq L;let c13:=Di (Tv u h.2.2.1 ds);let c14:=I3 u h.2.2.1 (fU ds);let c15:=Ea c14 0;let j:=iY u h.2.2.1 (fU ds);let z:=Dh j;true/\(aGs l ds->True/\In.aBE l/\T4 1 0 1 0 (True/\L5 c3 ((c3->nK u)/\L5 c3 ((Dj true c3->c3)/\(c5->1=1)/\(c5->0=0)/\Q2 c5 ((c5->In.Ai l/\In.Ab u)/\L5 c5 ((Dj true c5->c5)/\(A->true/\True)/\(A=false->L7 1 0 (In.Ai l/\L7 1 0 ((c8->false/\True)/\(c8=false->L7 1 0 (XF h.2.2.1 ds/\(c13->true/\True)/\(c13=false->L7 1 0 (I1 u h.2.2.1 (fU ds)/\(c15->L5 true ((Dj true true->true)/\Dz true (Ee c14 2) false/\True))/\(c15=false->(∃x,aDV j x/\L7 ds u (true/\T4 1 0 0 j (0=x/\u9 l (In.jI l) h.1 h.2.1 h.2.2.1 h.2.2.2)))/\∀(x:Int),let c23:=Dw j (Dc x) ((ByteArray.mk #[],(0:Int),(0:Int),(0:Int),(0:Int)),Du (Int×Int×Int×Int),false,Du Int,Du ByteArray,Du ByteArray);let f:=Zg u h.2.2.1 ds c23.1.1;let c35:=Dz f (Di (vL u h c23)) false;let c36:=x+1;aDV j x->(Dn x z->L7 1 0 (0<=x/\x<z/\aEh u h.2.2.1 ds/\(f->1=1)/\(f->0=0)/\Q2 f ((f->0<=x)/\(f->x<z)/\L5 f (Q4 f ((f->SI h c23)/\L5 f ((Dj true f->f)/\(c35->false/\True)/\(c35=false->inR .i64 c36/\∃y,aDV j y/\(L7 ds u (true/\T4 1 0 0 j (c36=y/\u9 l (In.jI l) h.1 h.2.1 h.2.2.1 h.2.2.2)))/\Dc (z-y)<Dc (z-x))))))))/\(Dn x z=false->true/\True)))))))))))))))) ⟨rfl,λhp=>?_⟩
 refine Z9 ?_;refine⟨hp.1,λh=>aFK h,λ⟨h,_⟩=>⟨Go.Eng.In.R2 (by have:=(JM h).1;omega),(JM h).2⟩,λ⟨⟨h1,h2⟩,h3⟩=>?_⟩;obtain⟨l1,hn⟩:=JM h1;have ll:Go.Eng.In.Ai l:=Go.Eng.In.R2 Z;have ac:=Go.Eng.In.aBo.1 h3;obtain⟨eR,eC⟩:=aBn ac;rw[eR,eC];have hnum:=Go.Eng.In.Db ll ac;obtain⟨⟨m0,m1⟩,⟨q0,q1⟩,a0,a1,a2⟩:=Go.Eng.In.mL hnum ac.pl;obtain⟨f1,f2⟩:=Ro hnum ac.pl;have e1:(Go.Eng.In.ai l).1=l.getD 0 0:=rfl;have e2:(Go.Eng.In.ai l).2.1=l.getD 1 0:=rfl;have hK:aZ (cs,X,G,fs,ls,ks)=true->nC (cs,X,G,fs,ls,ks) (Go.Eng.In.ai l).2.2.1=true->da (cs,X,G,fs,ls,ks) (fU ds)=true->I3 (cs,X,G,fs,ls,ks) (Go.Eng.In.ai l).2.2.1 (fU ds)=0->∀t∈iY (cs,X,G,fs,ls,ks) (Go.Eng.In.ai l).2.2.1 (fU ds),
   SI (Go.Eng.In.ai l) t/\(Zg (cs,X,G,fs,ls,ks) (Go.Eng.In.ai l).2.2.1 ds t.1.1=true->vL (cs,X,G,fs,ls,ks) (Go.Eng.In.ai l) t=true):=λhs ht hd he t hm=>by
  have tm:=Top.EN hm;unfold Top.trB at tm;simp only[qC,qF]at tm;obtain⟨⟨⟨⟨⟨⟨⟨⟨b1,b2⟩,b3⟩,b4⟩,_⟩,_⟩,_⟩,_⟩,_⟩:=tm;exact⟨⟨Z,f1,f2,by show _/\_;omega⟩,Top.OA hn ll ac hs ht hd he hm⟩
 have hLl:(iY (cs,X,G,fs,ls,ks) (Go.Eng.In.ai l).2.2.1 (fU ds)).length<=120:=Top.QY;generalize hL:iY (cs,X,G,fs,ls,ks) (Go.Eng.In.ai l).2.2.1 (fU ds)=L at hK hLl;clear hL eR eC h3 e1 e2 a0 a1 a2;generalize hq:Go.Eng.In.ai l=p at hK f1 f2;clear hq;obtain⟨p1,p2,nx,dy⟩:=p;simp only at hK f1 f2 ⊢;refine⟨ll,λh=>absurd rfl h,λ_=>⟨⟨f1,hp.2⟩,λhF=>?_⟩⟩;unfold Tv at hF;simp only[qC]at hF;obtain⟨⟨⟨hfw,hs⟩,hr⟩,hd⟩:=hF;have ht:nC (cs,X,G,fs,ls,ks) nx=true:=by
  unfold aCz at hr;rw[qC]at hr;exact hr.2
 refine⟨⟨hs,ht,hd⟩,λh=>Top.VU.resolve_left h,λhe=>⟨⟨qL 0,Z⟩,λi hi1 hi2=>?_⟩⟩;have hi0:0<=i:=hi1.1;have hn:i.toNat<L.length:=Z;obtain⟨k1,k2⟩:=hK hs ht hd he _ (wM hn);have hg:∀d,L.getD i.toNat d=L[i.toNat]:=λd=>by rw[qA,qB hn];rfl
 simp only[hg];generalize L[i.toNat]=t at *;obtain⟨⟨x1,x2,x3,x4,x5⟩,st,lo,si,la,se⟩:=t;simp only at k1 k2 ⊢;exact⟨hi0,hi2,⟨hs,ht,hd⟩,λ_=>hi0,λ_=>hi2,λ_=>k1,λ⟨h1,h2⟩=>(by rw[k2 h1]at h2;cases h2),λ_=>⟨by unfold inR;simp only;omega,i+1,⟨Z,Z⟩,rfl,Z⟩⟩
end Go.Eng.Sv
