/- Wr2p -/
import Derived.Test.YtecnnbcfgijddaaGreatDoorETBrkE
import Derived.Test.YtecnnbcfgijddaaGreatDoorETBrkF
import Derived.Test.YtecnnbcfgijddaaGreatDoorETBrkV
import Derived.Test.YtecnnbcfgijddaaGreatDoorETBrkX
import Derived.Test.YtecnnbcfgijddaaGreatDoorETBrkY
import Derived.Test.YtecnnbcfgijddaaGreatDoorETBrkZB
import Derived.Lib.AppendIntMem
import Derived.Lib.ItoaLen
set_option linter.unusedSimpArgs false
set_option linter.unusedVariables false
set_option maxRecDepth 100000
namespace Go.Eng.Sv
open Go.Proofs
open Go.RowKit
noncomputable def iaF(k:Int):ByteArray:=if 0<=k/\k<=100000000 then⟨(Go.Lib.itoa k).toArray⟩else⟨#[]⟩
noncomputable def iT(n:Net)(nx:Lj):Top.Dat:=⟨n.2.2.2.1.length,nxt nx,λo=>(di n o).2.2.2.2.1,λo=>(di n o).2.2.2.2.2.1,lT n,cz n,ix n,gA n,Cb n,iaF⟩
variable {w:World}{DD:Nat->Prop}{E:Nat->Ent}
theorem aBG(hG:jG Tryz.prog ⟨w,DD,bH [],E⟩ G0):Go.Lib.TabIs Tryz.prog w "internal/strconv.uint64pow10" .u64 Go.Lib.pow10Tab:=by
 obtain⟨_,⟨b,off,hp,hr⟩,_,A,X,fr,j,G⟩:=hG (1,.ia (.int .u64) p10) (wX _ (qX.2 rfl));cases hp;obtain⟨ao,cap,e,_,_,_,u⟩:=hr;cases e;have G:A.size=20:=G;have he:A=(Go.Lib.pow10Tab.map λz=>Value.int .u64 z).toArray:=by
  apply Array.ext;rw[G];rfl;intro i h1 h2;have hi:i<p10.length:=by show i<20;omega
  obtain⟨a,ue,e1,_,h3,L⟩:=u i p10[i] (qB hi);cases e1;have L:ue=[Value.int .u64 p10[i]]:=L;subst L;have y:w.cell? ⟨1,0+i*1+0,none⟩=some (Value.int .u64 p10[i]):=h3 0 _ rfl;rw[show 0+i*1+0=i by omega]at y;have j:w.heap[1]?=some (.cells A X fr):=j;simp[World.cell?,j]at y;obtain⟨_,y⟩:=qJ.1 y;rw[y];simp only[List.getElem_toArray,List.getElem_map];rfl
 unfold Go.Lib.TabIs World.var?;rw[show Program.globalNamed Tryz.prog "internal/strconv.uint64pow10" = some 1 by kernel_rfl]
 have j:w.heap[1]?=some (.cells A X fr):=j;simp only[Option.bind_some,j,he]
theorem aBF{W:World}(h:Go.Lib.TabIs Tryz.prog w "internal/strconv.uint64pow10" .u64 Go.Lib.pow10Tab)(u:Go.RowKit.Below w.heap.size w W):Go.Lib.TabIs Tryz.prog W "internal/strconv.uint64pow10" .u64 Go.Lib.pow10Tab:=Go.Lib.tabBelow_of_tabIs h W u
theorem aC4(h:Go.Lib.TabIs Tryz.prog w "internal/strconv.uint64pow10" .u64 Go.Lib.pow10Tab){n:Int}(z:0<=n)(y:n<=100000000):Calls Tryz.prog 57 #[.int .i64 n] w λe u=>e=.returned (.string (iaF n))/\Go.RowKit.Below w.heap.size w u:=by
 refine(Go.Proofs.Any.strconv_Itoa Tryz.itoaA n Z Z w h).mono ?_;rintro e u ⟨rfl,k,A,rfl⟩;exact⟨by unfold iaF;rw[if_pos ⟨z,y⟩],Go.Lib.below_grow _ _ (qL _) _ _⟩
theorem aCK(n:Int):(iaF n).size<=100:=by
 unfold iaF;split;rename_i h;show((Go.Lib.itoa n).toArray).size<=100;unfold Go.Lib.itoa;rw[if_neg Z,xB,Go.Lib.decDigits_length];have:=Go.Lib.nDigits_le20 n.toNat Z;omega;exact wK _
theorem nR{t:Ty}{xs:List t.den}{v:Value}(h:ae w DD (.sl t) xs [v]):∃(u:Option Addr) (j:Nat),v=.slice u (List.length xs) j/\
  ∀(i:Nat) (y:t.den),(xs:List t.den)[i]?=some y->∃(b f:Nat) (us:Lv),u=some ⟨b,f,none⟩/\DD b/\cO w b (f+i*t.sz) us/\ae w DD t y us:=by
 obtain⟨u,j,e,_,_,A,G⟩:=h;cases e;refine⟨u,j,rfl,λi y z=>?_⟩;obtain⟨a,us,e1,h1,X,L⟩:=G i y z;subst e1;have:=A a rfl (Nat.lt_of_le_of_lt (wK _) (qC.1 z).1);obtain⟨b,f,s⟩:=a;have:s=none:=this;subst this;exact⟨b,f,us,rfl,h1,X,L⟩
theorem BR(cs:LC)(L G:LB)(fs:Lo)(X:Ll)(ks:Lk){W:World}{A z y u j f:Value}{us:Lv}{av:List AV}(h1:ae W DD (.sl C) cs [A])(h2:ae W DD (.sl S) L [z])(h3:ae W DD (.sl S) G [y])(h4:ae W DD (.sl Of) fs [u])(h5:ae W DD (.sl Ln) X [j])(h6:ae W DD (.sl Kl) ks [f])
  (h:AV.relL Tryz.prog ⟨W,DD,bH [],E⟩ av us):AV.relL Tryz.prog ⟨W,DD,bH [],E⟩ (net cs L G fs X ks::av) (.agg #[A,z,y,u,j,f]::us):=
 ⟨_,_,rfl,⟨[A,z,y,u,j,f],rfl,A,_,rfl,h1,z,_,rfl,h2,y,_,rfl,h3,u,_,rfl,h4,j,_,rfl,h5,f,_,rfl,h6,rfl⟩,h⟩
theorem YP(cs:LC)(L G:LB)(z:Lo)(A:Ll)(X:Lk){nx:Lj}{v1 v2 v3 v4 v5 v6 vx:Value}(hD:∀b,DD b->b<w.heap.size)(hG:jG Tryz.prog ⟨w,DD,bH [],E⟩ G0)
  (h1:ae w DD (.sl C) cs [v1]) (h2:ae w DD (.sl S) L [v2]) (h3:ae w DD (.sl S) G [v3]) (h4:ae w DD (.sl Of) z [v4]) (h5:ae w DD (.sl Ln) A [v5]) (h6:ae w DD (.sl Kl) X [v6]) (hx:ae w DD M nx [vx])
  (hs:aZ (cs,L,G,z,A,X)=true) (ht:nP (cs,L,G,z,A,X) nx=true) (hb nb cb:Nat):Top.Env w w.heap.size ⟨hb,nb,cb,v1,v2,v3,v4,v5,v6,vx⟩ (iT (cs,L,G,z,A,X) nx):=by
 have hno:=gZ cs L G z A X hs;have hT:=aBG hG;have mono:∀{W:World}{t:Ty}{x:t.den}{us:Lv},Go.RowKit.Below w.heap.size w W->ae w DD t x us->ae W DD t x us:=λhB h=>au (λ_ h=>h) (λb hb=>hB.block b (hD b hb)) h;refine⟨λo t ho ht'=>?_,λo ho=>?_,λo ho=>?_,λo t ho ht'=>?_,λW l t hB hl t0 t1=>?_,λl hl=>?_,λl hl=>?_,λW k hB k0 k1=>aC4 (aBF hT hB) k0 k1,aCK,λl t hl t0 he=>?_⟩;obtain⟨c1,c2,_⟩:=pg cs L G z A X ht (o:=o) (d:=t) Z (by exact Int.ofNat_lt.2 ho) Z (by exact Int.ofNat_lt.2 ht');have ho:o<z.length:=ho;have ht':t<z.length:=ht';obtain⟨ao,cap,rfl,hr⟩:=nR hx;obtain⟨b,f,us,rfl,hb,hc,hu⟩:=hr o (nx.getD o []) (by rw[qA,qB Z];rfl);have c2:((nx.getD (o:Int).toNat []).length:Int)=z.length:=c2;rw[zQ]at c2;obtain⟨_,_,e2,_⟩:=id hu;subst e2;obtain⟨a2,cap2,e3,hr2⟩:=nR hu;obtain⟨b2,f2,u2,rfl,hb2,hc2,hu2⟩:=hr2 t ((nx.getD o []).getD t 0) (by
  have:t<(nx.getD o []).length:=Z;rw[qA (l:=nx.getD o []),qB this];rfl)
 have hu2:u2=[Value.int .i64 ((nx.getD o []).getD t 0)]:=hu2;subst hu2;refine⟨b,f,nx.length,cap,b2,f2,(nx.getD o []).length,cap2,rfl,Z,hD _ hb,?_,Z,hD _ hb2,?_⟩;have:=hc 0 _ rfl;rw[show f+o*Ty.sz R+0=f+o by show f+o*1+0=_;omega,e3]at this;exact this;have:=hc2 0 _ rfl;rw[show f2+t*Ty.sz I+0=f2+t by show f2+t*1+0=_;omega]at this;exact this;have ho:o<z.length:=ho;obtain⟨ao,cap,rfl,hr⟩:=nR h4;obtain⟨⟨e1,e2,e3,e4,e5,e6,e7⟩,hE⟩:∃y,z[o]=y:=⟨_,rfl⟩;obtain⟨b,f,us,rfl,hb,hc,hu⟩:=hr o (e1,e2,e3,e4,e5,e6,e7) (by rw[qB ho,hE]);obtain⟨_,_,rfl,g1,_,_,rfl,g2,_,_,rfl,g3,_,_,rfl,g4,_,_,rfl,g5,_,_,rfl,g6,a7,c7,rfl,_⟩:=hu;obtain rfl:=(g1:_=[Value.string e1]);obtain rfl:=(g2:_=[Value.int .i64 e2]);obtain rfl:=(g3:_=[Value.int .i64 e3]);obtain rfl:=(g4:_=[Value.int .i64 e4]);obtain rfl:=(g5:_=[Value.int .i64 e5]);obtain rfl:=(g6:_=[Value.int .i64 e6]);have hoff:di (cs,L,G,z,A,X) o=(e1,e2,e3,e4,e5,e6,e7):=by
  show z.getD (o:Int).toNat _=_;rw[zQ,qA,qB ho,hE];rfl
 have hg:∀(j:Nat) (u:Value),([Value.string e1]++([Value.int .i64 e2]++([Value.int .i64 e3]++([Value.int .i64 e4]++([Value.int .i64 e5]++([Value.int .i64 e6]++[Value.slice a7 e7.length c7]))))))[j]?=some u->w.cell? ⟨b,f+o*7+j,none⟩=some u:=λj u h=>hc j u h;refine⟨b,f,_,cap,e1,e2,e3,e4,a7,e7.length,c7,rfl,Z,hD _ hb,hg 0 _ rfl,hg 1 _ rfl,hg 2 _ rfl,hg 3 _ rfl,?_,?_,hg 6 _ rfl⟩;show _=some (Value.int .i64 (di (cs,L,G,z,A,X) o).2.2.2.2.1);rw[hoff];exact hg 4 _ rfl;show _=some (Value.int .i64 (di (cs,L,G,z,A,X) o).2.2.2.2.2.1);rw[hoff];exact hg 5 _ rfl;obtain⟨_,_,_,p1,p2,m1,m2⟩:=jS cs L G z A X (o:=o) ⟨hno,Z,Int.ofNat_lt.2 ho⟩;show 0<=(di (cs,L,G,z,A,X) o).2.2.2.2.1/\(di (cs,L,G,z,A,X) o).2.2.2.2.1<=100/\0<=(di (cs,L,G,z,A,X) o).2.2.2.2.2.1/\(di (cs,L,G,z,A,X) o).2.2.2.2.2.1<=100000;omega;obtain⟨c1,c2,c3⟩:=pg cs L G z A X ht (o:=o) (d:=t) Z (by exact Int.ofNat_lt.2 ho) Z (by exact Int.ofNat_lt.2 ht');have l40:=(mj cs L G z A X hno).1;show(Lit.int .i64 (nxt nx o t)).wf=true/\(0<=nxt nx o t->Cb (cs,L,G,z,A,X) (nxt nx o t));refine⟨Bn ?_,λh=>⟨hno,(c3 Z).1⟩⟩;by_cases h:nxt nx o t=-1;omega;have:=(c3 h).1;omega;have hD':∀b,DD b->b<W.heap.size:=λb h=>qK (hD b h) hB.size
 have hG':jG Tryz.prog ⟨W,DD,bH [],E⟩ G0:=jG.mono (show Later ⟨w,DD,bH [],E⟩ ⟨W,DD,bH [],E⟩from⟨λ_ h=>h,λb h=>hB.block b (hD b h)⟩) hG;refine(Vf l t cs L G z A X trivial W DD E _ hD' hG' (BR cs L G z A X (mono hB h1) (mono hB h2) (mono hB h3) (mono hB h4) (mono hB h5) (mono hB h6) ⟨.int .i64 l,_,rfl,rfl,.int .i64 t,_,rfl,rfl,rfl⟩) (Held.none _ _ _ _)).mono ?_;rintro e W' ⟨v,D',E',rfl,q2,us,rfl,u1,_,rfl,g1,u2,_,rfl,g2,rfl⟩;have g1:[u1]=[Value.int .i64 (gA (cs,L,G,z,A,X) l t)]:=g1;have g2:[u2]=[Value.int .i64 (ix (cs,L,G,z,A,X) l t)]:=g2;cases g1;cases g2;exact⟨rfl,q2.pure.1⟩;have hl:Cb (cs,L,G,z,A,X) l:=hl;have hll:l<A.length:=Int.ofNat_lt.1 hl.2.2;obtain⟨ao,cap,rfl,hr⟩:=nR h5;obtain⟨⟨e1,e2,e3,e4,e5,e6⟩,hE⟩:∃y,A[l]=y:=⟨_,rfl⟩;obtain⟨b,f,us,rfl,hb,hc,hu⟩:=hr l (e1,e2,e3,e4,e5,e6) (by rw[qB hll,hE]);obtain⟨_,_,rfl,g1,_,_,rfl,g2,_,_,rfl,g3,_,_,rfl,g4,_,_,rfl,g5,g6⟩:=hu;obtain rfl:=(g1:_=[Value.string e1]);obtain rfl:=(g2:_=[Value.int .i64 e2]);obtain rfl:=(g3:_=[Value.int .i64 e3]);obtain rfl:=(g4:_=[Value.int .i64 e4]);obtain rfl:=(g5:_=[Value.int .i64 e5]);obtain rfl:=(g6:_=[Value.int .i64 e6]);have hlin:GZ (cs,L,G,z,A,X) l=(e1,e2,e3,e4,e5,e6):=by
  show A.getD (l:Int).toNat _=_;rw[zQ,qA,qB hll,hE];rfl
 have hg:∀(j:Nat) (u:Value),([Value.string e1]++([Value.int .i64 e2]++([Value.int .i64 e3]++([Value.int .i64 e4]++([Value.int .i64 e5]++[Value.int .i64 e6])))))[j]?=some u->w.cell? ⟨b,f+l*6+j,none⟩=some u:=λj u h=>hc j u h;refine⟨b,f,_,cap,e1,e2,e4,e6,rfl,Z,hD _ hb,hg 0 _ rfl,hg 1 _ rfl,?_,hg 3 _ rfl,?_,hg 5 _ rfl⟩;show _=some (Value.int .i64 (GZ (cs,L,G,z,A,X) l).2.2.1);rw[hlin];exact hg 2 _ rfl;show _=some (Value.int .i64 (GZ (cs,L,G,z,A,X) l).2.2.2.2.1);rw[hlin];exact hg 4 _ rfl;have hl:Cb (cs,L,G,z,A,X) l:=hl;obtain⟨_,_,g1,g2,_,_,g3,g4⟩:=Aq cs L G z A X hl;have l40:=(mj cs L G z A X hno).1;have hl2:l<A.length:=hl.2.2;have hl1:=hl.2.1;show 0<=l/\l<=100000/\0<=lT (cs,L,G,z,A,X) l/\lT (cs,L,G,z,A,X) l<(z.length:Int)/\0<=cz (cs,L,G,z,A,X) l/\cz (cs,L,G,z,A,X) l<=100000;omega;obtain⟨d1,d2⟩:=Tv cs L G z A X (t:=t) hs hl;have he:ix (cs,L,G,z,A,X) l t=0:=he;have:=nz cs L G z A X hl (d2▸he);show t<=gA (cs,L,G,z,A,X) l t/\gA (cs,L,G,z,A,X) l t<=2200000;rw[d1];omega
end Go.Eng.Sv
namespace Go.Eng.Top
noncomputable section
open Go.Proofs
open Go.Eng.Sv (Net Stop nxt iR uh lB od gA ix aJ lT cz Cb Ae BM pJ nK gX kz iG iF iT)
structure Good(n:Net)(nx:Lj)(cc:Li)(x:Pst)(i:Itm):Prop where
 post:i.post=x
 lost:i.lost=false
 sn:i.sn=x.2.2.2.2
 lb:i.lb=x.1
 holds:i.holds=0
 way:∃k,(iR n nx x.2.2.1 k i.off i.arr).2=0/\i.done++(iR n nx x.2.2.1 k i.off i.arr).1=uh n nx x.2.1 x.2.2.1 x.2.2.2.2
 arr:x.2.2.2.2<=i.arr
 at_:i.off=x.2.2.1->i.line=-1
 go:i.off≠x.2.2.1->i.line=nxt nx i.off x.2.2.1/\i.leave=lB n i.line (aJ n i.off i.arr)/\i.line∉cc
def Free(n:Net)(nx:Lj)(x:Pst)(cc:Li)(T:Int):Prop:=∀s∈uh n nx x.2.1 x.2.2.1 x.2.2.2.2,T<=s.2.2.1->s.2.2.2∉cc
variable {i:Itm}{n:Net}{nx:Lj}{cc:Li}{x:Pst}{sb:Int->Int->ByteArray}{T:Int}
structure Base'(n:Net)(nx:Lj)(x:Pst):Prop where
 dep:∀l t:Int,Cb n l->gA n l t=lB n l t/\ix n l t=od n l t
 cell:∀o:Int,0<=o->o<n.2.2.2.1.length->nxt nx o x.2.2.1≠-1->Cb n (nxt nx o x.2.2.1)
 offs:∀o:Int,0<=o->o<n.2.2.2.1.length->∀t:Int,t<=aJ n o t
 tz:∀l:Int,Cb n l->0<=lT n l/\lT n l<n.2.2.2.1.length/\1<=cz n l
 bnd:∀l t:Int,Cb n l->od n l t=0->t<=lB n l t/\lB n l t<=2100000
theorem jo{tz o t:Int}{k:Nat}(h:o≠tz)(f:(iR n nx tz k o t).2=0):
  ∃z,k=z+1/\nxt nx o tz≠-1/\od n (nxt nx o tz) (aJ n o t)=0/\
   (iR n nx tz z (lT n (nxt nx o tz)) (lB n (nxt nx o tz) (aJ n o t)+cz n (nxt nx o tz))).2=0/\
   (iR n nx tz k o t).1=(o,t,lB n (nxt nx o tz) (aJ n o t),nxt nx o tz)::(iR n nx tz z (lT n (nxt nx o tz)) (lB n (nxt nx o tz) (aJ n o t)+cz n (nxt nx o tz))).1:=by
 by_cases u:nxt nx o tz=-1;rw[gX k h u]at f;cases f;by_cases j:od n (nxt nx o tz) (aJ n o t)=0;cases k with
 |zero=>rw[iG h u j]at f;cases f
 |succ k=>
  rw[iF k h u j]at f ⊢;by_cases y:(iR n nx tz k (lT n (nxt nx o tz)) (lB n (nxt nx o tz) (aJ n o t)+cz n (nxt nx o tz))).2=0;exact⟨k,rfl,u,j,y,by rw[BM y];rfl⟩;rw[pJ y]at f;exact absurd f y
 rw[kz k h u j]at f;exact absurd f j
theorem C5(u:Base' n nx x){i:Itm}(h1:i.post=x)(G:i.lost=false)(A:i.sn=x.2.2.2.2)(h4:i.lb=x.1)(z:i.holds=0)
  (y:∃k,(iR n nx x.2.2.1 k i.off i.arr).2=0/\i.done++(iR n nx x.2.2.1 k i.off i.arr).1=uh n nx x.2.1 x.2.2.1 x.2.2.2.2) (h7:x.2.2.2.2<=i.arr) (j:0<=i.off/\i.off<n.2.2.2.1.length)
  (X:i.off≠x.2.2.1->nxt nx i.off x.2.2.1∉cc):Good n nx cc x (jj (iT n nx) cc x.2.2.1 i):=by
 by_cases f:i.off=x.2.2.1;have e:jj (iT n nx) cc x.2.2.1 i={i with line:=-1}:=if_pos (.inr f);rw[e];exact⟨h1,G,A,h4,z,y,h7,λ_=>rfl,λh=>absurd f h⟩;obtain⟨k,hk,hw⟩:=id y;obtain⟨k',rfl,g1,g2,g3,g4⟩:=jo f hk;have L:=u.cell i.off j.1 j.2 g1;have e:jj (iT n nx) cc x.2.2.1 i={i with line:=nxt nx i.off x.2.2.1,leave:=lB n (nxt nx i.off x.2.2.1) (aJ n i.off i.arr)}:=by
  unfold jj;rw[if_neg (by rw[G];simp[f]),if_neg (by simp only[not_or,Int.not_lt];exact⟨L.2.1,X f⟩),z,A];have eR:i.arr+(iT n nx).ps i.off*(iT n nx).mn i.off=aJ n i.off i.arr:=rfl;have eN:(iT n nx).nx i.off x.2.2.1=nxt nx i.off x.2.2.1:=rfl;rw[eR,eN];have em:max (aJ n i.off i.arr) x.2.2.2.2=aJ n i.off i.arr:=by have:=u.offs i.off j.1 j.2 i.arr;omega
  rw[em];have ed:=u.dep (nxt nx i.off x.2.2.1) (aJ n i.off i.arr) L;have et:Bt (iT n nx) (nxt nx i.off x.2.2.1) ((0:Int)+1).toNat i.leave (aJ n i.off i.arr)=(true,lB n (nxt nx i.off x.2.2.1) (aJ n i.off i.arr)):=by
   show Bt (iT n nx) _ 1 _ _=_;unfold Bt;rw[show(iT n nx).dE (nxt nx i.off x.2.2.1) (aJ n i.off i.arr)=ix n (nxt nx i.off x.2.2.1) (aJ n i.off i.arr)from rfl,ed.2,if_pos g2,show(iT n nx).dD (nxt nx i.off x.2.2.1) (aJ n i.off i.arr)=gA n (nxt nx i.off x.2.2.1) (aJ n i.off i.arr)from rfl,ed.1];rfl
  simp only[et,kE]
 rw[e];exact⟨h1,G,A,h4,z,y,h7,λh=>absurd h f,λ_=>⟨rfl,rfl,X f⟩⟩
def In'(n:Net)(i:Itm):Prop:=0<=i.off/\i.off<n.2.2.2.1.length
theorem WI(y:Base' n nx x)(hf:Free n nx x cc T){i:Itm}(g:Good n nx cc x i)(hi:In' n i)(ho:i.off≠x.2.2.1)(ht:T<=i.leave):
  Good n nx cc x (tR (iT n nx) cc sb x.2.2.1 i)/\In' n (tR (iT n nx) cc sb x.2.2.1 i)/\((tR (iT n nx) cc sb x.2.2.1 i).off≠x.2.2.1->T<=(tR (iT n nx) cc sb x.2.2.1 i).leave):=by
 obtain⟨f,hv,_⟩:=g.go ho;obtain⟨k,hk,hw⟩:=g.way;obtain⟨k',rfl,g1,g2,g3,g4⟩:=jo ho hk;have hlp:=y.cell i.off hi.1 hi.2 g1;obtain⟨X,L,t2⟩:=y.tz _ hlp;have ha:=y.offs i.off hi.1 hi.2 i.arr;have hbd:=y.bnd _ _ hlp g2;have hA:=g.arr;rw[f]at hv;have u:(tR (iT n nx) cc sb x.2.2.1 i).off=lT n (nxt nx i.off x.2.2.1):=by
  unfold tR jj;rw[f];dsimp only;split<;>(try split)<;>rfl
 have hi2:In' n (tR (iT n nx) cc sb x.2.2.1 i):=by unfold In';rw[u];exact⟨X,L⟩
 have A:i.done++[(i.off,i.arr,i.leave,i.line)]++(iR n nx x.2.2.1 k' (lT n i.line) (i.leave+cz n i.line)).1=uh n nx x.2.1 x.2.2.1 x.2.2.2.2:=by
  rw[<- hw,g4,f,hv];simp
 have hn:lT n i.line≠x.2.2.1->∃k'',nxt nx (lT n i.line) x.2.2.1≠-1/\T<=lB n (nxt nx (lT n i.line) x.2.2.1) (aJ n (lT n i.line) (i.leave+cz n i.line))/\k'=k''+1/\
   (lT n i.line,i.leave+cz n i.line,lB n (nxt nx (lT n i.line) x.2.2.1) (aJ n (lT n i.line) (i.leave+cz n i.line)),nxt nx (lT n i.line) x.2.2.1)∈uh n nx x.2.1 x.2.2.1 x.2.2.2.2:=λh=>by
  have g3':(iR n nx x.2.2.1 k' (lT n i.line) (i.leave+cz n i.line)).2=0:=by rw[f,hv];exact g3
  obtain⟨k2,e,z,G,f3,f4⟩:=jo h g3';have hlp2:=y.cell (lT n i.line) (by rw[f];exact X) (by rw[f];exact L) z;have hb2:=y.bnd _ _ hlp2 G;have ha2:=y.offs (lT n i.line) (by rw[f];exact X) (by rw[f];exact L) (i.leave+cz n i.line);have t2':1<=cz n i.line:=by rw[f];exact t2
  exact⟨k2,z,Z,e,by rw[<- A,f4];simp⟩
 refine⟨?_,hi2,?_⟩;refine C5 y g.post g.lost g.sn g.lb rfl ⟨k',by dsimp only;rw[f,hv];exact g3,A⟩ (by dsimp only;rw[f]at *;have:(iT n nx).ltr (nxt nx i.off x.2.2.1)=cz n (nxt nx i.off x.2.2.1):=rfl;omega) (by dsimp only;rw[f];exact⟨X,L⟩) λh=>?_;obtain⟨_,_,z,_,G⟩:=hn h;exact hf _ G z;intro h;rw[u,<- f]at h;obtain⟨_,f0,z,_,G⟩:=hn h;have hg:Good n nx cc x (tR (iT n nx) cc sb x.2.2.1 i):=by
  refine C5 y g.post g.lost g.sn g.lb rfl ⟨k',by dsimp only;rw[f,hv];exact g3,A⟩ (by dsimp only;rw[f]at *;have:(iT n nx).ltr (nxt nx i.off x.2.2.1)=cz n (nxt nx i.off x.2.2.1):=rfl;omega) (by dsimp only;rw[f];exact⟨X,L⟩) λh=>?_;obtain⟨_,_,z,_,G⟩:=hn h;exact hf _ G z
 have j:(tR (iT n nx) cc sb x.2.2.1 i).off=lT n i.line:=by rw[u,f]
 have harr:(tR (iT n nx) cc sb x.2.2.1 i).arr=i.leave+cz n i.line:=by
  unfold tR jj;dsimp only;split<;>(try split)<;>rfl
 obtain⟨e1,e2,_⟩:=hg.go (by rw[j];exact h);rw[e2,e1,j,harr];exact z
theorem Lr{T':Int}(u:Base' n nx x)(A:Free n nx x cc T):∀(k:Nat) {i f:Itm},Good n nx cc x i->In' n i->(i.off≠x.2.2.1->T<=i.leave)->FY (iT n nx) cc sb x.2.2.1 T' k i=some f->
  Good n nx cc x f/\In' n f/\(f.off≠x.2.2.1->T<=f.leave/\T'<=f.leave)
 |0,_,_,_,_,_,h=>by cases h
 |k+1,i,f,g,hi,z,h=>by
  unfold FY at h;split at h;rename_i hc;split at h;cases h;have j:i.off≠x.2.2.1:=λe=>by have:=g.at_ e;omega
  obtain⟨y,X,L⟩:=WI (sb:=sb) u A g hi j (z j);exact Lr u A k y X L h;rename_i hc;cases h;refine⟨g,hi,λj=>⟨z j,?_⟩⟩;obtain⟨e1,_,_⟩:=g.go j;obtain⟨k,G,_⟩:=g.way;obtain⟨_,_,y,_⟩:=jo j G;have:=(u.cell i.off hi.1 hi.2 y).2.1;omega
theorem Xw(g:Good n nx cc x i)(h:i.off=x.2.2.1):i.stops=uh n nx x.2.1 x.2.2.1 x.2.2.2.2:=by
 obtain⟨k,_,f⟩:=g.way;rw[<- f,nK k h];rfl
end
end Go.Eng.Top
namespace Go.Eng.Top
open Go.Proofs
noncomputable section
open Go.Eng.Sv (Net Stop nxt iR uh lB od gA ix aJ lT cz Cb Ae BM pJ nK gX kz iG iF iT)
def NF(n:Net)(nx:Lj)(ds:List bZ)(x:Pst):Prop:=∀d∈ds,d.1≠4/\(d.1≠1->d.2.2.2.1≠x.1)/\
 ∀s∈uh n nx x.2.1 x.2.2.1 x.2.2.2.2,d.1=5->d.2.2.2.2.2=s.2.2.2->¬d.2.1<=s.2.2.1
def WOk(n:Net)(nx:Lj)(x:Pst):Prop:=(iR n nx x.2.2.1 19 x.2.1 x.2.2.2.2).2=0/\0<=x.2.2.1/\x.2.2.1<n.2.2.2.1.length
structure Inv(n:Net)(nx:Lj)(ds:List bZ)(T:Int)(s:Hst):Prop where
 nd:(s.1.map λi=>i.post.1).Nodup
 cc:∀c∈s.2,∃d∈ds,d.1=5/\d.2.2.2.2.2=c/\d.2.1<=T
 it:∀i∈s.1,WOk n nx i.post->NF n nx ds i.post->Good n nx s.2 i.post i/\In' n i/\(i.off≠i.post.2.2.1->T<=i.leave)
variable {n:Net}{nx:Lj}{ds:List bZ}{sb:Int->Int->ByteArray}{T:Int}{s:Hst}
theorem Inv.free(h:Inv n nx ds T s){x:Pst}(j:NF n nx ds x){T':Int}(A:T<=T'):Free n nx x s.2 T':=λw f G u=>by
 obtain⟨d,hd,z,y,L⟩:=h.cc _ u;exact(j d hd).2.2 w f z y Z
theorem aCw{its:List Itm}(h:(its.map λi=>i.post.1).Nodup){i j:Itm}(z:i∈its)(y:j∈its)(e:i.post.1=j.post.1):i=j:=by
 induction its with
 |nil=>cases z
 |cons a l A=>
  rw[wV,qDb]at h;rcases zK.1 z with u|u;rcases zK.1 y with f|f;rw[u,f];exact absurd (vW.2 ⟨j,f,by rw[<- e,u]⟩) h.1;rcases zK.1 y with f|f;exact absurd (vW.2 ⟨i,u,by rw[e,f]⟩) h.1;exact A h.2 u f
theorem Yk{its:List Itm}(h:(its.map λi=>i.post.1).Nodup){i:Itm}(f:i∈its):iy its i.post.1=i.post.2.2.1:=by
 unfold iy;cases e:its.find? λj=>decide (j.post.1=i.post.1)with
 |none=>have:=qCi.1 e i f;simp at this|some j=>
  have y:=List.mem_of_find?_eq_some e;have u:=qBc e;rw[aCw h y f (by simpa using u)];rfl
theorem mapM_mem{α β:Type}{f:α->Option β}:∀{l:List α}{r:List β},l.mapM f=some r->(∀b∈r,∃a∈l,f a=some b)
 |[],r,h=>by simp at h;subst h;intro b z;cases z
 |a::l,r,h=>by
  rw[xG]at h;cases j:f a with
  |none=>rw[j]at h;cases h
  |some b=>
   cases u:l.mapM f with
   |none=>rw[j,u]at h;cases h
   |some bs=>
    rw[j,u]at h;cases h;intro c y;rcases zK.1 y with rfl|y;exact⟨a,wL,j⟩;obtain⟨L,G,A⟩:=mapM_mem u c y;exact⟨L,wX _ G,A⟩
theorem mapM_map{α β γ:Type}{f:α->Option β}{g:α->γ}{g':β->γ}(y:∀a b,f a=some b->g' b=g a):∀{l:List α}{r:List β},l.mapM f=some r->r.map g'=l.map g
 |[],r,h=>by simp at h;subst h;rfl|a::l,r,h=>by
  rw[xG]at h;cases j:f a with
  |none=>rw[j]at h;cases h
  |some b=>
   cases u:l.mapM f with
   |none=>rw[j,u]at h;cases h
   |some bs=>
    rw[j,u]at h;cases h;rw[wV,wV,y a b j,mapM_map y u]
theorem mK{cc:Li}{tz:Int}{i j:Itm}(h:i.post=j.post):(jj (iT n nx) cc tz i).post=j.post:=by rw[<- h];exact(iN _ _).1
theorem tJ{cc:Li}{tz T:Int}:∀(k:Nat) {i f:Itm},FY (iT n nx) cc sb tz T k i=some f->f.post=i.post
 |0,_,_,h=>by cases h
 |k+1,i,f,h=>by
  unfold FY at h;split at h;split at h;cases h;exact(tJ k h).trans (BY i).1;cases h;rfl
theorem SB(hb:∀x,WOk n nx x->Base' n nx x)(h:Inv n nx ds T s){T':Int}{its:List Itm}(A:DT (iT n nx) sb T' s=some its)(ht:T<=T'):
  Inv n nx ds T' (its,s.2)/\(∀i∈its,WOk n nx i.post->NF n nx ds i.post->i.off≠i.post.2.2.1->T'<=i.leave):=by
 have hm:=mapM_mem A;have f:∀i∈its,WOk n nx i.post->NF n nx ds i.post->Good n nx s.2 i.post i/\In' n i/\(i.off≠i.post.2.2.1->T'<=i.leave):=λi z u y=>by
  obtain⟨j,G,e⟩:=hm i z;have ep:=tJ 21 e;rw[ep]at u y ⊢;obtain⟨L,g2,g3⟩:=h.it j G u y;rw[L.lb,Yk h.nd G]at e;obtain⟨f1,f2,f3⟩:=Lr (hb _ u) (h.free y (qN _)) 21 L g2 g3 e;exact⟨f1,f2,λX=>(f3 X).2⟩
 refine⟨⟨?_,λc hc=>?_,f⟩,λi z u y=>(f i z u y).2.2⟩;rw[mapM_map (g:=λi=>i.post.1) (λa b e=>by rw[tJ 21 e]) A];exact h.nd;obtain⟨d,h1,h2,h3,h4⟩:=h.cc c hc;exact⟨d,h1,h2,h3,Z⟩
theorem PW{its:List Itm}{lb:ByteArray}{f:Itm->Itm}{i:Itm}(h:i∈KE its lb f):i∈its\/∃j∈its,j.post.1=lb/\i=f j:=by
 unfold KE at h;split at h;rename_i j e;have z:=qZ e;have u:OC its lb<its.length:=by
  rcases wW (OC its lb) its.length with g|g;exact g;rw[wZ g]at e;cases e
 have y:j.post.1=lb:=by
  have:=List.findIdx_getElem (w:=u);rw[qB u]at e;cases e;exact vO this
 rcases List.mem_or_eq_of_mem_set h with g|g;exact .inl g;exact .inr ⟨j,z,y,g⟩;exact .inl h
theorem tH{its:List Itm}{k:Nat}{i j:Itm}(h:its[k]?=some i)(f:j.post=i.post):((its.set k j).map λi=>i.post.1)=its.map λi=>i.post.1:=by
 rw[List.map_set,f];apply wQ;intro m;rw[vS];split;rename_i e;subst e;rw[qQ,h];split;rfl;rename_i g;rw[vX]at g;rw[wZ Z]at h;cases h;rfl
theorem tD{its:List Itm}{lb:ByteArray}{f:Itm->Itm}(h:∀i,(f i).post=i.post):((KE its lb f).map λi=>i.post.1)=its.map λi=>i.post.1:=by
 unfold KE;split;rename_i j e;exact tH e (h j);rfl
theorem EG{cc:Li}{its:List Itm}{a b:ByteArray}{t:Int}:((I8 (iT n nx) cc its a b t).map λi=>i.post.1)=its.map λi=>i.post.1:=by
 unfold I8;split;rename_i i j f h;split;rfl;have y:=tH (j:=jj (iT n nx) cc (iy its j.lb) (G9 i j.lb t)) f (mK rfl);by_cases u:OC its a=OC its b;rw[u]at f ⊢;rw[f]at h;cases h;rw[List.set_set];exact tH f (mK rfl);have z:(its.set (OC its a) (jj (iT n nx) cc (iy its j.lb) (G9 i j.lb t)))[OC its b]?=some j:=by
  rw[zW u];exact h
 exact(tH (j:=jj (iT n nx) cc (iy its i.lb) (G9 j i.lb t)) z (mK rfl)).trans y;rfl
def DOk(n:Net)(its:List Itm)(d:bZ):Prop:=(d.1=1\/d.1=2\/d.1=3\/d.1=4\/d.1=5)/\
 (d.1=1->(∀i∈its,i.post.1≠d.2.2.1.1)/\d.2.2.1.2.2.2.2=d.2.1/\0<=d.2.2.1.2.1/\d.2.2.1.2.1<n.2.2.2.1.length)
theorem aAn(hb:∀x,WOk n nx x->Base' n nx x){d:bZ}(hd:d∈ds)(h:Inv n nx ds d.2.1 s)(ok:DOk n s.1 d):Inv n nx ds d.2.1 (rK (iT n nx) s d):=by
 obtain⟨hk,h1⟩:=ok;unfold rK;by_cases k1:d.1=1;rw[if_pos k1];obtain⟨u,g2,X,g4⟩:=h1 k1;have hN:((s.1++[iw d.2.2.1]).map λi=>i.post.1).Nodup:=by
  rw[zS,List.nodup_append];refine⟨h.nd,by simp,λa ha b hbm=>?_⟩;obtain⟨i,A,rfl⟩:=vW.1 ha;simp at hbm;subst hbm;exact u i A
 have eto:iy (s.1++[iw d.2.2.1]) d.2.2.1.1=d.2.2.1.2.2.1:=Yk (i:=iw d.2.2.1) hN (by simp);refine⟨?_,h.cc,λi A G y=>?_⟩;show((s.1++[jj (iT n nx) s.2 _ _]).map λi=>i.post.1).Nodup;rw[zS,wV,(iN _ _).1,qBf];rw[zS]at hN;exact hN;rcases qI.1 A with A|A;exact h.it i A G y;rw[qX.1 A,(iN _ _).1]at G y ⊢;rw[eto];have L:=hb _ G;have g2':(iw d.2.2.1).arr=d.2.1:=g2;have key:∀z:(iw d.2.2.1).off≠(iw d.2.2.1).post.2.2.1,nxt nx (iw d.2.2.1).off (iw d.2.2.1).post.2.2.1∉s.2/\d.2.1<=lB n (nxt nx (iw d.2.2.1).off (iw d.2.2.1).post.2.2.1) (aJ n (iw d.2.2.1).off (iw d.2.2.1).arr):=λz=>by
  obtain⟨k',_,f1,f2,f3,f4⟩:=jo z G.1;have hlp:=L.cell _ X g4 f1;have hbd:=L.bnd _ _ hlp f2;have ha:=L.offs _ X g4 (iw d.2.2.1).arr;have hT:d.2.1<=lB n (nxt nx (iw d.2.2.1).off (iw d.2.2.1).post.2.2.1) (aJ n (iw d.2.2.1).off (iw d.2.2.1).arr):=by
   have ha':d.2.1<=aJ n (iw d.2.2.1).off (iw d.2.2.1).arr:=by rw[<- g2'];exact ha
   exact Int.le_trans ha' hbd.1
  exact⟨h.free y (qN _) _ (by unfold uh;erw [f4];exact wL) hT,hT⟩
 have hG:=C5 (cc:=s.2) L (i:=iw d.2.2.1) rfl rfl rfl rfl rfl ⟨19,G.1,rfl⟩ (qN _) ⟨X,g4⟩ λz=>(key z).1;have e1:(jj (iT n nx) s.2 (iw d.2.2.1).post.2.2.1 (iw d.2.2.1)).off=(iw d.2.2.1).off:=by unfold jj;split<;>(try split)<;>rfl
 have e2:(jj (iT n nx) s.2 (iw d.2.2.1).post.2.2.1 (iw d.2.2.1)).arr=(iw d.2.2.1).arr:=by unfold jj;split<;>(try split)<;>rfl
 refine⟨hG,by unfold In';erw [e1];exact⟨X,g4⟩,λz=>?_⟩;erw [e1]at z;obtain⟨e3,e4,_⟩:=hG.go (by rw[e1];exact z);erw [e4,e3,e1,e2];exact(key z).2;rw[if_neg k1];have hne:∀i:Itm,NF n nx ds i.post->i.post.1≠d.2.2.2.1:=λi y e=>(y d hd).2.1 k1 e.symm;by_cases k2:d.1=2;rw[if_pos k2];have eu:=tD (its:=s.1) (lb:=d.2.2.2.1) (f:=λi=>jj (iT n nx) s.2 (iy s.1 i.lb) {i with lost:=true}) λi=>mK rfl;refine⟨by show((KE _ _ _).map λi=>i.post.1).Nodup;rw[eu];exact h.nd,h.cc,λi A G y=>?_⟩;rcases PW A with g|⟨j,_,g,rfl⟩;exact h.it i g G y;exact absurd (by rw[(iN _ _).1];exact g) (hne _ y);rw[if_neg k2];by_cases k3:d.1=3;rw[if_pos k3];refine⟨by show((KE _ _ _).map λi=>i.post.1).Nodup;rw[tD qk];exact h.nd,h.cc,λi A G y=>?_⟩;rcases PW A with g|⟨j,_,g,rfl⟩;exact h.it i g G y;exact absurd (by rw[qk];exact g) (hne _ y);rw[if_neg k3];by_cases k4:d.1=4;rw[if_pos k4];exact⟨by show((I8 _ _ _ _ _ _).map λi=>i.post.1).Nodup;rw[EG];exact h.nd,h.cc,λi A G y=>absurd k4 (y d hd).1⟩;rw[if_neg k4];have k5:d.1=5:=Z;have ep:∀i:Itm,(if i.line=d.2.2.2.2.2 then {i with line:=-1} else i).post=i.post:=λi=>by split<;>rfl
 refine⟨?_,λc hc=>?_,λi A G y=>?_⟩;show((s.1.map λi=>if i.line=d.2.2.2.2.2 then {i with line:=-1} else i).map λi=>i.post.1).Nodup;rw[qBx,show((λi:Itm=>i.post.1)∘λi=>if i.line=d.2.2.2.2.2 then {i with line:=-1} else i)=λi:Itm=>i.post.1 from funext λi=>by simp only[Function.comp,ep]];exact h.nd;rcases qI.1 hc with hc|hc;exact h.cc c hc;exact⟨d,hd,k5,(qX.1 hc).symm,qN _⟩;obtain⟨j,hj,rfl⟩:=vW.1 A;rw[ep]at G y ⊢;obtain⟨u,g2,X⟩:=h.it j hj G y;by_cases z:j.off=j.post.2.2.1;have e:=u.at_ z;have ej:(if j.line=d.2.2.2.2.2 then {j with line:=-1} else j)=j:=by
  split;rw[<- e];rfl
 rw[ej];exact⟨⟨rfl,u.lost,u.sn,u.lb,u.holds,u.way,u.arr,u.at_,λh=>absurd z h⟩,g2,X⟩;obtain⟨e1,e2,e3⟩:=u.go z;have hT:=X z;have hl:j.line≠d.2.2.2.2.2:=λe=>by
  obtain⟨k,hk',hw'⟩:=u.way;obtain⟨k',rfl,f1,f2,f3,f4⟩:=jo z hk';refine(y d hd).2.2 (j.off,j.arr,j.leave,j.line) ?_ k5 e.symm hT;rw[<- hw',f4,e2,e1];simp
 rw[if_neg hl];refine⟨⟨rfl,u.lost,u.sn,u.lb,u.holds,u.way,u.arr,u.at_,λ_=>⟨e1,e2,λhm=>?_⟩⟩,g2,X⟩;rcases qI.1 hm with hm|hm;exact e3 hm;exact hl (qX.1 hm)
def UA(its:List Itm):List ByteArray:=its.map λi=>i.post.1
theorem Nz(s:Hst)(d:bZ):UA (rK (iT n nx) s d).1=nxP (UA s.1) d:=by
 unfold rK nxP;split;show UA (s.1++[_])=_;unfold UA;rw[zS,List.map_singleton,(iN _ _).1];rfl;split;exact tD λi=>mK rfl;split;exact tD qk;split;exact EG;unfold UA;dsimp only;rw[qBx];refine zY λi _=>?_;simp only[Function.comp];split<;>rfl
theorem Lq{s:Hst}{its:List Itm}(f:DT (iT n nx) sb T s=some its):UA its=UA s.1:=
 mapM_map (g:=λi:Itm=>i.post.1) (g':=λi:Itm=>i.post.1) (λ_ _ h=>by rw[tJ 21 h]) f
variable {lab:ByteArray->Bool}{l4 l5:Nat}
theorem JJ{its:List Itm}{lb:ByteArray}(h:lb∈UA its):∃i∈its,i.post.1=lb:=by
 obtain⟨i,f,e⟩:=vW.1 h;exact⟨i,f,e⟩
theorem QP(z:∀x,WOk n nx x->Base' n nx x):∀(f:List bZ) {ps:List ByteArray}{T:Int}{s u:Hst},(∀d∈f,d∈ds)->Inv n nx ds T s->UA s.1=ps->CP lab n.2.2.2.1.length l4 l5 ps T f->FC (iT n nx) sb f s=some u->∃y,Inv n nx ds y u/\y<=max T 1000000
 |[],_,T,s,u,_,j,_,_,h=>by cases h;exact⟨T,j,Z⟩
 |d::f,ps,T,s,u,hm,j,hp,⟨⟨X,w2,L⟩,G⟩,h=>by
  unfold FC stepD at h;cases e:DT (iT n nx) sb d.2.1 s with
  |none=>rw[e]at h;cases h
  |some its=>
   rw[e]at h;obtain⟨g1,_⟩:=SB z j e X;have A:=(Lq e).trans hp;have ok:DOk n (its,s.2).1 d:=by
    rcases L with⟨a,_,a3,_,a7,a4,_⟩|⟨a,_⟩|⟨a,_⟩|⟨a,_⟩;exact⟨.inl a,λ_=>⟨λi j e=>a3 (by rw[<- A,<- e];exact vW.2 ⟨i,j,rfl⟩),a7,a4⟩⟩;exact⟨Z,λh=>Z⟩;exact⟨Z,λh=>Z⟩;exact⟨Z,λh=>Z⟩
   have g3:=aAn z (hm d wL) g1 ok;obtain⟨y,f1,f2⟩:=QP z f (λx hx=>hm x (wX _ hx)) g3 (by rw[Nz,<- A]) G h;exact⟨y,f1,Z⟩
theorem YC(j:∀s,lab s=true->s.size<=1000)(L:l4<=100000):∀(f:List bZ) {ps:List ByteArray}{T:Int}{s:Hst},0<=T->UA s.1=ps->CP lab n.2.2.2.1.length l4 l5 ps T f->Wh (iT n nx) f s
 |[],_,_,_,_,_,_=>trivial|d::f,ps,T,s,hT,G,⟨⟨w1,w2,y⟩,u⟩=>λz e=>by
  have h:=(Lq e).trans G;refine⟨⟨Z,?_⟩,YC j L f Z (by rw[Nz,<- h]) u⟩;rcases y with⟨a,X,a3,_,a7,a4,a5,_⟩|⟨a,b⟩|⟨a,b,c,e⟩|⟨a,b,c⟩;exact .inl ⟨a,a7,λq A e=>a3 (by rw[<- h,<- e];exact vW.2 ⟨q,A,rfl⟩),j _ X,a4,a5⟩;exact .inr (.inl ⟨a,JJ (by rw[h];exact b)⟩);exact .inr (.inr (.inl ⟨a,JJ (by rw[h];exact b),JJ (by rw[h];exact c),e⟩));exact .inr (.inr (.inr ⟨a,Sv.Bn Z⟩))
theorem VH{its:List Itm}(G:∀x,WOk n nx x->Base' n nx x)(A:CP lab n.2.2.2.1.length l4 l5 [] 0 ds)(j:Jf (iT n nx) sb ds=some its):
  ∀i∈its,WOk n nx i.post->NF n nx ds i.post->i.stops=uh n nx i.post.2.1 i.post.2.2.1 i.post.2.2.2.2/\i.off=i.post.2.2.1/\i.lost=false/\i.lb=i.post.1:=by
 unfold Jf at j;cases e:FC (iT n nx) sb ds ([],[])with
 |none=>rw[e]at j;cases j
 |some s=>
  rw[e]at j;have h0:Inv n nx ds 0 ([],[]):=⟨by simp,λc hc=>(by cases hc),λi u=>(by cases u)⟩;obtain⟨T,u,hT⟩:=QP G ds (λd h=>h) h0 rfl A e;obtain⟨g1,_⟩:=SB (T':=sI) G u j (by unfold sI;omega);intro i u A hn;obtain⟨z,X,f3⟩:=g1.it i u A hn;have f:i.off=i.post.2.2.1:=by
   by_cases f:i.off=i.post.2.2.1;exact f;exfalso;obtain⟨e1,e2,_⟩:=z.go f;obtain⟨k,hk,_⟩:=z.way;obtain⟨k',_,h1,h2,_⟩:=jo f hk;have y:=G _ A;have:=(y.bnd _ _ (y.cell _ X.1 X.2 h1) h2).2;have L:=f3 f;rw[e2,e1]at L;unfold sI at L;omega
  exact⟨Xw z f,f,z.lost,z.lb⟩
end
end Go.Eng.Top
namespace Go.Eng.Top
open Go.Proofs
open Go.Eng.Sv (Net fk C4 dfD oz hasB isPost fh pB mZ pA tI Jg pcF)
def posts(pre:List bZ):List ByteArray:=(pre.filter λd=>decide (d.1=1)).map λd=>d.2.2.1.1
theorem aBC{x y:ByteArray}(h:x.toList=y.toList):x=y:=str_inj (by rwa [ByteArray.toList_eq,ByteArray.toList_eq]at h)
theorem CN{pre:List bZ}{lb:ByteArray}:hasB pre lb=true↔lb∈posts pre:=by
 unfold hasB posts isPost;rw[xO];simp only[qE,qF,yX,vW,yY];exact⟨λ⟨d,h,k,e⟩=>⟨d,⟨h,k⟩,aBC e⟩,λ⟨d,⟨h,k⟩,e⟩=>⟨d,h,k,by rw[e]⟩⟩
theorem N4(pre:List bZ)(d:bZ):posts (pre++[d])=nxP (posts pre) d:=by
 unfold posts nxP;rw[yJ,zS];by_cases k:d.1=1;simp[k];simp[k]
theorem V7(l:List bZ):pcF l=((posts l).length:Int):=by
 unfold pcF posts;rw[vX]
theorem SX{n:Net}{ds:List bZ}(h:fk n ds=true):∀(f pre:List bZ) (T:Int),ds=pre++f->((pre=[]/\T=0)\/(pre≠[]/\T=(ds.getD (pre.length-1) dfD).2.1))->CP fh n.2.2.2.1.length n.2.2.2.2.1.length n.2.2.2.2.2.length (posts pre) T f
 |[],_,_,_,_=>trivial|d::f,pre,T,e,hT=>by
  unfold fk at h;simp only[qE,qW,wJ,qF]at h;obtain⟨⟨h1,h2⟩,h3⟩:=h;have hl:pre.length<ds.length:=by rw[e];simp
  have hd:ds.getD pre.length dfD=d:=by rw[e];simp
  have ht:ds.take pre.length=pre:=by rw[e];simp
  have y:=h1 pre.length hl;unfold C4 at y;rw[hd,ht]at y;simp only[qE,yM,qF]at y;obtain⟨⟨⟨t0,t1⟩,u⟩,j⟩:=y;have G:T<=d.2.1:=by
   rcases hT with⟨_,rfl⟩|⟨A,rfl⟩;exact t0;rcases u with u|u;exact absurd (vK u) A;exact u
  have hc:d.1=1->(posts pre).length<60:=λk=>by
   have h4:posts ds=(posts pre++[d.2.2.1.1])++posts f:=by
    unfold posts;rw[e,yJ,yP,if_pos (qR k)];simp
   rw[V7,h4,qG,qG,vC]at h3;omega
  refine⟨⟨G,t1,?_⟩,?_⟩;by_cases z:d.1=1;obtain⟨a,b,c1,c2,c3,c4⟩:=(pB z).1 j;exact .inl ⟨z,a,(λhm=>by rw[CN.2 hm]at b;cases b),hc z,c4,c1,c2,c3⟩;by_cases k2:d.1=2\/d.1=3;rw[mZ k2]at j;exact .inr (.inl ⟨k2,CN.1 j⟩);by_cases X:d.1=4;obtain⟨a,b,c⟩:=(pA X).1 j;exact .inr (.inr (.inl ⟨X,CN.1 a,CN.1 b,λe=>c (by rw[e])⟩));by_cases L:d.1=5;have:=(tI L).1 j;exact .inr (.inr (.inr ⟨L,this⟩));rw[Jg Z]at j;cases j;rw[<- N4];exact SX (by unfold fk;simp only[qE,qW,wJ,qF];exact⟨⟨h1,h2⟩,h3⟩) f (pre++[d]) d.2.1 (by rw[e];simp) (.inr ⟨by simp,by rw[qG,vC,qBe,hd]⟩)
theorem SV{n:Net}{ds:List bZ}(h:fk n ds=true):CP fh n.2.2.2.1.length n.2.2.2.2.1.length n.2.2.2.2.2.length [] 0 ds:=SX h ds [] 0 rfl (.inl ⟨rfl,rfl⟩)
theorem Hf{s:ByteArray}(h:fh s=true):s.size<=1000:=by
 unfold fh at h;rw[qE,qF]at h;omega
open Go.Proofs Go.RowKit
open Go.Eng.Sv (Net Trk Tk De Stp M I S C Of Ln Kl G0 R iT aZ nP fk fh nR YP BR jb)
def lO(i:Itm):Trk:=(i.post,i.stops,i.lost,i.sL++[i.sn],i.bL++[i.lb],i.seals)
noncomputable def IX(n:Net)(nx:Lj)(ds:List bZ):Option (List Itm):=Jf (iT n nx) (sbD (iT n nx)) ds
def YW(its:List Itm):Bool:=decide (its.length<=120)&&its.all λi=>decide (i.done.length<=19)&&decide (i.bL.length<=120)
noncomputable def zv(n:Net)(nx:Lj)(ds:List bZ):List Trk:=match IX n nx ds with|some its=>if YW its=true then its.map lO else[]|none=>[]
noncomputable def VM(n:Net)(nx:Lj)(ds:List bZ):Int:=match IX n nx ds with|some _=>0|none=>2
def aGp(n:Net)(nx:Lj)(ds:List bZ):Prop:=aZ n=true/\nP n nx=true/\fk n ds=true
variable {W:World}{DD:Nat->Prop}
theorem S4{α:Type}{sz:Nat}:∀{bl:List (List α)}{i j:Nat}{c:List α}{u:α},(∀c∈bl,c.length=sz)->bl[i]?=some c->c[j]?=some u->bl.flatten[i*sz+j]?=some u
 |[],_,_,_,_,_,h,_=>by simp at h|b::bl,0,j,c,u,y,h,f=>by
  simp only[xK,vT]at h;subst h;rw[kG,xE,zG,vU (qC.1 f).1];exact f
 |b::bl,i+1,j,c,u,y,h,f=>by
  have z:=y b wL;rw[kG,qV (by rw[z,Nat.succ_mul];omega),z,Nat.succ_mul,show i*sz+sz+j-sz=i*sz+j by omega];exact S4 (λc h=>y c (wX _ h)) (by simpa using h) f
theorem Rj{t:Ty}{xs:List t.den}{bl:List (Lv)}{v:Value}{B E:Nat}(h:W.ownsRow B E t.sz v (List.length xs) bl.flatten)(hn:bl.length=List.length xs)(hs:∀c∈bl,c.length=t.sz)
  (hr:∀(i:Nat) (y:t.den) (c:Lv),(xs:List t.den)[i]?=some y->bl[i]?=some c->ae W DD t y c) (hD:∀b,B<=b->b<W.heap.size->DD b):ae W DD (.sl t) xs [v]:=by
 obtain⟨_,⟨rfl,z⟩|⟨g,A,cur,rfl,hg,hb,f,_,hsz,htk⟩⟩:=id h;have z:xs=[]:=vK z;subst z;exact⟨none,0,rfl,qL _,λ_=>rfl,λ_ h=>(by cases h),λi y h=>(by cases h)⟩;refine⟨_,A,rfl,f,λh=>(by cases h),λa h _=>(by cases h;rfl),λi y G=>?_⟩;have hi:i<bl.length:=by rw[hn];exact(qC.1 G).1
 have X:bl[i]?=some bl[i]:=qB hi;refine⟨_,bl[i],rfl,hD _ hg (qJ.1 hb).1,λj u hj=>?_,hr i y _ G X⟩;have L:=S4 hs X hj;show W.cell? ⟨g,0+i*t.sz+j,none⟩=some u;rw[zG,h.cellAt _ (by rw[<- h.1];exact(qC.1 L).1)];exact L
theorem Jp{t:Ty}{xs:List t.den}{f:t.den->Value}{v:Value}{B E:Nat}(h:W.ownsRow B E t.sz v (List.length xs) (xs.map f))(L:t.sz=1)(A:∀y:t.den,ae W DD t y [f y])(G:∀b,B<=b->b<W.heap.size->DD b):ae W DD (.sl t) xs [v]:=by
 refine Rj (bl:=xs.map λx=>[f x]) (E:=E) ?_ (by simp) (λc j=>?_) (λi y c z j=>?_) G;have e:(xs.map λx=>[f x]).flatten=xs.map f:=by
  clear h;induction xs with
  |nil=>rfl|cons x xs u=>rw[wV,kG,u];rfl
 rw[e];exact h;obtain⟨x,_,rfl⟩:=vW.1 j;rw[L];rfl;rw[qQ,z]at j;cases j;exact A y
theorem aBA{v:Value}{its:List Itm}{X:List Gh}{B:Nat}(h:aF7 W B v (its.map Itm.raw) X)(G:∀b,B<=b->b<W.heap.size->DD b):ae W DD (.sl Tk) (its.map lO) [v]:=by
 have hl:X.length=its.length:=by simpa using h.len
 refine Rj (t:=Tk) (bl:=(X.zip (its.map Itm.raw)).map λp=>Yj p.1 p.2) (E:=55) (B:=B) ?_ (by simp[hl]) (λc u=>?_) (λi y c A u=>?_) G;have:=h.row;rw[vX]at this;show W.ownsRow B 55 10 v (List.length (its.map lO)) _;rw[vX];exact this;obtain⟨p,_,rfl⟩:=vW.1 u;rfl;rw[qQ]at u A;obtain⟨p,hp,rfl⟩:=gB.1 u;obtain⟨g,r⟩:=p;rw[List.getElem?_zip_eq_some]at hp;obtain⟨L,z⟩:=hp;rw[qQ]at z;obtain⟨j,hi,rfl⟩:=gB.1 z;rw[hi]at A;cases A;have z:(its.map Itm.raw)[i]?=some j.raw:=by rw[qQ,hi];rfl
 have st:ae W DD (.sl Stp) j.stops [g.st]:=by
  refine Rj (t:=Stp) (bl:=j.stops.map kO) (E:=61) (B:=B) ?_ (by simp) (λc u=>?_) (λi y c A u=>?_) G;exact h.st i g _ L z;obtain⟨x,_,rfl⟩:=vW.1 u;rfl;rw[qQ,A]at u;cases u;exact⟨[.int .i64 y.1],_,rfl,rfl,[.int .i64 y.2.1],_,rfl,rfl,[.int .i64 y.2.2.1],[.int .i64 y.2.2.2],rfl,rfl,rfl⟩
 have si:ae W DD (.sl I) (j.sL++[j.sn]) [g.si]:=Jp (t:=I) (f:=Value.int .i64) (h.si i g _ L z) rfl (λ_=>rfl) G;have la:ae W DD (.sl S) (j.bL++[j.lb]) [g.la]:=Jp (t:=S) (f:=Value.string) (h.la i g _ L z) rfl (λ_=>rfl) G;have se:ae W DD (.sl S) j.seals [g.se]:=Jp (t:=S) (f:=Value.string) (h.se i g _ L z) rfl (λ_=>rfl) G;exact⟨[.string j.post.1,.int .i64 j.post.2.1,.int .i64 j.post.2.2.1,.int .i64 j.post.2.2.2.1,.int .i64 j.post.2.2.2.2],_,rfl,⟨[_],_,rfl,rfl,[_],_,rfl,rfl,[_],_,rfl,rfl,[_],[_],rfl,rfl,rfl⟩,[g.st],_,rfl,st,[.bool j.lost],_,rfl,rfl,[g.si],_,rfl,si,[g.la],[g.se],rfl,la,se⟩
theorem aFq{ds:List Sv.bZ}{v:Value}(h:ae W DD (.sl De) ds [v])(hD:∀b,DD b->b<W.heap.size):∃(A:Option Addr) (y:Nat),v=.slice A ds.length y/\aBr W A ds:=by
 obtain⟨ao,y,rfl,hr⟩:=nR h;refine⟨ao,y,rfl,λk e he=>?_⟩;obtain⟨b,f,us,e1,hb,hc,hu⟩:=hr k e he;obtain⟨_,_,rfl,g1,_,_,rfl,g2,_,_,rfl,⟨_,_,rfl,p1,_,_,rfl,p2,_,_,rfl,X,_,_,rfl,L,G⟩,_,_,rfl,g3,_,_,rfl,g4,g5⟩:=hu;obtain rfl:=(g1:_=[Value.int .i64 e.1]);obtain rfl:=(g2:_=[Value.int .i64 e.2.1]);obtain rfl:=(p1:_=[Value.string e.2.2.1.1]);obtain rfl:=(p2:_=[Value.int .i64 e.2.2.1.2.1]);obtain rfl:=(X:_=[Value.int .i64 e.2.2.1.2.2.1]);obtain rfl:=(L:_=[Value.int .i64 e.2.2.1.2.2.2.1]);obtain rfl:=(G:_=[Value.int .i64 e.2.2.1.2.2.2.2]);obtain rfl:=(g3:_=[Value.string e.2.2.2.1]);obtain rfl:=(g4:_=[Value.string e.2.2.2.2.1]);obtain rfl:=(g5:_=[Value.int .i64 e.2.2.2.2.2]);refine⟨b,f,e1,hD _ hb,λj u z=>hc j u ?_⟩;rw[<- yB]at z;exact z
theorem aEi(p1 p2:Int)(nx:Lj)(dy:List (Lj))(ds:List Sv.bZ)(A:Sv.LC)(u j:Sv.LB)(f:List Sv.Off)(ls:List Sv.Line)(z:List Sv.Cla):
  aj Tryz.prog G0 13 [Sv.net A u j f ls z,.agg [.dat I p1,.dat I p2,.dat M nx,.dat (.sl M) dy],.dat (.sl De) ds] [] ⟨aGp (A,u,j,f,ls,z) nx ds,.tup [.dat (.sl Tk) (zv (A,u,j,f,ls,z) nx ds),.dat I (VM (A,u,j,f,ls,z) nx ds)],[]⟩:=by
 rintro⟨hs,ht,hd⟩ w D E us hD hG hargs hH;obtain⟨_,_,rfl,⟨_,rfl,v1,_,rfl,h1,v2,_,rfl,h2,v3,_,rfl,h3,v4,_,rfl,h4,v5,_,rfl,h5,v6,_,rfl,h6,rfl⟩,_,_,rfl,⟨_,rfl,q1,_,rfl,i1,q2,_,rfl,i2,vx,_,rfl,hx,q4,_,rfl,i4,rfl⟩,vd,_,rfl,hds,rfl⟩:=hargs;have env:=YP A u j f ls z hD hG h1 h2 h3 h4 h5 h6 hx hs ht;obtain⟨a4,c4,e4,_⟩:=nR h4;obtain⟨a5,c5,e5,_⟩:=nR h5;obtain⟨a6,c6,e6,_⟩:=nR h6;obtain⟨ax,cx,ex,_⟩:=nR hx;obtain⟨ad,cd,ed,hda⟩:=aFq hds hD;subst e4 e5 e6 ex ed;have hno:=Sv.gZ A u j f ls z hs;have l40:=(Sv.mj A u j f ls z hno).1;have hfo:=SV hd;have hde:=hd;unfold fk at hde;simp only[qE,qF]at hde;have up:∀{V:World},Below w.heap.size w V->(∀b,D b->b<V.heap.size)/\jG Tryz.prog ⟨V,D,noM,noE⟩ G0/\(∀{t:Ty}{x:t.den}{us:Lv},ae w D t x us->ae V D t x us):=λ{V} X=>
  ⟨λb h=>qK (hD b h) X.size,jG.mono (show Later ⟨w,D,bH [],E⟩ ⟨V,D,noM,noE⟩from⟨λ_ h=>h,λb h=>X.block b (hD b h)⟩) hG,λh=>au (λ_ h=>h) (λb hb=>X.block b (hD b hb)) h⟩
 have fit:jb nx:=by
  have e:(nx.length:Int)=f.length:=by
   unfold nP at ht;simp only[qE,qF]at ht;exact ht.1
  have l12:=(Sv.BQ A u j f ls z hno).1;refine⟨Z,λr hr=>?_⟩;obtain⟨i,hi,rfl⟩:=yG.1 hr;have h:=(Sv.ou (n:=(A,u,j,f,ls,z)) e).1 ht i Z;rw[qA,qB hi,vJ]at h;unfold Sv.rowOk at h;simp only[qE,qF]at h;have h1:((nx[i].length:Nat):Int)=f.length:=h.1;omega
 have hc:=aFv (W:=w) (d:=iT (A,u,j,f,ls,z) nx) (lab:=fh) (p0:=q1) (p1:=q2) (p3:=q4) (cd:=cd) hde.1.2 hda env (λV X=>by
   obtain⟨g1,g2,G⟩:=up X;refine((Sv.KQ A u j f ls z).data trivial g1 g2 (BR (E:=noE) A u j f ls z (G h1) (G h2) (G h3) (G h4) (G h5) (G h6) rfl)).mono ?_;rintro e w' ⟨v,rfl,hb,L⟩;have L:[v]=[Value.bool (aZ (A,u,j,f,ls,z))]:=L;cases L;rw[hs];exact⟨rfl,hb⟩) (λV X=>by
   obtain⟨g1,g2,G⟩:=up X;refine((Sv.Zr nx A u j f ls z).data fit g1 g2 (BR (E:=noE) A u j f ls z (G h1) (G h2) (G h3) (G h4) (G h5) (G h6) ⟨_,_,rfl,G hx,rfl⟩)).mono ?_;rintro e w' ⟨v,rfl,hb,L⟩;have L:[v]=[Value.bool (nP (A,u,j,f,ls,z) nx)]:=L;cases L;rw[ht];exact⟨rfl,hb⟩) (λV s hz=>by
   refine((Sv.Qo s).data (D:=λ_=>False) (us:=[.string s]) (by unfold Sv.yg;omega) (λb h=>h.elim) (λp h=>by cases h) ⟨_,_,rfl,rfl,rfl⟩).mono ?_;rintro e w' ⟨v,rfl,hb,L⟩;have L:[v]=[Value.bool (fh s)]:=L;cases L;exact⟨rfl,hb⟩) (λs h=>Hf h) hfo (YC (λs h=>Hf h) (by show ls.length<=100000;omega) ds (qN 0) rfl hfo)
 refine hc.mono ?_;rintro e w' ⟨X,h⟩;have left:Left Tryz.prog (bH []) [] w D E w' (λb=>D b\/gv w w' b) E:=⟨(Chg.refl _ _).below X,λ_ h=>.inl h,λb h=>h.imp id λh=>.inl h.1,λb h=>h.elim (λh=>qK (hD b h) X.size) λh=>h.2,Held.none _ _ _ _,λnm b b' g=>(by cases g),λnm b b' g=>(by cases g),λnm b _ g=>(by cases g),λnm i b g=>(iU g).elim⟩;rcases h with⟨its,v,gs,hr,rfl,hT,hq,hok⟩|⟨hr,rfl⟩;refine⟨_,_,E,rfl,left,?_⟩;have e1:zv (A,u,j,f,ls,z) nx ds=its.map lO:=by
  unfold zv IX;rw[hr];refine if_pos ?_;unfold YW;simp only[qE,qF,qW];exact⟨hq,λi hi=>⟨(hok i hi).1.dl,vP (hok i hi).1.bl hde.1.2⟩⟩
 have e2:VM (A,u,j,f,ls,z) nx ds=0:=by unfold VM IX;rw[hr]
 rw[e1,e2];exact⟨[v,.int .i64 0],rfl,v,_,rfl,aBA hT (λb h1 h2=>.inr ⟨h1,h2⟩),_,_,rfl,rfl,rfl⟩;refine⟨_,_,E,rfl,left,?_⟩;have e1:zv (A,u,j,f,ls,z) nx ds=[]:=by unfold zv IX;rw[hr]
 have e2:VM (A,u,j,f,ls,z) nx ds=2:=by unfold VM IX;rw[hr]
 rw[e1,e2];exact⟨[.slice none 0 0,.int .i64 2],rfl,_,_,rfl,⟨none,0,rfl,qL _,λ_=>rfl,λ_ h=>(by cases h),λi y h=>(by cases h)⟩,_,_,rfl,rfl,rfl⟩
end Go.Eng.Top
noncomputable section
namespace Go.Eng.Sv
open Go.Proofs
abbrev Df:Ty:=.pair I (.pair I (.pair S (.pair I (.pair I (.pair I (.pair I (.pair S (.pair S I))))))))
abbrev jm:=Int×Int×ByteArray×Int×Int×Int×Int×ByteArray×ByteArray×Int
def nst(d:jm):bZ:=(d.1,d.2.1,(d.2.2.1,d.2.2.2.1,d.2.2.2.2.1,d.2.2.2.2.2.1,d.2.2.2.2.2.2.1),d.2.2.2.2.2.2.2.1,d.2.2.2.2.2.2.2.2.1,d.2.2.2.2.2.2.2.2.2)
def lP(ds:List jm):List bZ:=ds.map nst
def dfF:jm:=(0,0,⟨#[]⟩,0,0,0,0,⟨#[]⟩,⟨#[]⟩,0)
def Je(n:Net)(nx:Lj)(ds:List bZ):List Trk:=Top.zv n nx ds
def aCe(n:Net)(nx:Lj)(ds:List bZ):Int:=Top.VM n nx ds
abbrev aCd(n:Net)(nx:Lj)(ds:List bZ):Prop:=aZ n=true/\nP n nx=true/\fk n ds=true
def zCs:List (Int×List Bool×Li):=[(0,[true,true,true,true,true,false,false],[])]
def zNs:List ByteArray:=[⟨#[99]⟩]
def zOs:List ByteArray:=[⟨#[112]⟩,⟨#[113]⟩]
def zFs:Lo:=[(⟨#[97]⟩,0,0,2,1,10,[]),(⟨#[98]⟩,1,0,2,1,10,[])]
def zLs:Ll:=[(⟨#[108]⟩,0,1,480,120,1),(⟨#[109]⟩,1,0,600,60,1)]
def zKs:Lk:=[(⟨#[107]⟩,1020,720)]
def S7(n:Net)(nx:Lj)(ds:List jm):Bool:=Ig n nx (lP ds)&&aZ n&&aCg n nx&&fk n (lP ds)
def Xt(nx:Lj)(ds:List jm):Prop:=jb nx/\nH (lP ds)
def mB(n:Net)(p:Plan)(x:Post):Bool:=decide (UJ n x.2.2.2.1 x.2.1 x.2.2.2.2=0)&&decide (DV n p.2.2.2 x=0)&&decide (DU n p.2.2.1 x.2.1 x.2.2.1 x.2.2.2.2=0)&&!(decide ((rL n p.2.2.1 x.2.1 x.2.2.1 x.2.2.2.2).length=0))&&!(decide (PG n x.2.2.2.1 x.2.1 x.2.2.2.2<1440*p.1))&&!(decide (1440*p.2.1<=PG n x.2.2.2.1 x.2.1 x.2.2.2.2))
def Ci(n:Net)(p:Plan)(x:Post):Bool:=decide (Ky n x.2.2.2.1 x.2.2.1 (iZ (rL n p.2.2.1 x.2.1 x.2.2.1 x.2.2.2.2)).2.1=0)
def tj(n:Net)(p:Plan)(t:Trk):Bool:=!(mB n p t.1)||!(Ci n p t.1)||(I0 n t&&decide (dvD n t<=PE n p.2.2.2 t.1))
def Si(p:Plan)(t:Trk):Prop:=(0<=p.1/\p.1<=1000000/\0<=p.2.1/\p.2.1<=1000000)/\jb p.2.2.1/\fitsT p.2.2.2/\dvP t.2.1 t.2.2.2.2.1
abbrev Hg:=aA [] (λ_=>True) λ_=>.agg [.dat (.sl C) zCs,.dat (.sl S) zNs,.dat (.sl S) zOs,.dat (.sl Of) zFs,.dat (.sl Ln) zLs,.dat (.sl Kl) zKs]
def KY1:Kt:=kOr 20 Hg <|
 kOr 7 (aA [.val R] (λ(l,_)=>Go.Eng.In.aBk l) λ(l,_)=>.dat I (Go.Eng.In.fR l)) <|
 kOr 8 (aA [.row N,.row Go.Eng.In.Ce] (λ_=>True) λ(n,c,_)=>.dat .bool (Go.Eng.In.sO n c.1)) <|
 kOr 10 (aA [.row N,.row Go.Eng.In.Ce] (λ(n,c,_)=>Go.Eng.In.Ar c.1/\Go.Eng.In.Ak n) λ(n,c,_)=>.dat I (Go.Eng.In.iP n c.1 c.2)) <|
 kOr 11 (aA [.row Go.Eng.In.Ce] (λ(c,_)=>Go.Eng.In.Ar c.1) λ(c,_)=>.tup [.agg [.dat I (Go.Eng.In.pK c).1,.dat I (Go.Eng.In.pK c).2.1,.dat M (Go.Eng.In.pK c).2.2.1,.dat (.sl M) (Go.Eng.In.pK c).2.2.2],.dat I (Go.Eng.In.Gx c)]) <|
 kOr 13 (aA [.row N,.row Pl,.val (.sl Df)] (λ(n,p,f,_)=>aCd n p.2.2.1 (lP f)) λ(n,p,f,_)=>.tup [.dat (.sl Tk) (Je n p.2.2.1 (lP f)),.dat I (aCe n p.2.2.1 (lP f))]) <|
 kOr 22 Ht <|
 kOr 17 (aA [.row N,.row Pl,.val (.sl Df)] (λ_=>True) λ(n,p,f,_)=>.dat .bool (Ig n p.2.2.1 (lP f))) <|
 kOr 35 AE <|
 kOr 36 (aA [.row N,.val (.sl Df)] (λ(_,f,_)=>nH (lP f)) λ(n,f,_)=>.dat .bool (fk n (lP f))) <|
 kOr 42 MN <|
 kOr 21 ML <|
 kOr 15 Hh KX2
theorem aBI:eO 20 Hg:=af λ_=>by
 refine zE (A:=aG) (p:=let f:=((0:Int),(2:Int),(1:Int),(10:Int),Du ByteArray);(True->L4 1 0 1 1 0 1 1 0 1 (z8 1 0 1 0 1 0 1 0 ([((0:Int),[true,true,true,true,true,false,false],Du Int)]=zCs/\[ByteArray.mk #[(99:UInt8)]]=zNs/\[ByteArray.mk #[(112:UInt8)],ByteArray.mk #[(113:UInt8)]]=zOs/\[(ByteArray.mk #[(97:UInt8)],(0:Int),f),(ByteArray.mk #[(98:UInt8)],(1:Int),f)]=zFs/\[(ByteArray.mk #[(108:UInt8)],(0:Int),(1:Int),(480:Int),(120:Int),(1:Int)),(ByteArray.mk #[(109:UInt8)],(1:Int),(0:Int),(600:Int),(60:Int),(1:Int))]=zLs/\[(ByteArray.mk #[(107:UInt8)],(1020:Int),(720:Int))]=zKs/\True)))) aBp λ_=>?_;refine Z9 ?_;exact⟨rfl,rfl,rfl,rfl,rfl,rfl⟩
theorem Rq{w:World}{D:Nat->Prop}{ds:List jm}{us:Lv}(h:ae w D (.sl Df) ds us):ae w D (.sl De) (lP ds) us:=by
 obtain⟨ao,f,rfl,h1,h2,h3,h4⟩:=h;have z:(lP ds).length=ds.length:=vX _;refine⟨ao,f,by show _=[Value.slice ao (lP ds).length f];rw[z],by show(lP ds).length<=f;rw[z];exact h1,h2,λa e h=>h3 a e (by have h:0<(lP ds).length:=h;rw[z]at h;exact h),λi y u=>?_⟩;have u:(ds.map nst)[i]?=some y:=u;rw[qQ]at u;obtain⟨d,hd,rfl⟩:=gB.1 u;obtain⟨a,ue,e1,e2,e3,e4⟩:=h4 i d hd;refine⟨a,ue,e1,e2,e3,?_⟩;obtain⟨u1,_,rfl,g1,u2,_,rfl,g2,u3,_,rfl,g3,u4,_,rfl,g4,u5,_,rfl,g5,u6,_,rfl,g6,X,_,rfl,g7,L,_,rfl,g8,G,j,rfl,g9,A⟩:=e4;refine⟨u1,_,rfl,g1,u2,_,rfl,g2,u3++(u4++(u5++(u6++X))),L++(G++j),by simp,⟨u3,_,rfl,g3,u4,_,rfl,g4,u5,_,rfl,g5,u6,X,rfl,g6,g7⟩,L,_,rfl,g8,G,j,rfl,g9,A⟩
theorem Rt{C:Ctx}{a b:AV}{ds:List jm}{us:Lv}(h:AV.relL Tryz.prog C [a,b,.dat (.sl Df) ds] us):AV.relL Tryz.prog C [a,b,.dat (.sl De) (lP ds)] us:=by
 obtain⟨u,_,rfl,G,j,_,rfl,A,f,_,rfl,z,y⟩:=h;exact⟨u,_,rfl,G,j,_,rfl,A,f,_,rfl,Rq z,y⟩
theorem Ws{C:Ctx}{a:AV}{ds:List jm}{us:Lv}(h:AV.relL Tryz.prog C [a,.dat (.sl Df) ds] us):AV.relL Tryz.prog C [a,.dat (.sl De) (lP ds)] us:=by
 obtain⟨j,_,rfl,z,f,_,rfl,y,u⟩:=h;exact⟨j,_,rfl,z,f,_,rfl,Rq y,u⟩
theorem aD0:ay Tryz.prog G0 KY1:=ai aBI<|ai (af λ(l,_)=>OG (Go.Eng.In.P7 l))<|ai (af λ((A,j,f,z,u,y),c,_)=>OG (Go.Eng.In.Ve c.2 c.1 A j f z u y))<|ai (af λ((A,j,f,z,u,y),c,_)=>OG (Go.Eng.In.ZP c.2 c.1 A j f z u y))<|ai (af λ(c,_)=>OG (Go.Eng.In.aBY c.2 c.1))<|ai (af λ((A,j,f,z,u,y),(p1,p2,nx,L),G,_)=>(Top.aEi p1 p2 nx L (lP G) A j f z u y).args λ_ _ _ h=>Rt h)<|ai aBT<|ai (af λ((A,j,f,z,u,y),(p1,p2,nx,L),G,_)=>(ZL (lP G) p1 p2 nx L A j f z u y).args λ_ _ _ h=>Rt h)<|ai Zy<|ai (af λ((A,j,f,z,u,y),G,_)=>(ZN (lP G) A j f z u y).args λ_ _ _ h=>Ws h)<|ai t_Cut<|ai aER<|ai aBK aBp
theorem Xv{n:Net}{nx:Lj}(h:Go.Eng.In.smF n nx=true):nY n=true:=by
 unfold Go.Eng.In.smF at h;simp only[qE]at h;have f:=Go.Eng.In.fP.1 h.1.1;unfold nY;rw[qE];exact⟨f.1,f.2.2.1⟩
theorem Yf{n:Net}{nx:Lj}{tz:Int}:∀(k:Nat) (o t:Int),(iR n nx tz k o t).1.length<=k+1
 |k,o,t=>by
  by_cases f:o=tz;rw[nK k f];simp;by_cases h:nxt nx o tz=-1;rw[gX k f h];simp;by_cases j:od n (nxt nx o tz) (aJ n o t)=0;case neg=>rw[kz k f h j];simp
  cases k with
  |zero=>rw[iG f h j];simp|succ k=>
   rw[iF k f h j];have u:=Yf (n:=n) (nx:=nx) (tz:=tz) k (lT n (nxt nx o tz)) (lB n (nxt nx o tz) (aJ n o t)+cz n (nxt nx o tz));unfold Ae;split;rw[qG,vC];omega;exact wK _
theorem Yg{n:Net}{nx:Lj}{o tz t:Int}:(rL n nx o tz t).length<=20:=by
 unfold rL;split;exact Yf 19 _ _;exact wK _
theorem aBS(ds:List jm)(p1 p2:Int)(nx:Lj)(dy:List (Lj))(L:LC)(u j:LB)(G:Lo)(y:Ll)(z:Lk):aj Tryz.prog G0 12 [net L u j G y z,.agg [.dat I p1,.dat I p2,.dat M nx,.dat (.sl M) dy],.dat (.sl Df) ds] [] ⟨Xt nx ds,.dat .bool (S7 (L,u,j,G,y,z) nx ds),[]⟩:=by
 refine zE (A:=aG) (p:=let f:=(L,u,j,G,y,z);let c2:=Ig f nx (lP ds);let c3:=Dy c2 (aZ f) false;let X:=Dy c3 (aCg f nx) false;(Xt nx ds->True/\L5 c2 ((c2->nY f)/\(Dh true c2->c2)/\Q2 c3 ((c3->nY f/\jb nx)/\(Dh true c3->c3)/\Q2 X ((X->nH (lP ds))/\(Dh true X->X)/\Dy X (fk f (lP ds)) false=S7 f nx ds/\True))))) aD0 λhp=>?_;refine Z9 ?_;have hk:Ig (L,u,j,G,y,z) nx (lP ds)=true->nY (L,u,j,G,y,z)=true:=λh=>by
  unfold Ig at h;rw[qE]at h;exact Xv h.1
 exact⟨hk,λh=>⟨hk h.1,hp.1⟩,λ_=>hp.2,rfl⟩
theorem aBP(f:Post)(st:List Stop)(lo:Bool)(si:Li)(la se:List ByteArray)(p1 p2:Int)(nx:Lj)(X:List (Lj))(L:LC)(u j:LB)(G:Lo)(y:Ll)(z:Lk):aj Tryz.prog G0 14 [net L u j G y z,.agg [.dat I p1,.dat I p2,.dat M nx,.dat (.sl M) X],.agg [.dat .str f.1,.dat I f.2.1,.dat I f.2.2.1,.dat I f.2.2.2.1,.dat I f.2.2.2.2,.dat (.sl Stp) st,.dat .bool lo,.dat R si,.dat (.sl S) la,.dat (.sl S) se]] [] ⟨Si (p1,p2,nx,X) (f,st,lo,si,la,se),.dat .bool (tj (L,u,j,G,y,z) (p1,p2,nx,X) (f,st,lo,si,la,se)),[]⟩:=by
 refine zE (A:=aG) (p:=let h:=f.2;let c5:=h.2.2;let c1:=(p1,p2,nx,X);let c2:=(st,lo,si,la,se);let c3:=(f,c2);let c4:=(L,u,j,G,y,z);let c11:=Ea (UJ c4 c5.1 h.1 c5.2) 0;let A:=Dj c11;let c15:=Dy c11 true (Ea (DV c4 X f) 0);let c16:=Dj c15;let c17:=Dy c15 true (Ea (DU c4 nx h.1 h.2.1 c5.2) 0);let c18:=Dj c17;let c19:=rL c4 nx h.1 h.2.1 c5.2;let c20:=Di c19;let c21:=Dy c17 true (Ed c20 0);let c22:=Dj c21;let c23:=1440*p1;let c24:=PG c4 c5.1 h.1 c5.2;let c25:=Dy c21 true (Dn c24 c23);let c26:=Dj c25;let c27:=1440*p2;let c28:=Dy c25 true (Eb c24 c27);let c29:=tj c4 c1 c3;let c30:=c20-1;let c31:=Ea (Ky c4 c5.1 h.2.1 (Dw c19 (Dc c30) ((0:Int),(0:Int),(0:Int),(0:Int))).2.1) 0;let c32:=(f,c2);let c33:=I0 c4 c32;(Si c1 c3->L4 1 0 1 1 0 1 1 0 1 (L7 1 0 (True/\L7 1 0 (fitsT X/\L4 1 1 0 1 1 0 1 1 0 (jb nx/\L5 A ((Dh true A->A)/\L5 c16 ((Dh true c16->c16)/\Q2 c18 ((Dh true c18->c18)/\Q2 c22 ((c22->inR .i64 c23)/\Q2 c22 ((Dh true c22->c22)/\Q2 c26 ((c26->inR .i64 c27)/\Q2 c26 ((Dh true c26->c26)/\(c28->true=c29/\True)/\(c28=false->w6 1 1 0 1 1 0 (inR .i64 c30/\0<=c30/\c30<c20/\True/\(c31->true=c29/\True)/\(c31=false->dvP st la/\Q2 c33 ((Dh true c33->c33)/\Dy c33 (Ef (dvD c4 c32) (PE c4 X f)) false=c29/\True))))))))))))))))) aD0 λhp=>?_;refine Z9 ?_;obtain⟨⟨a0,a1,a2,a3⟩,hm',ht,hd⟩:=hp;simp only at a0 a1 a2 a3;have hwl:(rL (L,u,j,G,y,z) nx f.2.1 f.2.2.1 f.2.2.2.2).length<=20:=Yg;refine⟨ht,hm',λ_=>?_,λ_=>?_,λh=>?_,λ⟨⟨⟨⟨⟨g1,g2⟩,g3⟩,g4⟩,g5⟩,g6⟩=>?_⟩;unfold inR;simp only;omega
 unfold inR;simp only;omega;symm;unfold tj;rw[yM,yM];refine .inl (.inl ?_);unfold mB;simp only[zB,Bool.and_eq_false_imp,qE,qF,wG,kD,and_imp];intro b1 b2 b3 b4 b5;rcases h with((((h|h)|h)|h)|h)|h;exact absurd b1 h;exact absurd b2 h;exact absurd b3 h;omega;omega;exact h;have el:iZ (rL (L,u,j,G,y,z) nx f.2.1 f.2.2.1 f.2.2.2.2)=(rL (L,u,j,G,y,z) nx f.2.1 f.2.2.1 f.2.2.2.2).getD (((rL (L,u,j,G,y,z) nx f.2.1 f.2.2.1 f.2.2.2.2).length:Int)-1).toNat (0,0,0,0):=by
  unfold iZ;rw[show((rL (L,u,j,G,y,z) nx f.2.1 f.2.2.1 f.2.2.2.2).length:Int)-1=(((rL (L,u,j,G,y,z) nx f.2.1 f.2.2.1 f.2.2.2.2).length-1:Nat):Int) by omega];rfl
 refine⟨by unfold inR;simp only;omega,Z,Z,λhD=>?_,λhD=>⟨hd,?_⟩⟩;have e:Ci (L,u,j,G,y,z) (p1,p2,nx,X) (f.1,f.2.1,f.2.2.1,f.2.2.2.1,f.2.2.2.2)=false:=by
  unfold Ci;show decide (Ky (L,u,j,G,y,z) f.2.2.2.1 f.2.2.1 (iZ (rL (L,u,j,G,y,z) nx f.2.1 f.2.2.1 f.2.2.2.2)).2.1=0)=false;rw[el];exact qY hD
 unfold tj;rw[e];simp;have e1:mB (L,u,j,G,y,z) (p1,p2,nx,X) (f.1,f.2.1,f.2.2.1,f.2.2.2.1,f.2.2.2.2)=true:=by
  unfold mB;simp only[qE,qF,zB,wG];exact⟨⟨⟨⟨⟨g1,g2⟩,g3⟩,Z⟩,g5⟩,g6⟩
 have e2:Ci (L,u,j,G,y,z) (p1,p2,nx,X) (f.1,f.2.1,f.2.2.1,f.2.2.2.1,f.2.2.2.2)=true:=by
  unfold Ci;show decide (Ky (L,u,j,G,y,z) f.2.2.2.1 f.2.2.1 (iZ (rL (L,u,j,G,y,z) nx f.2.1 f.2.2.1 f.2.2.2.2)).2.1=0)=true;rw[el];exact qR hD
 unfold tj;show _=(!(mB (L,u,j,G,y,z) (p1,p2,nx,X) (f.1,f.2.1,f.2.2.1,f.2.2.2.1,f.2.2.2.2))||!(Ci (L,u,j,G,y,z) (p1,p2,nx,X) (f.1,f.2.1,f.2.2.1,f.2.2.2.1,f.2.2.2.2))||_);rw[e1,e2];rfl
end Go.Eng.Sv
namespace Go.Eng.Top
open Go.Proofs
open Go.Eng.Sv (Net Stop Trk nxt iR uh zf kA rL DU iZ I0 dvD Ye Ky UJ PG DV PE mB Ci tj aZ nP fk cA Cb Ae BM pJ nK gX kz iG iF Tv pg uO Aq nz gZ)
open Go.Eng.In (Acc ah Ak Ar D9)
theorem base_of{n:Net}{nx:Lj}(hs:aZ n=true)(ht:nP n nx=true):∀x,WOk n nx x->Base' n nx x:=by
 obtain⟨G,j,f,A,u,y⟩:=n;intro x hx;have L:=gZ G j f A u y hs;refine⟨λl t X=>Tv G j f A u y hs X,λo o0 o1 h=>?_,λo o0 o1 t=>?_,λl X=>?_,λl t X he=>?_⟩;obtain⟨_,_,z⟩:=pg G j f A u y ht o0 o1 hx.2.1 hx.2.2;exact⟨L,(z h).1.1,(z h).1.2⟩;have:=(uO G j f A u y (t:=t) ⟨L,o0,o1⟩).1;omega;obtain⟨_,_,h1,h2,_,_,z,_⟩:=Aq G j f A u y X;exact⟨h1,h2,z⟩;obtain⟨h1,h2,z,h4⟩:=nz G j f A u y X he;exact⟨z,Z⟩
theorem PL{n:Net}{nx:Lj}{tz:Int}:∀(k:Nat) (o t:Int),(iR n nx tz k o t).2=0->∃s:Stop,(iR n nx tz k o t).1.getLast?=some s/\s.1=tz/\s.2.2.1=-1
 |k,o,t,h=>by
  by_cases f:o=tz;rw[nK k f];exact⟨_,rfl,f,rfl⟩;obtain⟨j,rfl,L,G,y,u⟩:=jo f h;obtain⟨s,A,z⟩:=PL j _ _ y;refine⟨s,?_,z⟩;rw[u,List.getLast?_cons,A];rfl
theorem LP{l:List Stop}{s:Stop}(h:l.getLast?=some s):iZ l=s:=by
 unfold iZ;rw[List.getLast?_eq_getElem?]at h;rw[qA,h];rfl
theorem R2{n:Net}{l:Li}{ds:List bZ}{its:List Itm}{i:Itm}(hn:Ak n)(ll:Ar l)(ac:Acc n l)(hs:aZ n=true)(ht:nP n (ah l).2.2.1=true)(hd:fk n ds=true)
  (hr:IX n (ah l).2.2.1 ds=some its) (hi:i∈its) (L:NF n (ah l).2.2.1 ds i.post):tj n (ah l) (lO i)=true:=by
 unfold tj;cases hc:mB n (ah l) (lO i).1 with
 |false=>rfl|true=>
 cases j:Ci n (ah l) (lO i).1 with
 |false=>rfl|true=>
 show(I0 n (lO i)&&decide (dvD n (lO i)<=PE n (ah l).2.2.2 (lO i).1))=true;unfold mB at hc;simp only[qE,qF,zB,wG]at hc;obtain⟨⟨⟨⟨⟨c1,c2⟩,f⟩,c4⟩,c5⟩,c6⟩:=hc;unfold Ci at j;have j:=vO j;have ex:(lO i).1=i.post:=rfl;rw[ex]at c1 c2 f c4 c5 c6 j;have G:kA n (ah l).2.2.1 i.post.2.1 i.post.2.2.1 i.post.2.2.2.2=true:=by
  cases e:kA n (ah l).2.2.1 i.post.2.1 i.post.2.2.1 i.post.2.2.2.2 with
  |true=>rfl|false=>unfold DU at f;rw[e]at f;cases f
 have X:rL n (ah l).2.2.1 i.post.2.1 i.post.2.2.1 i.post.2.2.2.2=uh n (ah l).2.2.1 i.post.2.1 i.post.2.2.1 i.post.2.2.2.2:=if_pos G;have eE:zf n (ah l).2.2.1 i.post.2.1 i.post.2.2.1 i.post.2.2.2.2=0:=by unfold DU at f;rw[if_pos G]at f;exact f
 have h:=G;unfold kA cA at h;simp only[qE,qF]at h;obtain⟨⟨⟨_,w2⟩,_⟩,_⟩:=h;have z:WOk n (ah l).2.2.1 i.post:=⟨eE,w2⟩;obtain⟨g1,g2,g3,g4⟩:=VH (base_of hs ht) (SV hd) hr i hi z L;obtain⟨s,u,A,s3⟩:=PL 19 i.post.2.1 i.post.2.2.2.2 eE;have u:(uh n (ah l).2.2.1 i.post.2.1 i.post.2.2.1 i.post.2.2.2.2).getLast?=some s:=u;have es:iZ (lO i).2.1=s:=by show iZ i.stops=s;rw[g1];exact LP u
 rw[X,LP u]at j;have y:I0 n (lO i)=true:=by
  unfold I0;rw[es];simp only[qE,qF,zB];refine⟨⟨⟨⟨⟨⟨⟨?_,hs⟩,g3⟩,A⟩,s3⟩,?_⟩,?_⟩,by rw[A];exact j⟩;show 0<i.stops.length;rw[g1,<- X];omega;show 0<(i.bL++[i.lb]).length;simp;show(((i.bL++[i.lb]).getD ((i.bL++[i.lb]).length-1) ⟨#[]⟩).toList==i.post.1.toList)=true;rw[qA,qG,vC,qBe,qV (qL _),qAg,xK,vJ,g4];exact xY _
 rw[y,yC];refine qR ?_;unfold dvD;rw[if_pos y,es,A];exact D9 hn ll ac c1 Z Z f c2 (by rw[X];exact u) j
theorem Z6{n:Net}{nx:Lj}{ds:List bZ}:(zv n nx ds).length<=120:=by
 unfold zv;cases IX n nx ds with
 |none=>exact wK _|some its=>
  show(if YW its=true then its.map lO else[]).length<=120;split;rename_i h;unfold YW at h;simp only[qE,qF]at h;rw[vX];exact h.1;exact wK _
theorem VF{n:Net}{nx:Lj}{ds:List bZ}{k:Nat}{t y:Trk}(j:k<(zv n nx ds).length)(u:(zv n nx ds).getD k y=t):
  ∃f i,IX n nx ds=some f/\i∈f/\t=lO i/\t.2.1.length<=20/\t.2.2.2.2.1.length<=121:=by
 unfold zv at j u;cases e:IX n nx ds with
 |none=>rw[e]at j;exact absurd j (Nat.not_lt_zero _)|some f=>
  rw[e]at j u;have j:k<(if YW f=true then f.map lO else[]).length:=j;have u:(if YW f=true then f.map lO else[]).getD k y=t:=u;by_cases h:YW f=true;case neg=>rw[if_neg h]at j;exact absurd j (Nat.not_lt_zero _)
  rw[if_pos h]at j u;rw[vX]at j;rw[qA,qQ,qB j]at u;have u:lO f[k]=t:=u;unfold YW at h;simp only[qE,qF,qW]at h;obtain⟨A,z⟩:=h.2 f[k] (wS j);refine⟨f,f[k],rfl,wS j,u.symm,?_,?_⟩
  .rw[<- u];show(f[k].done++_).length<=20;rw[qG,vC];omega
  rw[<- u];show(f[k].bL++_).length<=121;rw[qG,vC];omega
theorem VI{n:Net}{nx:Lj}{ds:List bZ}:VM n nx ds=0\/VM n nx ds=2:=by
 unfold VM;cases IX n nx ds with
 |none=>exact .inr rfl|some its=>exact .inl rfl
end Go.Eng.Top
set_option maxHeartbeats 4000000
namespace Go.Eng.Sv
open Go.Proofs
def aDD(x:ByteArray)(d:jm):Bool:=decide (d.1=4)||(!(decide (d.1=1))&&(d.2.2.2.2.2.2.2.1.toList==x.toList))
def aFu(d:jm)(s:Stop):Bool:=decide (d.1=5)&&decide (s.2.2.2=d.2.2.2.2.2.2.2.2.2)&&decide (d.2.1<=s.2.2.1)
def aF2(x:ByteArray)(w:List Stop)(d:jm):Bool:=aDD x d||w.any (aFu d)
def xd(x:ByteArray)(w:List Stop)(ds:List jm)(k:Int):Bool:=(ds.take k.toNat).any (aF2 x w)
def UC(x:ByteArray)(w:List Stop)(ds:List jm)(k m:Int):Bool:=xd x w ds k||aDD x (ds.getD k.toNat dfF)||(w.take m.toNat).any (aFu (ds.getD k.toNat dfF))
def aBy(l:List Trk)(k:Int):Prop:=0<=k/\k<=l.length
def aDB(ds:List jm)(k:Int):Prop:=0<=k/\k<=ds.length
def aDA(w:List Stop)(k:Int):Prop:=0<=k/\k<=w.length
def aF0(l:Li)(ds:List jm):Prop:=Go.Eng.In.aBk l/\nH (lP ds)
def dfT:Trk:=((⟨#[]⟩,0,0,0,0),[],false,[],[],[])
def KY2:Kt:=kOr 12 (aA [.row N,.row Pl,.val (.sl Df)] (λ(_,p,f,_)=>Xt p.2.2.1 f) λ(n,p,f,_)=>.dat .bool (S7 n p.2.2.1 f)) <|
 kOr 14 (aA [.row N,.row Pl,.row Tk] (λ(_,p,t,_)=>Si p t) λ(n,p,t,_)=>.dat .bool (tj n p t)) <|
 kOr 6 (aA [] (λ_=>True) λ_=>.dat .bool true) KY1
def aFx(ds:List jm):Ann:=⟨λf s=>match f with
 |14=>match s.sig.T 11 with
  |.dat (.sl (.pair (.pair .str (.pair (.int .i64) (.pair (.int .i64) (.pair (.int .i64) (.int .i64))))) (.pair (.sl (.pair (.int .i64) (.pair (.int .i64) (.pair (.int .i64) (.int .i64))))) (.pair .bool (.pair (.sl (.int .i64)) (.pair (.sl .str) (.sl .str))))))) l=>some {α:=Int,inv:=λi=>aBy l i,st:=λi=>put s [(13,.dat I i)],μ:=λi=>Dc (Dk (Di l) i)}|_=>none
 |21=>match s.sig.T 11,s.sig.T 13,s.sig.T 15 with
  |.dat (.sl (.pair (.pair .str (.pair (.int .i64) (.pair (.int .i64) (.pair (.int .i64) (.int .i64))))) (.pair (.sl (.pair (.int .i64) (.pair (.int .i64) (.pair (.int .i64) (.int .i64))))) (.pair .bool (.pair (.sl (.int .i64)) (.pair (.sl .str) (.sl .str))))))) l,.dat (.int .i64) i,.dat (.sl (.pair (.int .i64) (.pair (.int .i64) (.pair (.int .i64) (.int .i64))))) w=>some {α:=Int,inv:=λk=>aDB ds k,st:=λk=>put s [(18,.dat I k),(17,.dat .bool (xd (Dw l (Dc i) dfT).1.1 w ds k))],μ:=λk=>Dc (Dk (Di ds) k)}|_,_,_=>none
 |26=>match s.sig.T 11,s.sig.T 13,s.sig.T 15,s.sig.T 18 with
  |.dat (.sl (.pair (.pair .str (.pair (.int .i64) (.pair (.int .i64) (.pair (.int .i64) (.int .i64))))) (.pair (.sl (.pair (.int .i64) (.pair (.int .i64) (.pair (.int .i64) (.int .i64))))) (.pair .bool (.pair (.sl (.int .i64)) (.pair (.sl .str) (.sl .str))))))) l,.dat (.int .i64) i,.dat (.sl (.pair (.int .i64) (.pair (.int .i64) (.pair (.int .i64) (.int .i64))))) w,.dat (.int .i64) k=>some {α:=Int,inv:=λm=>aDA w m,st:=λm=>put s [(20,.dat I m),(17,.dat .bool (UC (Dw l (Dc i) dfT).1.1 w ds k m))],μ:=λm=>Dc (Dk (Di w) m)}|_,_,_,_=>none
 |_=>none,λ_ _=>none,λ_ _=>none⟩
theorem J1{n:Net}{l:Li}(h:Go.Eng.In.sO n l=true):l.length<=3000/\Go.Eng.In.Ak n:=by
 unfold Go.Eng.In.sO Go.Eng.In.smF at h;simp only[qE,qF]at h;obtain⟨⟨⟨j,y⟩,_⟩,u⟩:=h;have f:=(Go.Eng.In.fP.1 j).1;unfold Go.Eng.In.iM at f;rw[qF]at f;exact⟨Z,⟨⟨⟨Z,Z⟩,Z⟩,Z⟩⟩
theorem aFf{n:Net}{l:Li}(h:Go.Eng.In.sO n l=true):nY n=true:=by
 unfold Go.Eng.In.sO Go.Eng.In.smF at h;simp only[qE]at h;have f:=Go.Eng.In.fP.1 h.1.1.1;unfold nY;rw[qE];exact⟨f.1,f.2.2.1⟩
theorem aA2{n:Net}{l:Li}(h:Go.Eng.In.Acc n l):Go.Eng.In.pK (l,Go.Eng.In.fR l)=Go.Eng.In.ah l/\Go.Eng.In.Gx (l,Go.Eng.In.fR l)=0:=by
 have:Go.Eng.In.fL (l,Go.Eng.In.fR l)=true:=by
  unfold Go.Eng.In.fL;rw[show Go.Eng.In.du (l,Go.Eng.In.fR l).1 (l,Go.Eng.In.fR l).2=true from Go.Eng.In.zt h.ins,show Go.Eng.In.nF (l,Go.Eng.In.fR l).1=true from h.pl];rfl
 unfold Go.Eng.In.pK Go.Eng.In.Gx;rw[if_pos this,if_pos this];exact⟨rfl,rfl⟩
theorem Q8{l:Li}(y:Go.Eng.In.dF l)(h:Go.Eng.In.nF l=true):jb (Go.Eng.In.ah l).2.2.1/\fitsT (Go.Eng.In.ah l).2.2.2:=by
 obtain⟨⟨L,G⟩,⟨A,z⟩,_⟩:=Go.Eng.In.na y h;have f:∀(g:Int->Int->Int),jb (Go.Eng.In.jf g (l.getD 2 0)):=λg=>⟨by rw[Go.Eng.In.qt];omega,λr u=>by have:=(Go.Eng.In.mP u).1;omega⟩;refine⟨f _,?_,λt j=>?_⟩;show(Go.Eng.In.uj _ _ _).length<=_;rw[Go.Eng.In.KL];omega;obtain⟨k,rfl⟩:=Go.Eng.In.KJ j;exact f _
theorem SZ{x:ByteArray}{w:List Stop}{ds:List jm}{k:Int}:(xd x w ds k||(ds.getD k.toNat dfF).1==4||(ds.getD k.toNat dfF).1 != 1&&Gf (ds.getD k.toNat dfF).2.2.2.2.2.2.2.1 x)=UC x w ds k 0:=by
 show _=(xd x w ds k||aDD x (ds.getD k.toNat dfF)||false);rw[kU,Bool.or_assoc];rfl
theorem Xk{x:ByteArray}{w:List Stop}{ds:List jm}{k m:Int}(h:0<=m)(f:m<w.length):(UC x w ds k m||(((ds.getD k.toNat dfF).1==5&&(w.getD m.toNat (0,0,0,0)).2.2.2==(ds.getD k.toNat dfF).2.2.2.2.2.2.2.2.2)&&decide ((ds.getD k.toNat dfF).2.1<=(w.getD m.toNat (0,0,0,0)).2.2.1)))=UC x w ds k (m+1):=by
 unfold UC;rw[show(m+1).toNat=m.toNat+1 by omega,wY,qB Z,qBy,<- Bool.or_assoc,qA (l:=w),qB Z];show _=(_||([w[m.toNat]].any _));rw[qCj,List.any_nil,kU];rfl
theorem Xl{x:ByteArray}{w:List Stop}{ds:List jm}{k m:Int}(j:0<=k)(h:k<ds.length)(f:(w.length:Int)<=m):UC x w ds k m=xd x w ds (k+1):=by
 unfold UC xd;rw[show(k+1).toNat=k.toNat+1 by omega,wY,qB Z,qBy,qM (l:=w) Z,qA,qB Z];show _=(_||([ds[k.toNat]].any _));rw[qCj,List.any_nil,kU,Bool.or_assoc];rfl
theorem aCO{n:Net}{nx:Lj}{ds:List jm}{y:ByteArray}{u j A f k:Int}(z:DU n nx u j f=0)(h:xd y (rL n nx u j f) ds k=false)(hk:(ds.length:Int)<=k):Top.NF n nx (lP ds) (y,u,j,A,f):=by
 have hw:kA n nx u j f=true:=by
  cases e:kA n nx u j f with
  |true=>rfl|false=>unfold DU at z;rw[e]at z;cases z
 have eL:rL n nx u j f=uh n nx u j f:=if_pos hw;unfold xd at h;rw[qM Z,qAq,eL]at h;intro e he;obtain⟨d,hd,rfl⟩:=vW.1 he;have h:=h d hd;unfold aF2 aDD at h;simp only[yM,qF,qE,zB,wG,yX,not_or,xO,not_exists,not_and]at h;obtain⟨⟨h1,h2⟩,h3⟩:=h;refine⟨h1,λk1 e=>h2 k1 (by show(nst d).2.2.2.1.toList=y.toList;rw[e]),λs hs X L G=>?_⟩;refine h3 s hs ?_;unfold aFu;simp only[qE,qF];exact⟨⟨X,L.symm⟩,G⟩
theorem aFE(h9:aj Tryz.prog G0 6 [] [] ⟨True,.dat .bool true,[]⟩):ay Tryz.prog G0 KY2:=ai (af λ((A,h,f,y,j,u),(p1,p2,nx,z),ds,_)=>aBS ds p1 p2 nx z A h f y j u) <|
 ai (af λ((A,h,f,y,j,u),(p1,p2,nx,z),(po,G,lo,L,la,X),_)=>aBP po G lo L la X p1 p2 nx z A h f y j u)<|ai (af λ_=>h9) aD0
theorem Vg(h9:aj Tryz.prog G0 6 [] [] ⟨True,.dat .bool true,[]⟩)(l:Li)(ds:List jm)(cs:LC)(ns os:LB)(fs:Lo)(ls:Ll)(ks:Lk):aj Tryz.prog G0 3 [net cs ns os fs ls ks,.dat R l,.dat (.sl Df) ds] [] ⟨aF0 l ds,.dat .bool true,[]⟩:=by
 refine zF (c:=mkc KY2) (A:=(lvA [(14,[2,3,6,7,9,11,13,14,15,17,18,19,20]),(21,[2,3,6,7,9,11,13,14,15,17,18,19,20]),(26,[2,3,6,7,9,11,13,14,15,17,18,19,20])] (aFx ds))) (aFE h9) tC hm (p:=let c1:=(cs,ns,os,fs,ls,ks);let c2:=Dj (In.sO c1 l);let c3:=Dj c2;let c4:=Dy c2 true (Dj (aZ c1));let c5:=Dj c4;let L:=Dy c4 true (Ea (In.iP c1 l (In.fR l)) 0);let c7:=(l,In.fR l);let c8:=Ea (In.Gx c7) 0;let h:=In.pK c7;let c13:=Dj (S7 c1 h.2.2.1 ds);let c14:=aCe c1 h.2.2.1 (lP ds);let c15:=Ea c14 0;let c16:=Je c1 h.2.2.1 (lP ds);let c20:=Di c16;let c22:=((0:Int),(0:Int),(0:Int),(0:Int));let c24:=Di ds;true/\(aF0 l ds->True/\In.aBk l/\T4 1 0 1 0 (True/\L5 c3 ((c3->nY c1)/\L5 c3 ((Dh true c3->c3)/\(c5->1=1)/\(c5->0=0)/\Q2 c5 ((c5->In.Ar l/\In.Ak c1)/\L5 c5 ((Dh true c5->c5)/\(L->true/\True)/\(L=false->L7 1 0 (In.Ar l/\L7 1 0 ((c8->false/\True)/\(c8=false->L7 1 0 (Xt h.2.2.1 ds/\(c13->true/\True)/\(c13=false->L7 1 0 (aCd c1 h.2.2.1 (lP ds)/\(c15->L5 true ((Dh true true->true)/\Dy true (Ed c14 2) false/\True))/\(c15=false->(∃x,aBy c16 x/\L7 ds c1 (true/\T4 1 0 0 c16 (0=x/\d9 l (In.fR l) h.1 h.2.1 h.2.2.1 h.2.2.2)))/\∀(x:Int),let j:=Dw c16 (Dc x) ((ByteArray.mk #[],c22),Du (Int×Int×Int×Int),false,Du Int,Du ByteArray,Du ByteArray);let c41:=tj c1 h j;let c42:=x+1;let X:=rL c1 h.2.2.1 j.1.2.1 j.1.2.2.1 j.1.2.2.2.2;let c44:=(Dw c16 (Dc x) dfT).1.1;let c45:=Di X;
  aBy c16 x->(Dn x c20->L7 1 0 (0<=x/\x<c20/\Si h j/\(c41->inR .i64 c42/\∃y,aBy c16 y/\(L7 ds c1 (true/\T4 1 0 0 c16 (c42=y/\d9 l (In.fR l) h.1 h.2.1 h.2.2.1 h.2.2.2)))/\Dc (c20-y)<Dc (c20-x))/\(c41=false->0<=x/\x<c20/\L4 1 0 1 1 0 1 1 0 1 (T6 1 0 1 1 0 (jb h.2.2.1/\(∃z,aDB ds z/\L7 ds c1 (true/\L4 1 0 0 c16 x 1 0 0 X (false=xd c44 X ds z/\0=z/\L4 l (In.fR l) h.1 h.2.1 h.2.2.1 h.2.2.2 j.1.1 j.1.2.1 j.1.2.2.1 (k7 j.1.2.2.2.1 j.1.2.2.2.2))))/\∀(z:Int),let c46:=xd c44 X ds z;let c47:=Dj c46;let f:=Dw ds (Dc z) ((0:Int),(0:Int),ByteArray.mk #[],(0:Int),(0:Int),(0:Int),(0:Int),ByteArray.mk #[],ByteArray.mk #[],(0:Int));let c50:=Dy c46 true (Ed f.1 4);let c51:=Dj c50;let c52:=Ea f.1 1;let c18:=Dh c51 c52->0=0;let c17:=Dh c51 c52;let c10:=Dh c51 c52->1=1;let c70:=Ed f.1 5;let c71:=z+1;
  aDB ds z->(Dn z c24->0<=z/\z<c24/\L7 1 0 ((c47->1=1)/\L5 c47 ((c47->1=1)/\(c47->0=0)/\L5 c47 ((Dh true c47->c47)/\(c51->1=1)/\L5 c51 ((c51->1=1)/\(c51->0=0)/\Q2 c51 (c10/\L5 c17 (c10/\c18/\c10/\L5 c17 (c10/\c18/\Q2 c17 (L5 c51 ((c51->Dh c51 c52->Dh c51 c52)/\(Dh true c51->c51)/\(∃G,aDA X G/\L7 ds c1 (true/\L4 1 0 0 c16 x 1 0 0 X (Dy c50 true (Dy c52 (Gf f.2.2.2.2.2.2.2.1 j.1.1) false)=UC c44 X ds z G/\T4 z 1 0 0 (0=G/\l=l/\In.fR l=In.fR l/\h.1=h.1/\h.2.1=h.2.1/\h.2.2.1=h.2.2.1/\h.2.2.2=h.2.2.2/\j.1.1=j.1.1/\j.1.2.1=j.1.2.1/\j.1.2.2.1=j.1.2.2.1/\j.1.2.2.2.1=j.1.2.2.2.1/\j.1.2.2.2.2=j.1.2.2.2.2/\f.1=f.1/\f.2.1=f.2.1/\f.2.2.1=f.2.2.1/\f.2.2.2.1=f.2.2.2.1/\f.2.2.2.2.1=f.2.2.2.2.1/\f.2.2.2.2.2.1=f.2.2.2.2.2.1/\f.2.2.2.2.2.2.1=f.2.2.2.2.2.2.1/\f.2.2.2.2.2.2.2.1=f.2.2.2.2.2.2.2.1/\f.2.2.2.2.2.2.2.2.1=f.2.2.2.2.2.2.2.2.1/\f.2.2.2.2.2.2.2.2.2=f.2.2.2.2.2.2.2.2.2/\True))))/\∀(G:Int),let c72:=UC c44 X ds z G;let u:=Dj c72;let c19:=Dh u c70->1=1;let c11:=Dh u c70;let c74:=(Dw X (Dc G) c22).2.2;let c75:=Dy c70 (Ed c74.2 f.2.2.2.2.2.2.2.2.2) false;let c21:=Dh u c75->1=1;let A:=Dh u c75;let c76:=G+1;
  aDA X G->(Dn G c45->(u->1=1)/\L5 u ((u->1=1)/\(u->0=0)/\Q2 u (Q2 c11 ((Dh u c70->0<=G)/\(Dh u c70->G<c45)/\Q2 c11 (c19/\L5 c11 (c19/\(Dh u c70->0=0)/\Q2 c11 (L5 u ((u->Dh u c70->Dh u c70)/\L5 u (c21/\L5 A (c21/\(Dh u c75->0=0)/\Q2 A ((Dh u c75->0<=G)/\(Dh u c75->G<c45)/\L5 A (Q3 A (L5 u ((u->Dh u c75->Dh u c75)/\(Dh true u->u)/\inR .i64 c76/\∃y,aDA X y/\(L7 ds c1 (true/\L4 1 0 0 c16 x 1 0 0 X (Dy c72 true (Dy c75 (Ef f.2.1 c74.1) false)=UC c44 X ds z y/\T4 z 1 0 0 (c76=y/\l=l/\In.fR l=In.fR l/\h.1=h.1/\h.2.1=h.2.1/\h.2.2.1=h.2.2.1/\h.2.2.2=h.2.2.2/\j.1.1=j.1.1/\j.1.2.1=j.1.2.1/\j.1.2.2.1=j.1.2.2.1/\j.1.2.2.2.1=j.1.2.2.2.1/\j.1.2.2.2.2=j.1.2.2.2.2/\f.1=f.1/\f.2.1=f.2.1/\f.2.2.1=f.2.2.1/\f.2.2.2.1=f.2.2.2.1/\f.2.2.2.2.1=f.2.2.2.2.1/\f.2.2.2.2.2.1=f.2.2.2.2.2.1/\f.2.2.2.2.2.2.1=f.2.2.2.2.2.2.1/\f.2.2.2.2.2.2.2.1=f.2.2.2.2.2.2.2.1/\f.2.2.2.2.2.2.2.2.1=f.2.2.2.2.2.2.2.2.1/\f.2.2.2.2.2.2.2.2.2=f.2.2.2.2.2.2.2.2.2/\True))))/\Dc (c45-y)<Dc (c45-G)))))))))))))))/\(Dn G c45=false->inR .i64 c71/\∃y,aDB ds y/\(L7 ds c1 (true/\L4 1 0 0 c16 x 1 0 0 X (c72=xd c44 X ds y/\c71=y/\L4 l (In.fR l) h.1 h.2.1 h.2.2.1 h.2.2.2 j.1.1 j.1.2.1 j.1.2.2.1 (k7 j.1.2.2.2.1 j.1.2.2.2.2))))/\Dc (c24-y)<Dc (c24-z))))))))))))/\(Dn z c24=false->(c47->false/\True)/\(c47=false->inR .i64 c42/\∃y,aBy c16 y/\(L7 ds c1 (true/\T4 1 0 0 c16 (c42=y/\d9 l (In.fR l) h.1 h.2.1 h.2.2.1 h.2.2.2)))/\
  Dc (c20-y)<Dc (c20-x))))))))/\(Dn x c20=false->true/\True)))))))))))))))) ⟨rfl,λhp=>?_⟩
 refine Z9 ?_;refine⟨hp.1,λh=>aFf h,λ⟨h,_⟩=>⟨Go.Eng.In.RI (by have:=(J1 h).1;omega),(J1 h).2⟩,λ⟨⟨h1,h2⟩,h3⟩=>?_⟩;obtain⟨l1,hn⟩:=J1 h1;have ll:Go.Eng.In.Ar l:=Go.Eng.In.RI Z;have ac:=Go.Eng.In.aA3.1 h3;obtain⟨eR,eC⟩:=aA2 ac;rw[eR,eC];have hnum:=Go.Eng.In.DL ll ac;obtain⟨⟨m0,m1⟩,⟨q0,q1⟩,a0,a1,a2⟩:=Go.Eng.In.na hnum ac.pl;obtain⟨f1,f2⟩:=Q8 hnum ac.pl;have e1:(Go.Eng.In.ah l).1=l.getD 0 0:=rfl;have e2:(Go.Eng.In.ah l).2.1=l.getD 1 0:=rfl;have hK:aZ (cs,ns,os,fs,ls,ks)=true->nP (cs,ns,os,fs,ls,ks) (Go.Eng.In.ah l).2.2.1=true->fk (cs,ns,os,fs,ls,ks) (lP ds)=true->∀i:Int,0<=i->i<(Je (cs,ns,os,fs,ls,ks) (Go.Eng.In.ah l).2.2.1 (lP ds)).length->
   ∀t,(Je (cs,ns,os,fs,ls,ks) (Go.Eng.In.ah l).2.2.1 (lP ds)).getD i.toNat ((⟨#[]⟩,0,0,0,0),[],false,[],[],[])=t->
   Si (Go.Eng.In.ah l) t/\(Top.NF (cs,ns,os,fs,ls,ks) (Go.Eng.In.ah l).2.2.1 (lP ds) t.1->tj (cs,ns,os,fs,ls,ks) (Go.Eng.In.ah l) t=true):=λhs ht hd i i0 i1 t e=>by
  obtain⟨its,it,r1,r2,rfl,r3,r4⟩:=Top.VF (k:=i.toNat) (by show i.toNat<(Je (cs,ns,os,fs,ls,ks) (Go.Eng.In.ah l).2.2.1 (lP ds)).length;omega) e;exact⟨⟨Z,f1,f2,by show _/\_;omega⟩,Top.R2 hn ll ac hs ht hd r1 r2⟩
 have hLl:(Je (cs,ns,os,fs,ls,ks) (Go.Eng.In.ah l).2.2.1 (lP ds)).length<=120:=Top.Z6;generalize hL:Je (cs,ns,os,fs,ls,ks) (Go.Eng.In.ah l).2.2.1 (lP ds)=L at hK hLl;clear hL eR eC h3 e1 e2 a0 a1 a2;generalize hq:Go.Eng.In.ah l=p at hK f1 f2;clear hq;obtain⟨p1,p2,nx,dy⟩:=p;simp only at hK f1 f2 ⊢;refine⟨ll,λh=>absurd rfl h,λ_=>⟨⟨f1,hp.2⟩,λhF=>?_⟩⟩;unfold S7 at hF;simp only[qE]at hF;obtain⟨⟨⟨hfw,hs⟩,hr⟩,hd⟩:=hF;have ht:nP (cs,ns,os,fs,ls,ks) nx=true:=by
  unfold aCg at hr;rw[qE]at hr;exact hr.2
 have hK:=hK hs ht hd;refine⟨⟨hs,ht,hd⟩,λh=>Top.VI.resolve_left h,λ_=>⟨⟨qN 0,Z⟩,λi hi1 hi2=>?_⟩⟩;obtain⟨t,hT⟩:∃t,L.getD i.toNat ((⟨#[]⟩,0,0,0,0),[],false,[],[],[])=t:=⟨_,rfl⟩;have hT':L.getD i.toNat dfT=t:=hT;have hi0:0<=i:=hi1.1;obtain⟨k1,k2⟩:=hK i hi0 hi2 t hT;simp only[hT',hT];obtain⟨⟨x1,x2,x3,x4,x5⟩,st,lo,si,la,se⟩:=t;simp only at k1 k2 ⊢;generalize hw:rL (cs,ns,os,fs,ls,ks) nx x2 x3 x5=w;refine⟨hi0,hi2,k1,λ_=>⟨by unfold inR;simp only;omega,_,⟨Z,Z⟩,rfl,Z⟩,λhk=>⟨hi0,hi2,f1,⟨0,⟨qN 0,Z⟩,?_,rfl⟩,λk hk1=>?_⟩⟩;rfl;refine⟨λhk2=>⟨hk1.1,hk2,⟨0,⟨qN 0,Z⟩,SZ,rfl⟩,λm hm=>⟨λhm2=>⟨λ_=>hm.1,λ_=>hm2,λ_=>hm.1,λ_=>hm2,?_,m+1,⟨by have:=hm.1;omega,Z⟩,⟨Xk hm.1 hm2,rfl⟩,by have:=hm.1;omega⟩,λhm2=>⟨?_,k+1,⟨by have:=hk1.1;omega,Z⟩,⟨Xl hk1.1 hk2 Z,rfl⟩,by have:=hk1.1;omega⟩⟩⟩,
  λhk2=>⟨λhz=>?_,λ_=>⟨by unfold inR;simp only;omega,i+1,⟨Z,Z⟩,rfl,Z⟩⟩⟩
 have:w.length<=20:=by rw[<- hw];exact Yg
 have:=hm.1;unfold inR;simp only;omega;have:=hk1.1;have hd16:ds.length<=16:=by
  unfold Ig at hfw;rw[qE,qF]at hfw;have:=hfw.2;rw[show(lP ds).length=ds.length from vX _]at this;omega
 unfold inR;simp only;omega;rw[<- hk];refine k2 (aCO ?_ (by rw[hw];exact hz) (by have:=hk1.2;omega));cases hE:decide (DU (cs,ns,os,fs,ls,ks) nx x2 x3 x5=0)with
 |true=>exact vO hE|false=>
  exfalso;have hc:mB (cs,ns,os,fs,ls,ks) (p1,p2,nx,dy) (x1,x2,x3,x4,x5)=false:=by
   unfold mB;rw[show decide (DU (cs,ns,os,fs,ls,ks) (p1,p2,nx,dy).2.2.1 (x1,x2,x3,x4,x5).2.1 (x1,x2,x3,x4,x5).2.2.1 (x1,x2,x3,x4,x5).2.2.2.2=0)=false from hE];simp
  unfold tj at hk;rw[show mB (cs,ns,os,fs,ls,ks) (p1,p2,nx,dy) ((x1,x2,x3,x4,x5),st,lo,si,la,se).1=false from hc]at hk;cases hk
end Go.Eng.Sv
