/- Wr2p -/
import Derived.Test.YtecnnbcfgijddaaGreatDoorETPrmE
import Derived.Test.YtecnnbcfgijddaaGreatDoorETPrmF
import Derived.Test.YtecnnbcfgijddaaGreatDoorETPrmV
import Derived.Test.YtecnnbcfgijddaaGreatDoorETPrmX
import Derived.Test.YtecnnbcfgijddaaGreatDoorETPrmY
import Derived.Test.YtecnnbcfgijddaaGreatDoorETPrmZB
import Derived.Lib.AppendIntMem
import Derived.Lib.ItoaLen
set_option linter.unusedSimpArgs false
set_option linter.unusedVariables false
set_option maxRecDepth 100000
namespace Go.Eng.Sv
open Go.Proofs
open Go.RowKit
noncomputable def iaF(k:Int):ByteArray:=if -9223372036854775808<=k/\k<=9223372036854775807 then⟨(Go.Lib.itoa k).toArray⟩else⟨#[]⟩
noncomputable def iu(n:Net)(nx:Lj):Top.Dat:=⟨n.2.2.2.1.length,nxt nx,λo=>(dd n o).2.2.2.2.1,λo=>(dd n o).2.2.2.2.2.1,tH n,eJ n,iR n,ig n,DJ n,iaF⟩
variable {w:World}{DD:Nat->Prop}{E:Nat->Ent}
theorem Yy(hG:jB Tryz.prog ⟨w,DD,bG [],E⟩ G0):Go.Lib.TabIs Tryz.prog w "internal/strconv.uint64pow10" .u64 Go.Lib.pow10Tab:=by
 obtain⟨_,⟨b,off,hp,hr⟩,_,A,X,fr,j,G⟩:=hG (1,.ia (.int .u64) p10) (wU _ (qW.2 rfl));cases hp;obtain⟨ao,cap,e,_,_,_,u⟩:=hr;cases e;have G:A.size=20:=G;have he:A=(Go.Lib.pow10Tab.map λz=>Value.int .u64 z).toArray:=by
  apply Array.ext;rw[G];rfl;intro i h1 h2;have hi:i<p10.length:=by show i<20;omega
  obtain⟨a,ue,e1,_,h3,L⟩:=u i p10[i] (qB hi);cases e1;have L:ue=[Value.int .u64 p10[i]]:=L;subst L;have y:w.cell? ⟨1,0+i*1+0,none⟩=some (Value.int .u64 p10[i]):=h3 0 _ rfl;rw[show 0+i*1+0=i by omega]at y;have j:w.heap[1]?=some (.cells A X fr):=j;simp[World.cell?,j]at y;obtain⟨_,y⟩:=qK.1 y;rw[y];simp only[List.getElem_toArray,List.getElem_map];rfl
 unfold Go.Lib.TabIs World.var?;rw[show Program.globalNamed Tryz.prog "internal/strconv.uint64pow10" = some 1 by kernel_rfl]
 have j:w.heap[1]?=some (.cells A X fr):=j;simp only[Option.bind_some,j,he]
theorem aBY{W:World}(h:Go.Lib.TabIs Tryz.prog w "internal/strconv.uint64pow10" .u64 Go.Lib.pow10Tab)(u:Go.RowKit.Below w.heap.size w W):Go.Lib.TabIs Tryz.prog W "internal/strconv.uint64pow10" .u64 Go.Lib.pow10Tab:=Go.Lib.tabBelow_of_tabIs h W u
theorem Zi(h:Go.Lib.TabIs Tryz.prog w "internal/strconv.uint64pow10" .u64 Go.Lib.pow10Tab){n:Int}(z:-9223372036854775808<=n)(y:n<=9223372036854775807):Calls Tryz.prog 57 #[.int .i64 n] w λe u=>e=.returned (.string (iaF n))/\Go.RowKit.Below w.heap.size w u:=by
 refine(Go.Proofs.Any.strconv_Itoa Tryz.itoaA n Z Z w h).mono ?_;rintro e u ⟨rfl,k,A,rfl⟩;exact⟨by unfold iaF;rw[if_pos ⟨z,y⟩],Go.Lib.below_grow _ _ (qN _) _ _⟩
theorem MO(n:Int):(iaF n).size<=100:=by
 unfold iaF;split;rename_i h;show((Go.Lib.itoa n).toArray).size<=100;rw[yY];have:=Go.Lib.itoa_length_le n h.1 h.2;omega;exact wE _
theorem nE{t:Ty}{xs:List t.den}{v:Value}(h:af w DD (.sl t) xs [v]):∃(u:Option Addr) (j:Nat),v=.slice u (List.length xs) j/\
  ∀(i:Nat) (y:t.den),(xs:List t.den)[i]?=some y->∃(b f:Nat) (us:Lv),u=some ⟨b,f,none⟩/\DD b/\cU w b (f+i*t.sz) us/\af w DD t y us:=by
 obtain⟨u,j,e,_,_,A,G⟩:=h;cases e;refine⟨u,j,rfl,λi y z=>?_⟩;obtain⟨a,us,e1,h1,X,L⟩:=G i y z;subst e1;have:=A a rfl (Nat.lt_of_le_of_lt (wE _) (qE.1 z).1);obtain⟨b,f,s⟩:=a;have:s=none:=this;subst this;exact⟨b,f,us,rfl,h1,X,L⟩
theorem BK(cs:LC)(L G:LB)(fs:Lo)(X:Ll)(ks:Lk){W:World}{A z y u j f:Value}{us:Lv}{av:List AV}(h1:af W DD (.sl C) cs [A])(h2:af W DD (.sl S) L [z])(h3:af W DD (.sl S) G [y])(h4:af W DD (.sl Of) fs [u])(h5:af W DD (.sl Ln) X [j])(h6:af W DD (.sl Kl) ks [f])
  (h:AV.relL Tryz.prog ⟨W,DD,bG [],E⟩ av us):AV.relL Tryz.prog ⟨W,DD,bG [],E⟩ (net cs L G fs X ks::av) (.agg #[A,z,y,u,j,f]::us):=
 ⟨_,_,rfl,⟨[A,z,y,u,j,f],rfl,A,_,rfl,h1,z,_,rfl,h2,y,_,rfl,h3,u,_,rfl,h4,j,_,rfl,h5,f,_,rfl,h6,rfl⟩,h⟩
theorem Zb(cs:LC)(L G:LB)(z:Lo)(A:Ll)(X:Lk){nx:Lj}{v1 v2 v3 v4 v5 v6 vx:Value}(hD:∀b,DD b->b<w.heap.size)(hG:jB Tryz.prog ⟨w,DD,bG [],E⟩ G0)
  (h1:af w DD (.sl C) cs [v1]) (h2:af w DD (.sl S) L [v2]) (h3:af w DD (.sl S) G [v3]) (h4:af w DD (.sl Of) z [v4]) (h5:af w DD (.sl Ln) A [v5]) (h6:af w DD (.sl Kl) X [v6]) (hx:af w DD M nx [vx])
  (hs:aZ (cs,L,G,z,A,X)=true) (ht:nC (cs,L,G,z,A,X) nx=true) (hb nb cb:Nat):Top.Env w w.heap.size ⟨hb,nb,cb,v1,v2,v3,v4,v5,v6,vx⟩ (iu (cs,L,G,z,A,X) nx):=by
 have hno:=gA cs L G z A X hs;have hT:=Yy hG;have mono:∀{W:World}{t:Ty}{x:t.den}{us:Lv},Go.RowKit.Below w.heap.size w W->af w DD t x us->af W DD t x us:=λhB h=>aw (λ_ h=>h) (λb hb=>hB.block b (hD b hb)) h;refine⟨λo t ho ht'=>?_,λo ho=>?_,λo ho=>?_,λo t ho ht'=>?_,λW l t hB hl t0 t1=>?_,λl hl=>?_,λl hl=>?_,λW k hB k0 k1=>Zi (aBY hT hB) Z Z,MO,λl t hl t0 he=>?_⟩;obtain⟨c1,c2,_⟩:=oL cs L G z A X ht (o:=o) (d:=t) Z (by exact Int.ofNat_lt.2 ho) Z (by exact Int.ofNat_lt.2 ht');have ho:o<z.length:=ho;have ht':t<z.length:=ht';obtain⟨ao,cap,rfl,hr⟩:=nE hx;obtain⟨b,f,us,rfl,hb,hc,hu⟩:=hr o (nx.getD o []) (by rw[qA,qB Z];rfl);have c2:((nx.getD (o:Int).toNat []).length:Int)=z.length:=c2;rw[zJ]at c2;obtain⟨_,_,e2,_⟩:=id hu;subst e2;obtain⟨a2,cap2,e3,hr2⟩:=nE hu;obtain⟨b2,f2,u2,rfl,hb2,hc2,hu2⟩:=hr2 t ((nx.getD o []).getD t 0) (by
  have:t<(nx.getD o []).length:=Z;rw[qA (l:=nx.getD o []),qB this];rfl)
 have hu2:u2=[Value.int .i64 ((nx.getD o []).getD t 0)]:=hu2;subst hu2;refine⟨b,f,nx.length,cap,b2,f2,(nx.getD o []).length,cap2,rfl,Z,hD _ hb,?_,Z,hD _ hb2,?_⟩;have:=hc 0 _ rfl;rw[show f+o*Ty.sz R+0=f+o by show f+o*1+0=_;omega,e3]at this;exact this;have:=hc2 0 _ rfl;rw[show f2+t*Ty.sz I+0=f2+t by show f2+t*1+0=_;omega]at this;exact this;have ho:o<z.length:=ho;obtain⟨ao,cap,rfl,hr⟩:=nE h4;obtain⟨⟨e1,e2,e3,e4,e5,e6,e7⟩,hE⟩:∃y,z[o]=y:=⟨_,rfl⟩;obtain⟨b,f,us,rfl,hb,hc,hu⟩:=hr o (e1,e2,e3,e4,e5,e6,e7) (by rw[qB ho,hE]);obtain⟨_,_,rfl,g1,_,_,rfl,g2,_,_,rfl,g3,_,_,rfl,g4,_,_,rfl,g5,_,_,rfl,g6,a7,c7,rfl,_⟩:=hu;obtain rfl:=(g1:_=[Value.string e1]);obtain rfl:=(g2:_=[Value.int .i64 e2]);obtain rfl:=(g3:_=[Value.int .i64 e3]);obtain rfl:=(g4:_=[Value.int .i64 e4]);obtain rfl:=(g5:_=[Value.int .i64 e5]);obtain rfl:=(g6:_=[Value.int .i64 e6]);have hoff:dd (cs,L,G,z,A,X) o=(e1,e2,e3,e4,e5,e6,e7):=by
  show z.getD (o:Int).toNat _=_;rw[zJ,qA,qB ho,hE];rfl
 have hg:∀(j:Nat) (u:Value),([Value.string e1]++([Value.int .i64 e2]++([Value.int .i64 e3]++([Value.int .i64 e4]++([Value.int .i64 e5]++([Value.int .i64 e6]++[Value.slice a7 e7.length c7]))))))[j]?=some u->w.cell? ⟨b,f+o*7+j,none⟩=some u:=λj u h=>hc j u h;refine⟨b,f,_,cap,e1,e2,e3,e4,a7,e7.length,c7,rfl,Z,hD _ hb,hg 0 _ rfl,hg 1 _ rfl,hg 2 _ rfl,hg 3 _ rfl,?_,?_,hg 6 _ rfl⟩;show _=some (Value.int .i64 (dd (cs,L,G,z,A,X) o).2.2.2.2.1);rw[hoff];exact hg 4 _ rfl;show _=some (Value.int .i64 (dd (cs,L,G,z,A,X) o).2.2.2.2.2.1);rw[hoff];exact hg 5 _ rfl;obtain⟨_,_,_,p1,p2,m1,m2⟩:=jO cs L G z A X (o:=o) ⟨hno,Z,Int.ofNat_lt.2 ho⟩;show 0<=(dd (cs,L,G,z,A,X) o).2.2.2.2.1/\(dd (cs,L,G,z,A,X) o).2.2.2.2.1<=100/\0<=(dd (cs,L,G,z,A,X) o).2.2.2.2.2.1/\(dd (cs,L,G,z,A,X) o).2.2.2.2.2.1<=100000;omega;obtain⟨c1,c2,c3⟩:=oL cs L G z A X ht (o:=o) (d:=t) Z (by exact Int.ofNat_lt.2 ho) Z (by exact Int.ofNat_lt.2 ht');have l40:=(lV cs L G z A X hno).1;show(Lit.int .i64 (nxt nx o t)).wf=true/\(0<=nxt nx o t->DJ (cs,L,G,z,A,X) (nxt nx o t));refine⟨Bd ?_,λh=>⟨hno,(c3 Z).1⟩⟩;by_cases h:nxt nx o t=-1;omega;have:=(c3 h).1;omega;have hD':∀b,DD b->b<W.heap.size:=λb h=>qI (hD b h) hB.size
 have hG':jB Tryz.prog ⟨W,DD,bG [],E⟩ G0:=jB.mono (show Later ⟨w,DD,bG [],E⟩ ⟨W,DD,bG [],E⟩from⟨λ_ h=>h,λb h=>hB.block b (hD b h)⟩) hG;refine(Vv l t cs L G z A X trivial W DD E _ hD' hG' (BK cs L G z A X (mono hB h1) (mono hB h2) (mono hB h3) (mono hB h4) (mono hB h5) (mono hB h6) ⟨.int .i64 l,_,rfl,rfl,.int .i64 t,_,rfl,rfl,rfl⟩) (Held.none _ _ _ _)).mono ?_;rintro e W' ⟨v,D',E',rfl,q2,us,rfl,u1,_,rfl,g1,u2,_,rfl,g2,rfl⟩;have g1:[u1]=[Value.int .i64 (ig (cs,L,G,z,A,X) l t)]:=g1;have g2:[u2]=[Value.int .i64 (iR (cs,L,G,z,A,X) l t)]:=g2;cases g1;cases g2;exact⟨rfl,q2.pure.1⟩;have hl:DJ (cs,L,G,z,A,X) l:=hl;have hll:l<A.length:=Int.ofNat_lt.1 hl.2.2;obtain⟨ao,cap,rfl,hr⟩:=nE h5;obtain⟨⟨e1,e2,e3,e4,e5,e6⟩,hE⟩:∃y,A[l]=y:=⟨_,rfl⟩;obtain⟨b,f,us,rfl,hb,hc,hu⟩:=hr l (e1,e2,e3,e4,e5,e6) (by rw[qB hll,hE]);obtain⟨_,_,rfl,g1,_,_,rfl,g2,_,_,rfl,g3,_,_,rfl,g4,_,_,rfl,g5,g6⟩:=hu;obtain rfl:=(g1:_=[Value.string e1]);obtain rfl:=(g2:_=[Value.int .i64 e2]);obtain rfl:=(g3:_=[Value.int .i64 e3]);obtain rfl:=(g4:_=[Value.int .i64 e4]);obtain rfl:=(g5:_=[Value.int .i64 e5]);obtain rfl:=(g6:_=[Value.int .i64 e6]);have hlin:GF (cs,L,G,z,A,X) l=(e1,e2,e3,e4,e5,e6):=by
  show A.getD (l:Int).toNat _=_;rw[zJ,qA,qB hll,hE];rfl
 have hg:∀(j:Nat) (u:Value),([Value.string e1]++([Value.int .i64 e2]++([Value.int .i64 e3]++([Value.int .i64 e4]++([Value.int .i64 e5]++[Value.int .i64 e6])))))[j]?=some u->w.cell? ⟨b,f+l*6+j,none⟩=some u:=λj u h=>hc j u h;refine⟨b,f,_,cap,e1,e2,e4,e6,rfl,Z,hD _ hb,hg 0 _ rfl,hg 1 _ rfl,?_,hg 3 _ rfl,?_,hg 5 _ rfl⟩;show _=some (Value.int .i64 (GF (cs,L,G,z,A,X) l).2.2.1);rw[hlin];exact hg 2 _ rfl;show _=some (Value.int .i64 (GF (cs,L,G,z,A,X) l).2.2.2.2.1);rw[hlin];exact hg 4 _ rfl;have hl:DJ (cs,L,G,z,A,X) l:=hl;obtain⟨_,_,g1,g2,_,_,g3,g4⟩:=Ah cs L G z A X hl;have l40:=(lV cs L G z A X hno).1;have hl2:l<A.length:=hl.2.2;have hl1:=hl.2.1;show 0<=l/\l<=100000/\0<=tH (cs,L,G,z,A,X) l/\tH (cs,L,G,z,A,X) l<(z.length:Int)/\0<=eJ (cs,L,G,z,A,X) l/\eJ (cs,L,G,z,A,X) l<=100000;omega;obtain⟨d1,d2⟩:=TM cs L G z A X (t:=t) hs hl;have he:iR (cs,L,G,z,A,X) l t=0:=he;have:=mU cs L G z A X hl (d2▸he);show t<=ig (cs,L,G,z,A,X) l t/\ig (cs,L,G,z,A,X) l t<=2200000;rw[d1];omega
end Go.Eng.Sv
namespace Go.Eng.Top
noncomputable section
open Go.Proofs
open Go.Eng.Sv (Net Stop nxt iV IE mV od ig iR aO tH eJ DJ BD Ja ti oI iL lJ jf je iu)
structure Good(n:Net)(nx:Lj)(x:Pst)(i:Itm):Prop where
 post:i.post=x
 lost:i.lost=false
 sn:i.sn=x.2.2.2.2
 lb:i.lb=x.1
 holds:i.holds=0
 way:∃k,(iV n nx x.2.2.1 k i.off i.arr).2=0/\i.done++(iV n nx x.2.2.1 k i.off i.arr).1=IE n nx x.2.1 x.2.2.1 x.2.2.2.2
 arr:x.2.2.2.2<=i.arr
 at_:i.off=x.2.2.1->i.line=-1
 go:i.off≠x.2.2.1->i.line=nxt nx i.off x.2.2.1/\i.leave=mV n i.line (aO n i.off i.arr)
 sL:i.sL=[]
variable {i:Itm}{n:Net}{nx:Lj}{x:Pst}{sb:Int->Int->ByteArray}
structure Base'(n:Net)(nx:Lj)(x:Pst):Prop where
 dep:∀l t:Int,DJ n l->ig n l t=mV n l t/\iR n l t=od n l t
 cell:∀o:Int,0<=o->o<n.2.2.2.1.length->nxt nx o x.2.2.1≠-1->DJ n (nxt nx o x.2.2.1)
 offs:∀o:Int,0<=o->o<n.2.2.2.1.length->∀t:Int,t<=aO n o t
 tz:∀l:Int,DJ n l->0<=tH n l/\tH n l<n.2.2.2.1.length/\1<=eJ n l
 bnd:∀l t:Int,DJ n l->od n l t=0->t<=mV n l t/\mV n l t<=2100000
theorem s7{tz o t:Int}{k:Nat}(h:o≠tz)(f:(iV n nx tz k o t).2=0):
  ∃z,k=z+1/\nxt nx o tz≠-1/\od n (nxt nx o tz) (aO n o t)=0/\
   (iV n nx tz z (tH n (nxt nx o tz)) (mV n (nxt nx o tz) (aO n o t)+eJ n (nxt nx o tz))).2=0/\
   (iV n nx tz k o t).1=(o,t,mV n (nxt nx o tz) (aO n o t),nxt nx o tz)::(iV n nx tz z (tH n (nxt nx o tz)) (mV n (nxt nx o tz) (aO n o t)+eJ n (nxt nx o tz))).1:=by
 by_cases u:nxt nx o tz=-1;rw[iL k h u]at f;cases f;by_cases j:od n (nxt nx o tz) (aO n o t)=0;cases k with
 |zero=>rw[jf h u j]at f;cases f
 |succ k=>
  rw[je k h u j]at f ⊢;by_cases y:(iV n nx tz k (tH n (nxt nx o tz)) (mV n (nxt nx o tz) (aO n o t)+eJ n (nxt nx o tz))).2=0;exact⟨k,rfl,u,j,y,by rw[Ja y];rfl⟩;rw[ti y]at f;exact absurd f y
 rw[lJ k h u j]at f;exact absurd f j
theorem M9(u:Base' n nx x){i:Itm}(h1:i.post=x)(G:i.lost=false)(A:i.sn=x.2.2.2.2)(h4:i.lb=x.1)(z:i.holds=0)
  (y:∃k,(iV n nx x.2.2.1 k i.off i.arr).2=0/\i.done++(iV n nx x.2.2.1 k i.off i.arr).1=IE n nx x.2.1 x.2.2.1 x.2.2.2.2) (h7:x.2.2.2.2<=i.arr) (j:0<=i.off/\i.off<n.2.2.2.1.length) (X:i.sL=[]):Good n nx x (jw (iu n nx) [] x.2.2.1 i):=by
 by_cases f:i.off=x.2.2.1;have e:jw (iu n nx) [] x.2.2.1 i={i with line:=-1}:=if_pos (.inr f);rw[e];exact⟨h1,G,A,h4,z,y,h7,λ_=>rfl,λh=>absurd f h,X⟩;obtain⟨k,hk,hw⟩:=id y;obtain⟨k',rfl,g1,g2,g3,g4⟩:=s7 f hk;have L:=u.cell i.off j.1 j.2 g1;have e:jw (iu n nx) [] x.2.2.1 i={i with line:=nxt nx i.off x.2.2.1,leave:=mV n (nxt nx i.off x.2.2.1) (aO n i.off i.arr)}:=by
  unfold jw;rw[if_neg (by rw[G];simp[f]),if_neg (by simp only[List.not_mem_nil,or_false,Int.not_lt];exact L.2.1),z,A];have eR:i.arr+(iu n nx).ps i.off*(iu n nx).mn i.off=aO n i.off i.arr:=rfl;have eN:(iu n nx).nx i.off x.2.2.1=nxt nx i.off x.2.2.1:=rfl;rw[eR,eN];have em:max (aO n i.off i.arr) x.2.2.2.2=aO n i.off i.arr:=by have:=u.offs i.off j.1 j.2 i.arr;omega
  rw[em];have ed:=u.dep (nxt nx i.off x.2.2.1) (aO n i.off i.arr) L;have et:Bf (iu n nx) (nxt nx i.off x.2.2.1) ((0:Int)+1).toNat i.leave (aO n i.off i.arr)=(true,mV n (nxt nx i.off x.2.2.1) (aO n i.off i.arr)):=by
   show Bf (iu n nx) _ 1 _ _=_;unfold Bf;rw[show(iu n nx).dE (nxt nx i.off x.2.2.1) (aO n i.off i.arr)=iR n (nxt nx i.off x.2.2.1) (aO n i.off i.arr)from rfl,ed.2,if_pos g2,show(iu n nx).dD (nxt nx i.off x.2.2.1) (aO n i.off i.arr)=ig n (nxt nx i.off x.2.2.1) (aO n i.off i.arr)from rfl,ed.1];rfl
  simp only[et,kJ]
 rw[e];exact⟨h1,G,A,h4,z,y,h7,λh=>absurd h f,λ_=>⟨rfl,rfl⟩,X⟩
def In'(n:Net)(i:Itm):Prop:=0<=i.off/\i.off<n.2.2.2.1.length
theorem TP{cc:Li}{tz:Int}:(jw (iu n nx) cc tz i).off=i.off:=by
 unfold jw;split<;>(try split)<;>rfl
theorem WV(u:Base' n nx x){i:Itm}(g:Good n nx x i)(y:In' n i)(G:i.off≠x.2.2.1):Good n nx x (IG (iu n nx) [] sb x.2.2.1 i)/\In' n (IG (iu n nx) [] sb x.2.2.1 i):=by
 obtain⟨h,z⟩:=g.go G;obtain⟨k,hk,hw⟩:=g.way;obtain⟨A,rfl,g1,g2,g3,g4⟩:=s7 G hk;have f:=u.cell i.off y.1 y.2 g1;obtain⟨X,L,t2⟩:=u.tz _ f;have ha:=u.offs i.off y.1 y.2 i.arr;have hbd:=u.bnd _ _ f g2;have hA:=g.arr;rw[h]at z;have j:0<=tH n i.line/\tH n i.line<n.2.2.2.1.length:=by rw[h];exact⟨X,L⟩
 refine⟨M9 u g.post g.lost g.sn g.lb rfl ⟨A,by dsimp only;rw[h,z];exact g3,?_⟩ (by dsimp only;rw[h]at *;have:(iu n nx).ltr (nxt nx i.off x.2.2.1)=eJ n (nxt nx i.off x.2.2.1):=rfl;omega) j g.sL,?_⟩
 .show i.done++[(i.off,i.arr,i.leave,i.line)]++(iV n nx x.2.2.1 A (tH n i.line) (i.leave+eJ n i.line)).1=_;rw[<- hw,g4,h,z];simp
 unfold In' IG;rw[TP];exact j
theorem La{u:Int}(j:Base' n nx x):∀(k:Nat) {i f:Itm},Good n nx x i->In' n i->DI (iu n nx) [] sb x.2.2.1 u k i=some f->Good n nx x f/\In' n f/\(0<=f.line->u<=f.leave)
 |0,_,_,_,_,h=>by cases h
 |k+1,i,f,g,hi,h=>by
  unfold DI at h;split at h;rename_i hc;split at h;cases h;obtain⟨z,y⟩:=WV (sb:=sb) j g hi λe=>by have:=g.at_ e;omega
  exact La j k z y h;rename_i hc;cases h;exact⟨g,hi,λh=>Z⟩
theorem Q5{its:List Itm}(z:Base' n nx x)(L:(iV n nx x.2.2.1 19 x.2.1 x.2.2.2.2).2=0)(j:0<=x.2.1/\x.2.1<n.2.2.2.1.length){a b:ByteArray}{l:Int}(f:ET (iu n nx) sb [(1,x.2.2.2.2,x,a,b,l)]=some its):
  ∃i,its=[i]/\i.post=x/\i.stops=IE n nx x.2.1 x.2.2.1 x.2.2.2.2/\i.lost=false/\i.lb=x.1/\i.sL=[]:=by
 have et:∀i:Itm,i.post=x->iy [i] x.1=x.2.2.1:=λi h=>by unfold iy;simp[h]
 have A:=M9 z (i:=nH x) rfl rfl rfl rfl rfl ⟨19,L,rfl⟩ (qL _) j rfl;have X:In' n (jw (iu n nx) [] x.2.2.1 (nH x)):=by unfold In';rw[TP];exact j
 have G:ET (iu n nx) sb [(1,x.2.2.2.2,x,a,b,l)]=uF (iu n nx) sb WX ([jw (iu n nx) [] x.2.2.1 (nH x)],[]):=by
  show uF (iu n nx) sb WX (qj (iu n nx) ([],[]) (1,x.2.2.2.2,x,a,b,l))=_;unfold qj;rw[if_pos rfl];show uF _ _ _ ([jw (iu n nx) [] (iy [nH x] x.1) (nH x)],[])=_;rw[et _ rfl]
 rw[G]at f;generalize jw (iu n nx) [] x.2.2.1 (nH x)=y at f A X;unfold uF at f;simp only[xC,List.mapM_nil,A.lb,et y A.post]at f;cases e:DI (iu n nx) [] sb x.2.2.1 WX 21 y with
 |none=>rw[e]at f;cases f
 |some i=>
  rw[e]at f;cases f;obtain⟨u,f2,f3⟩:=La z 21 A X e;have j:i.off=x.2.2.1:=by
   by_cases j:i.off=x.2.2.1;exact j;exfalso;obtain⟨G,e2⟩:=u.go j;obtain⟨k,hk,_⟩:=u.way;obtain⟨k',_,h1,h2,_⟩:=s7 j hk;have hl:=z.cell _ f2.1 f2.2 h1;have:=(z.bnd _ _ hl h2).2;have h3:=f3 (by rw[G];exact hl.2.1);rw[e2,G]at h3;unfold WX at h3;omega
  obtain⟨k,_,L⟩:=u.way;exact⟨i,rfl,u.post,by rw[<- L,oI k j];rfl,u.lost,u.lb,u.sL⟩
end
end Go.Eng.Top
namespace Go.Eng.Top
open Go.Proofs
noncomputable section
open Go.Eng.Sv (Net iu dA)
variable {n:Net} {nx:Lj} {ds:List cD} {sb:Int->Int->ByteArray} {T:Int} {s:Hst}
theorem mapM_map{α β γ:Type}{f:α->Option β}{g:α->γ}{g':β->γ}(y:∀a b,f a=some b->g' b=g a):∀{l:List α}{r:List β},l.mapM f=some r->r.map g'=l.map g
 |[],r,h=>by simp at h;subst h;rfl|a::l,r,h=>by
  rw[xC]at h;cases j:f a with
  |none=>rw[j]at h;cases h
  |some b=>
   cases u:l.mapM f with
   |none=>rw[j,u]at h;cases h
   |some bs=>
    rw[j,u]at h;cases h;rw[wR,wR,y a b j,mapM_map y u]
theorem pX{cc:Li}{tz:Int}{i j:Itm}(h:i.post=j.post):(jw (iu n nx) cc tz i).post=j.post:=by rw[<- h];exact(mW _ _).1
theorem KZ{cc:Li}{tz T:Int}:∀(k:Nat) {i f:Itm},DI (iu n nx) cc sb tz T k i=some f->f.post=i.post
 |0,_,_,h=>by cases h
 |k+1,i,f,h=>by
  unfold DI at h;split at h;split at h;cases h;exact(KZ k h).trans (BP i).1;cases h;rfl
theorem s9{its:List Itm}{k:Nat}{i j:Itm}(h:its[k]?=some i)(f:j.post=i.post):((its.set k j).map λi=>i.post)=its.map λi=>i.post:=by
 rw[List.map_set,f];apply wP;intro m;rw[vP];split;rename_i e;subst e;rw[qQ,h];split;rfl;rename_i g;rw[vT]at g;rw[zG Z]at h;cases h;rfl
theorem Kq{its:List Itm}{lb:ByteArray}{f:Itm->Itm}(h:∀i,(f i).post=i.post):((UO its lb f).map λi=>i.post)=its.map λi=>i.post:=by
 unfold UO;split;rename_i j e;exact s9 e (h j);rfl
theorem QE{cc:Li}{its:List Itm}{a b:ByteArray}{t:Int}:((NN (iu n nx) cc its a b t).map λi=>i.post)=its.map λi=>i.post:=by
 unfold NN;split;rename_i i j f h;split;rfl;have y:=s9 (j:=jw (iu n nx) cc (iy its j.lb) (GM i j.lb t)) f (pX rfl);by_cases u:S7 its a=S7 its b;rw[u]at f ⊢;rw[f]at h;cases h;rw[List.set_set];exact s9 f (pX rfl);have z:(its.set (S7 its a) (jw (iu n nx) cc (iy its j.lb) (GM i j.lb t)))[S7 its b]?=some j:=by
  rw[zT u];exact h
 exact(s9 (j:=jw (iu n nx) cc (iy its i.lb) (GM j i.lb t)) z (pX rfl)).trans y;rfl
def PE(its:List Itm):List Pst:=its.map λi=>i.post
def PG(its:List Itm):List ByteArray:=(PE its).map (·.1)
theorem J7(s:Hst)(d:cD):PE (qj (iu n nx) s d).1=if d.1=1 then PE s.1++[d.2.2.1]else PE s.1:=by
 unfold qj;split;show PE (s.1++[_])=_;unfold PE;rw[wV,List.map_singleton,(mW _ _).1];rfl;split;exact Kq λi=>pX rfl;split;exact Kq Hw;split;exact QE;unfold PE;dsimp only;rw[qBb];refine zS λi _=>?_;simp only[Function.comp];split<;>rfl
theorem Da(s:Hst)(d:cD):PG (qj (iu n nx) s d).1=nxP (PG s.1) d:=by
 unfold PG nxP;rw[J7];split;rw[wV];rfl;rfl
theorem BE{s:Hst}{its:List Itm}(f:uF (iu n nx) sb T s=some its):PE its=PE s.1:=
 mapM_map (g:=λi:Itm=>i.post) (g':=λi:Itm=>i.post) (λ_ _ h=>KZ 21 h) f
theorem tr{s:Hst}{its:List Itm}(f:uF (iu n nx) sb T s=some its):PG its=PG s.1:=by
 unfold PG;rw[BE f]
variable {lab:ByteArray->Bool}{l4 l5:Nat}
theorem Jy{its:List Itm}{lb:ByteArray}(h:lb∈PG its):∃i∈its,i.post.1=lb:=by
 obtain⟨_,f,rfl⟩:=vU.1 h;obtain⟨i,j,rfl⟩:=vU.1 f;exact⟨i,j,rfl⟩
def PW(lab:ByteArray->Bool)(f h:Nat)(x:Pst):Prop:=lab x.1=true/\(0<=x.2.2.2.2/\x.2.2.2.2<=1000000)/\(0<=x.2.1/\x.2.1<f)/\(0<=x.2.2.1/\x.2.2.1<f)/\(0<=x.2.2.2.1/\x.2.2.2.1<h)
def aBp(lab:ByteArray->Bool)(h f:Nat)(its:List Itm):Prop:=(PG its).Nodup/\∀x∈PE its,PW lab h f x
theorem QZ:∀(f:List cD) {T:Int}{s j:Hst},0<=T->aBp lab n.2.2.2.1.length l5 s.1->CG lab n.2.2.2.1.length l4 l5 (PG s.1) T f->ES (iu n nx) sb f s=some j->aBp lab n.2.2.2.1.length l5 j.1
 |[],_,_,_,_,hi,_,h=>by cases h;exact hi
 |d::f,T,s,j,hT,hi,⟨⟨w1,w2,z⟩,u⟩,h=>by
  unfold ES stepD at h;cases e:uF (iu n nx) sb d.2.1 s with
  |none=>rw[e]at h;cases h
  |some its=>
   rw[e]at h;rw[<- tr e]at z u;unfold aBp at hi;rw[<- tr e,<- BE e]at hi;refine QZ (T:=d.2.1) f Z ?_ (by rw[Da];exact u) h;unfold aBp;rw[Da,J7];unfold nxP;by_cases k:d.1=1;rw[if_pos k,if_pos k];rcases z with⟨_,L,a3,_,a7,a4,a5,X⟩|⟨a,_⟩|⟨a,_⟩|⟨a,_⟩;refine⟨List.nodup_append.2 ⟨hi.1,by simp,λx G y A e=>a3 ?_⟩,app1 hi.2 ⟨L,Z,a4,a5,X⟩⟩;rw[<- qW.1 A,<- e];exact G;omega;omega;omega;rw[if_neg k,if_neg k];exact hi
theorem sI{its:List Itm}(u:CG lab n.2.2.2.1.length l4 l5 [] 0 ds)(f:ET (iu n nx) sb ds=some its):aBp lab n.2.2.2.1.length l5 its:=by
 unfold ET at f;cases e:ES (iu n nx) sb ds ([],[])with
 |none=>rw[e]at f;cases f
 |some s=>
  rw[e]at f;have h:=QZ (l4:=l4) (s:=([],[])) ds (qL 0) ⟨List.nodup_nil,λx j=>by cases j⟩ u e;unfold aBp;rw[tr f,BE f];exact h
theorem YS(j:∀s,lab s=true->s.size<=1000)(L:l4<=100000):∀(f:List cD) {ps:List ByteArray}{T:Int}{s:Hst},0<=T->PG s.1=ps->CG lab n.2.2.2.1.length l4 l5 ps T f->Wy (iu n nx) f s
 |[],_,_,_,_,_,_=>trivial|d::f,ps,T,s,hT,G,⟨⟨w1,w2,y⟩,u⟩=>λz e=>by
  have h:=(tr e).trans G;refine⟨⟨Z,?_⟩,YS j L f Z (by rw[Da,<- h]) u⟩;rcases y with⟨a,X,a3,_,a7,a4,a5,_⟩|⟨a,b⟩|⟨a,b,c,e⟩|⟨a,b,c⟩;exact .inl ⟨a,a7,λq A e=>a3 (by rw[<- h,<- e];exact vU.2 ⟨_,vU.2 ⟨q,A,rfl⟩,rfl⟩),j _ X,a4,a5⟩;exact .inr (.inl ⟨a,Jy (by rw[h];exact b)⟩);exact .inr (.inr (.inl ⟨a,Jy (by rw[h];exact b),Jy (by rw[h];exact c),e⟩));exact .inr (.inr (.inr ⟨a,Sv.Bd Z⟩))
end
end Go.Eng.Top
namespace Go.Eng.Top
open Go.Proofs
open Go.Eng.Sv (Net da wz dfD nR hasB isPost dA jK mK oZ tf I4 pcF)
def posts(pre:List cD):List ByteArray:=(pre.filter λd=>decide (d.1=1)).map λd=>d.2.2.1.1
theorem Qb{x y:ByteArray}(h:x.toList=y.toList):x=y:=str_inj (by rwa [ByteArray.toList_eq,ByteArray.toList_eq]at h)
theorem Cm{pre:List cD}{lb:ByteArray}:hasB pre lb=true↔lb∈posts pre:=by
 unfold hasB posts isPost;rw[xZ];simp only[qC,qF,yJ,vU,xJ];exact⟨λ⟨d,h,k,e⟩=>⟨d,⟨h,k⟩,Qb e⟩,λ⟨d,⟨h,k⟩,e⟩=>⟨d,h,k,by rw[e]⟩⟩
theorem N5(pre:List cD)(d:cD):posts (pre++[d])=nxP (posts pre) d:=by
 unfold posts nxP;rw[yF,wV];by_cases k:d.1=1;simp[k];simp[k]
theorem Wp(l:List cD):pcF l=((posts l).length:Int):=by
 unfold pcF posts;rw[vT]
theorem Tm{n:Net}{ds:List cD}(h:da n ds=true):∀(f pre:List cD) (T:Int),ds=pre++f->((pre=[]/\T=0)\/(pre≠[]/\T=(ds.getD (pre.length-1) dfD).2.1))->CG dA n.2.2.2.1.length n.2.2.2.2.1.length n.2.2.2.2.2.length (posts pre) T f
 |[],_,_,_,_=>trivial|d::f,pre,T,e,hT=>by
  unfold da at h;simp only[qC,qU,wG,qF]at h;obtain⟨⟨h1,h2⟩,h3⟩:=h;have hl:pre.length<ds.length:=by rw[e];simp
  have hd:ds.getD pre.length dfD=d:=by rw[e];simp
  have ht:ds.take pre.length=pre:=by rw[e];simp
  have y:=h1 pre.length hl;unfold wz at y;rw[hd,ht]at y;simp only[qC,yO,qF]at y;obtain⟨⟨⟨t0,t1⟩,u⟩,j⟩:=y;have G:T<=d.2.1:=by
   rcases hT with⟨_,rfl⟩|⟨A,rfl⟩;exact t0;rcases u with u|u;exact absurd (vI u) A;exact u
  have hc:d.1=1->(posts pre).length<60:=λk=>by
   have h4:posts ds=(posts pre++[d.2.2.1.1])++posts f:=by
    unfold posts;rw[e,yF,yV,if_pos (qP k)];simp
   rw[Wp,h4,qG,qG,qX]at h3;omega
  refine⟨⟨G,t1,?_⟩,?_⟩;by_cases z:d.1=1;obtain⟨a,b,c1,c2,c3,c4⟩:=(jK z).1 j;exact .inl ⟨z,a,(λhm=>by rw[Cm.2 hm]at b;cases b),hc z,c4,c1,c2,c3⟩;by_cases k2:d.1=2\/d.1=3;rw[mK k2]at j;exact .inr (.inl ⟨k2,Cm.1 j⟩);by_cases X:d.1=4;obtain⟨a,b,c⟩:=(oZ X).1 j;exact .inr (.inr (.inl ⟨X,Cm.1 a,Cm.1 b,λe=>c (by rw[e])⟩));by_cases L:d.1=5;have:=(tf L).1 j;exact .inr (.inr (.inr ⟨L,this⟩));rw[I4 Z]at j;cases j;rw[<- N5];exact Tm (by unfold da;simp only[qC,qU,wG,qF];exact⟨⟨h1,h2⟩,h3⟩) f (pre++[d]) d.2.1 (by rw[e];simp) (.inr ⟨by simp,by rw[qG,qX,qCf,hd]⟩)
theorem Tj{n:Net}{ds:List cD}(h:da n ds=true):CG dA n.2.2.2.1.length n.2.2.2.2.1.length n.2.2.2.2.2.length [] 0 ds:=Tm h ds [] 0 rfl (.inl ⟨rfl,rfl⟩)
theorem GR{s:ByteArray}(h:dA s=true):s.size<=1000:=by
 unfold dA at h;rw[qC,qF]at h;omega
open Go.Proofs Go.RowKit
open Go.Eng.Sv (Net Trk Tk De Stp M I S C Of Ln Kl G0 R iu aZ nC da dA nE Zb BK jb LC LB)
def dP(i:Itm):Trk:=(i.post,i.stops,i.lost,i.sL++[i.sn],i.bL++[i.lb],i.seals)
noncomputable def DG(n:Net)(nx:Lj)(ds:List cD):Option (List Itm):=ET (iu n nx) (sbD (iu n nx)) ds
def bB(k:Int):Bool:=decide (-3000000<=k)&&decide (k<=3000000)
def zB(s:ByteArray):Bool:=decide (s.size<=1000)
def trB(t:Trk):Bool:=decide (t.2.1.length<=20)&&decide (t.2.2.2.1.length<=121)&&decide (t.2.2.2.2.1.length<=121)&&decide (t.2.2.2.2.2.length<=20) &&
 (t.2.1.all λs=>bB s.1&&bB s.2.1&&bB s.2.2.1&&bB s.2.2.2)&&t.2.2.2.1.all bB&&t.2.2.2.2.1.all zB&&t.2.2.2.2.2.all zB&&decide (t.2.2.2.1.length=1->t.2.2.2.2.1=[t.1.1])
def O8(its:List Itm):Bool:=decide (its.length<=120)&&its.all λi=>trB (dP i)
noncomputable def td(n:Net)(nx:Lj)(ds:List cD):List Trk:=match DG n nx ds with|some its=>if O8 its=true then its.map dP else[]|none=>[]
noncomputable def KR(n:Net)(nx:Lj)(ds:List cD):Int:=match DG n nx ds with|some its=>if O8 its=true then 0 else 2|none=>2
def aGU(n:Net)(nx:Lj)(ds:List cD):Prop:=aZ n=true/\nC n nx=true/\da n ds=true
theorem aEC{d:Dat}{m:Nat}{its:List Itm}{i:Itm}(f:OkI d m its i)(hm:m<=120)(hN:d.N<=12):trB (dP i)=true:=by
 obtain⟨u,j,⟨G,A⟩,z,y⟩:=f.sm;have h1:=f.dl;have h2:=f.sl;have h3:=f.bl;have h4:=f.el;have h5:=f.off;have h6:=f.arr;have h7:=f.sn;unfold inB at u j;unfold trB bB zB dP Itm.stops;simp only[qC,qF,qU,qG,qX];refine⟨⟨⟨⟨⟨⟨⟨⟨Z,Z⟩,Z⟩,Z⟩,app1 (λs h=>?_) (by dsimp only;omega)⟩,app1 (λs h=>?_) Z⟩,app1 G A⟩,z⟩,λh=>?_⟩;have:=u s h;omega;have:=j s h;omega;obtain⟨X,L⟩:=y (vI Z);rw[X,L];rfl
variable {W:World}{DD:Nat->Prop}
theorem Tt{α:Type}{sz:Nat}:∀{bl:List (List α)}{i j:Nat}{c:List α}{u:α},(∀c∈bl,c.length=sz)->bl[i]?=some c->c[j]?=some u->bl.flatten[i*sz+j]?=some u
 |[],_,_,_,_,_,h,_=>by simp at h|b::bl,0,j,c,u,y,h,f=>by
  simp only[kF,vV]at h;subst h;rw[xQ,xB,zU,vY (qE.1 f).1];exact f
 |b::bl,i+1,j,c,u,y,h,f=>by
  have z:=y b wO;rw[xQ,qZ (by rw[z,Nat.succ_mul];omega),z,Nat.succ_mul,show i*sz+sz+j-sz=i*sz+j by omega];exact Tt (λc h=>y c (wU _ h)) (by simpa using h) f
theorem Rz{t:Ty}{xs:List t.den}{bl:List (Lv)}{v:Value}{B E:Nat}(h:W.ownsRow B E t.sz v (List.length xs) bl.flatten)(hn:bl.length=List.length xs)(hs:∀c∈bl,c.length=t.sz)
  (hr:∀(i:Nat) (y:t.den) (c:Lv),(xs:List t.den)[i]?=some y->bl[i]?=some c->af W DD t y c) (hD:∀b,B<=b->b<W.heap.size->DD b):af W DD (.sl t) xs [v]:=by
 obtain⟨_,⟨rfl,z⟩|⟨g,A,cur,rfl,hg,hb,f,_,hsz,htk⟩⟩:=id h;have z:xs=[]:=vI z;subst z;exact⟨none,0,rfl,qN _,λ_=>rfl,λ_ h=>(by cases h),λi y h=>(by cases h)⟩;refine⟨_,A,rfl,f,λh=>(by cases h),λa h _=>(by cases h;rfl),λi y G=>?_⟩;have hi:i<bl.length:=by rw[hn];exact(qE.1 G).1
 have X:bl[i]?=some bl[i]:=qB hi;refine⟨_,bl[i],rfl,hD _ hg (qK.1 hb).1,λj u hj=>?_,hr i y _ G X⟩;have L:=Tt hs X hj;show W.cell? ⟨g,0+i*t.sz+j,none⟩=some u;rw[zU,h.cellAt _ (by rw[<- h.1];exact(qE.1 L).1)];exact L
theorem Jf{t:Ty}{xs:List t.den}{f:t.den->Value}{v:Value}{B E:Nat}(h:W.ownsRow B E t.sz v (List.length xs) (xs.map f))(L:t.sz=1)(A:∀y:t.den,af W DD t y [f y])(G:∀b,B<=b->b<W.heap.size->DD b):af W DD (.sl t) xs [v]:=by
 refine Rz (bl:=xs.map λx=>[f x]) (E:=E) ?_ (by simp) (λc j=>?_) (λi y c z j=>?_) G;have e:(xs.map λx=>[f x]).flatten=xs.map f:=by
  clear h;induction xs with
  |nil=>rfl|cons x xs u=>rw[wR,xQ,u];rfl
 rw[e];exact h;obtain⟨x,_,rfl⟩:=vU.1 j;rw[L];rfl;rw[qQ,z]at j;cases j;exact A y
theorem aBU{v:Value}{its:List Itm}{X:List Gh}{B:Nat}(h:aGy W B v (its.map Itm.raw) X)(G:∀b,B<=b->b<W.heap.size->DD b):af W DD (.sl Tk) (its.map dP) [v]:=by
 have hl:X.length=its.length:=by simpa using h.len
 refine Rz (t:=Tk) (bl:=(X.zip (its.map Itm.raw)).map λp=>Yx p.1 p.2) (E:=55) (B:=B) ?_ (by simp[hl]) (λc u=>?_) (λi y c A u=>?_) G;have:=h.row;rw[vT]at this;show W.ownsRow B 55 10 v (List.length (its.map dP)) _;rw[vT];exact this;obtain⟨p,_,rfl⟩:=vU.1 u;rfl;rw[qQ]at u A;obtain⟨p,hp,rfl⟩:=kZ.1 u;obtain⟨g,r⟩:=p;rw[List.getElem?_zip_eq_some]at hp;obtain⟨L,z⟩:=hp;rw[qQ]at z;obtain⟨j,hi,rfl⟩:=kZ.1 z;rw[hi]at A;cases A;have z:(its.map Itm.raw)[i]?=some j.raw:=by rw[qQ,hi];rfl
 have st:af W DD (.sl Stp) j.stops [g.st]:=by
  refine Rz (t:=Stp) (bl:=j.stops.map kt) (E:=61) (B:=B) ?_ (by simp) (λc u=>?_) (λi y c A u=>?_) G;exact h.st i g _ L z;obtain⟨x,_,rfl⟩:=vU.1 u;rfl;rw[qQ,A]at u;cases u;exact⟨[.int .i64 y.1],_,rfl,rfl,[.int .i64 y.2.1],_,rfl,rfl,[.int .i64 y.2.2.1],[.int .i64 y.2.2.2],rfl,rfl,rfl⟩
 have si:af W DD (.sl I) (j.sL++[j.sn]) [g.si]:=Jf (t:=I) (f:=Value.int .i64) (h.si i g _ L z) rfl (λ_=>rfl) G;have la:af W DD (.sl S) (j.bL++[j.lb]) [g.la]:=Jf (t:=S) (f:=Value.string) (h.la i g _ L z) rfl (λ_=>rfl) G;have se:af W DD (.sl S) j.seals [g.se]:=Jf (t:=S) (f:=Value.string) (h.se i g _ L z) rfl (λ_=>rfl) G;exact⟨[.string j.post.1,.int .i64 j.post.2.1,.int .i64 j.post.2.2.1,.int .i64 j.post.2.2.2.1,.int .i64 j.post.2.2.2.2],_,rfl,⟨[_],_,rfl,rfl,[_],_,rfl,rfl,[_],_,rfl,rfl,[_],[_],rfl,rfl,rfl⟩,[g.st],_,rfl,st,[.bool j.lost],_,rfl,rfl,[g.si],_,rfl,si,[g.la],[g.se],rfl,la,se⟩
theorem aFU{ds:List Sv.cD}{v:Value}(h:af W DD (.sl De) ds [v])(hD:∀b,DD b->b<W.heap.size):∃(A:Option Addr) (y:Nat),v=.slice A ds.length y/\aBL W A ds:=by
 obtain⟨ao,y,rfl,hr⟩:=nE h;refine⟨ao,y,rfl,λk e he=>?_⟩;obtain⟨b,f,us,e1,hb,hc,hu⟩:=hr k e he;obtain⟨_,_,rfl,g1,_,_,rfl,g2,_,_,rfl,⟨_,_,rfl,p1,_,_,rfl,p2,_,_,rfl,X,_,_,rfl,L,G⟩,_,_,rfl,g3,_,_,rfl,g4,g5⟩:=hu;obtain rfl:=(g1:_=[Value.int .i64 e.1]);obtain rfl:=(g2:_=[Value.int .i64 e.2.1]);obtain rfl:=(p1:_=[Value.string e.2.2.1.1]);obtain rfl:=(p2:_=[Value.int .i64 e.2.2.1.2.1]);obtain rfl:=(X:_=[Value.int .i64 e.2.2.1.2.2.1]);obtain rfl:=(L:_=[Value.int .i64 e.2.2.1.2.2.2.1]);obtain rfl:=(G:_=[Value.int .i64 e.2.2.1.2.2.2.2]);obtain rfl:=(g3:_=[Value.string e.2.2.2.1]);obtain rfl:=(g4:_=[Value.string e.2.2.2.2.1]);obtain rfl:=(g5:_=[Value.int .i64 e.2.2.2.2.2]);refine⟨b,f,e1,hD _ hb,λj u z=>hc j u ?_⟩;rw[<- yA]at z;exact z
theorem aEH(p1 p2:Int)(nx:Lj)(dy:List (Lj))(ds:List Sv.cD)(A:LC)(u j:LB)(f:List Sv.Off)(ls:List Sv.Line)(z:List Sv.Cla):
  aj Tryz.prog G0 13 [Sv.net A u j f ls z,.agg [.dat I p1,.dat I p2,.dat M nx,.dat (.sl M) dy],.dat (.sl De) ds] [] ⟨aGU (A,u,j,f,ls,z) nx ds,.tup [.dat (.sl Tk) (td (A,u,j,f,ls,z) nx ds),.dat I (KR (A,u,j,f,ls,z) nx ds)],[]⟩:=by
 rintro⟨hs,ht,hd⟩ w D E us hD hG hargs hH;obtain⟨_,_,rfl,⟨_,rfl,v1,_,rfl,h1,v2,_,rfl,h2,v3,_,rfl,h3,v4,_,rfl,h4,v5,_,rfl,h5,v6,_,rfl,h6,rfl⟩,_,_,rfl,⟨_,rfl,q1,_,rfl,i1,q2,_,rfl,i2,vx,_,rfl,hx,q4,_,rfl,i4,rfl⟩,vd,_,rfl,hds,rfl⟩:=hargs;have env:=Zb A u j f ls z hD hG h1 h2 h3 h4 h5 h6 hx hs ht;obtain⟨a4,c4,e4,_⟩:=nE h4;obtain⟨a5,c5,e5,_⟩:=nE h5;obtain⟨a6,c6,e6,_⟩:=nE h6;obtain⟨ax,cx,ex,_⟩:=nE hx;obtain⟨ad,cd,ed,hda⟩:=aFU hds hD;subst e4 e5 e6 ex ed;have hno:=Sv.gA A u j f ls z hs;have l40:=(Sv.lV A u j f ls z hno).1;have hfo:=Tj hd;have hde:=hd;unfold da at hde;simp only[qC,qF]at hde;have up:∀{V:World},Below w.heap.size w V->(∀b,D b->b<V.heap.size)/\jB Tryz.prog ⟨V,D,noM,noE⟩ G0/\(∀{t:Ty}{x:t.den}{us:Lv},af w D t x us->af V D t x us):=λ{V} hB=>
  ⟨λb h=>qI (hD b h) hB.size,jB.mono (show Later ⟨w,D,bG [],E⟩ ⟨V,D,noM,noE⟩from⟨λ_ h=>h,λb h=>hB.block b (hD b h)⟩) hG,λh=>aw (λ_ h=>h) (λb X=>hB.block b (hD b X)) h⟩
 have fit:jb nx:=by
  have e:(nx.length:Int)=f.length:=by
   unfold nC at ht;simp only[qC,qF]at ht;exact ht.1
  have l12:=(Sv.tC A u j f ls z hno).1;refine⟨Z,λr hr=>?_⟩;obtain⟨i,hi,rfl⟩:=yD.1 hr;have h:=(Sv.nP (n:=(A,u,j,f,ls,z)) e).1 ht i Z;rw[qA,qB hi,vK]at h;unfold Sv.rowOk at h;simp only[qC,qF]at h;have h1:((nx[i].length:Nat):Int)=f.length:=h.1;omega
 have hc:=aFZ (W:=w) (d:=iu (A,u,j,f,ls,z) nx) (lab:=dA) (p0:=q1) (p1:=q2) (p3:=q4) (cd:=cd) hde.1.2 hda env (λV hB=>by
   obtain⟨g1,g2,G⟩:=up hB;refine((Sv.Ky A u j f ls z).data trivial g1 g2 (BK (E:=noE) A u j f ls z (G h1) (G h2) (G h3) (G h4) (G h5) (G h6) rfl)).mono ?_;rintro e w' ⟨v,rfl,X,L⟩;have L:[v]=[Value.bool (aZ (A,u,j,f,ls,z))]:=L;cases L;rw[hs];exact⟨rfl,X⟩) (λV hB=>by
   obtain⟨g1,g2,G⟩:=up hB;refine((Sv.ZM nx A u j f ls z).data fit g1 g2 (BK (E:=noE) A u j f ls z (G h1) (G h2) (G h3) (G h4) (G h5) (G h6) ⟨_,_,rfl,G hx,rfl⟩)).mono ?_;rintro e w' ⟨v,rfl,X,L⟩;have L:[v]=[Value.bool (nC (A,u,j,f,ls,z) nx)]:=L;cases L;rw[ht];exact⟨rfl,X⟩) (λV s hz=>by
   refine((Sv.Qx s).data (D:=λ_=>False) (us:=[.string s]) (by unfold Sv.ya;omega) (λb h=>h.elim) (λp h=>by cases h) ⟨_,_,rfl,rfl,rfl⟩).mono ?_;rintro e w' ⟨v,rfl,X,L⟩;have L:[v]=[Value.bool (dA s)]:=L;cases L;exact⟨rfl,X⟩) (λs h=>GR h) hfo (YS (λs h=>GR h) (by show ls.length<=100000;omega) ds (qL 0) rfl hfo)
 refine hc.mono ?_;rintro e w' ⟨hB,h⟩;have left:Left Tryz.prog (bG []) [] w D E w' (λb=>D b\/gi w w' b) E:=⟨(Chg.refl _ _).below hB,λ_ h=>.inl h,λb h=>h.imp id λh=>.inl h.1,λb h=>h.elim (λh=>qI (hD b h) hB.size) λh=>h.2,Held.none _ _ _ _,λnm b b' g=>(by cases g),λnm b b' g=>(by cases g),λnm b _ g=>(by cases g),λnm i b g=>(gn g).elim⟩;rcases h with⟨its,v,gs,hr,rfl,hT,hq,hok⟩|⟨hr,rfl⟩;refine⟨_,_,E,rfl,left,?_⟩;have X:O8 its=true:=by
  have l12:=(Sv.tC A u j f ls z hno).1;unfold O8;rw[qC,qF,qU];exact⟨hq,λi hi=>aEC (hok i hi).1 hde.1.2 (show f.length<=12 by omega)⟩
 have e1:td (A,u,j,f,ls,z) nx ds=its.map dP:=by unfold td DG;rw[hr];exact if_pos X
 have e2:KR (A,u,j,f,ls,z) nx ds=0:=by unfold KR DG;rw[hr];exact if_pos X
 rw[e1,e2];exact⟨[v,.int .i64 0],rfl,v,_,rfl,aBU hT (λb h1 h2=>.inr ⟨h1,h2⟩),_,_,rfl,rfl,rfl⟩;refine⟨_,_,E,rfl,left,?_⟩;have e1:td (A,u,j,f,ls,z) nx ds=[]:=by unfold td DG;rw[hr]
 have e2:KR (A,u,j,f,ls,z) nx ds=2:=by unfold KR DG;rw[hr]
 rw[e1,e2];exact⟨[.slice none 0 0,.int .i64 2],rfl,_,_,rfl,⟨none,0,rfl,qN _,λ_=>rfl,λ_ h=>(by cases h),λi y h=>(by cases h)⟩,_,_,rfl,rfl,rfl⟩
end Go.Eng.Top
noncomputable section
namespace Go.Eng.Sv
open Go.Proofs
abbrev Df:Ty:=.pair I (.pair I (.pair S (.pair I (.pair I (.pair I (.pair I (.pair S (.pair S I))))))))
abbrev oC:=Int×Int×ByteArray×Int×Int×Int×Int×ByteArray×ByteArray×Int
def nst(d:oC):cD:=(d.1,d.2.1,(d.2.2.1,d.2.2.2.1,d.2.2.2.2.1,d.2.2.2.2.2.1,d.2.2.2.2.2.2.1),d.2.2.2.2.2.2.2.1,d.2.2.2.2.2.2.2.2.1,d.2.2.2.2.2.2.2.2.2)
def fU(ds:List oC):List cD:=ds.map nst
def iY(n:Net)(nx:Lj)(ds:List cD):List Trk:=Top.td n nx ds
def I3(n:Net)(nx:Lj)(ds:List cD):Int:=Top.KR n nx ds
abbrev I1(n:Net)(nx:Lj)(ds:List cD):Prop:=aZ n=true/\nC n nx=true/\da n ds=true
def zCs:List (Int×List Bool×Li):=[(0,[true,true,true,true,true,false,false],[])]
def zNs:List ByteArray:=[⟨#[99]⟩]
def zOs:List ByteArray:=[⟨#[112]⟩,⟨#[113]⟩]
def zFs:Lo:=[(⟨#[97]⟩,0,0,2,1,10,[]),(⟨#[98]⟩,1,0,2,1,10,[])]
def zLs:Ll:=[(⟨#[108]⟩,0,1,480,120,1),(⟨#[109]⟩,1,0,600,60,1)]
def zKs:Lk:=[(⟨#[107]⟩,1020,720)]
def Tv(n:Net)(nx:Lj)(ds:List oC):Bool:=JO n nx (fU ds)&&aZ n&&aCz n nx&&da n (fU ds)
def XF(nx:Lj)(ds:List oC):Prop:=jb nx/\nj (fU ds)
def rW(n:Net)(p:Plan)(x:Post):Bool:=decide (UY n x.2.2.2.1 x.2.1 x.2.2.2.2=0)&&decide (DK n p.2.2.2 x=0)&&decide (NA n p.2.2.1 x.2.1 x.2.2.1 x.2.2.2.2=0)&&!(decide ((xF n p.2.2.1 x.2.1 x.2.2.1 x.2.2.2.2).length=0))&&!(decide (PO n x.2.2.2.1 x.2.1 x.2.2.2.2<1440*p.1))&&!(decide (1440*p.2.1<=PO n x.2.2.2.1 x.2.1 x.2.2.2.2))
def BZ(n:Net)(p:Plan)(x:Post):Bool:=decide (Ko n x.2.2.2.1 x.2.2.1 (ja (xF n p.2.2.1 x.2.1 x.2.2.1 x.2.2.2.2)).2.1=0)
def vL(n:Net)(p:Plan)(t:Trk):Bool:=!(rW n p t.1)||!(BZ n p t.1)||(IK n t&&decide (dvD n t<=PN n p.2.2.2 t.1))
def SI(p:Plan)(t:Trk):Prop:=(0<=p.1/\p.1<=1000000/\0<=p.2.1/\p.2.1<=1000000)/\jb p.2.2.1/\fitsT p.2.2.2/\dvP t.2.1 t.2.2.2.2.1
abbrev GU:=az [] (λ_=>True) λ_=>.agg [.dat (.sl C) zCs,.dat (.sl S) zNs,.dat (.sl S) zOs,.dat (.sl Of) zFs,.dat (.sl Ln) zLs,.dat (.sl Kl) zKs]
def KY1:Kt:=kOr 20 GU <|
 kOr 7 (az [.val R] (λ(l,_)=>Go.Eng.In.aBE l) λ(l,_)=>.dat I (Go.Eng.In.jI l)) <|
 kOr 8 (az [.row N,.row Go.Eng.In.Ce] (λ_=>True) λ(n,c,_)=>.dat .bool (Go.Eng.In.sy n c.1)) <|
 kOr 10 (az [.row N,.row Go.Eng.In.Ce] (λ(n,c,_)=>Go.Eng.In.Ai c.1/\Go.Eng.In.Ab n) λ(n,c,_)=>.dat I (Go.Eng.In.iH n c.1 c.2)) <|
 kOr 11 (az [.row Go.Eng.In.Ce] (λ(c,_)=>Go.Eng.In.Ai c.1) λ(c,_)=>.tup [.agg [.dat I (Go.Eng.In.pq c).1,.dat I (Go.Eng.In.pq c).2.1,.dat M (Go.Eng.In.pq c).2.2.1,.dat (.sl M) (Go.Eng.In.pq c).2.2.2],.dat I (Go.Eng.In.FP c)]) <|
 kOr 13 (az [.row N,.row Pl,.val (.sl Df)] (λ(n,p,f,_)=>I1 n p.2.2.1 (fU f)) λ(n,p,f,_)=>.tup [.dat (.sl Tk) (iY n p.2.2.1 (fU f)),.dat I (I3 n p.2.2.1 (fU f))]) <|
 kOr 22 G5 <|
 kOr 17 (az [.row N,.row Pl,.val (.sl Df)] (λ_=>True) λ(n,p,f,_)=>.dat .bool (JO n p.2.2.1 (fU f))) <|
 kOr 35 As <|
 kOr 36 (az [.row N,.val (.sl Df)] (λ(_,f,_)=>nj (fU f)) λ(n,f,_)=>.dat .bool (da n (fU f))) <|
 kOr 42 MK <|
 kOr 21 MI <|
 kOr 15 GV KX2
theorem aB0:eO 20 GU:=ae λ_=>by
 refine zE (A:=aE) (p:=let f:=((0:Int),(2:Int),(1:Int),(10:Int),Du ByteArray);(True->L4 1 0 1 1 0 1 1 0 1 (z8 1 0 1 0 1 0 1 0 ([((0:Int),[true,true,true,true,true,false,false],Du Int)]=zCs/\[ByteArray.mk #[(99:UInt8)]]=zNs/\[ByteArray.mk #[(112:UInt8)],ByteArray.mk #[(113:UInt8)]]=zOs/\[(ByteArray.mk #[(97:UInt8)],(0:Int),f),(ByteArray.mk #[(98:UInt8)],(1:Int),f)]=zFs/\[(ByteArray.mk #[(108:UInt8)],(0:Int),(1:Int),(480:Int),(120:Int),(1:Int)),(ByteArray.mk #[(109:UInt8)],(1:Int),(0:Int),(600:Int),(60:Int),(1:Int))]=zLs/\[(ByteArray.mk #[(107:UInt8)],(1020:Int),(720:Int))]=zKs/\True)))) aBJ λ_=>?_;refine Z9 ?_;exact⟨rfl,rfl,rfl,rfl,rfl,rfl⟩
theorem RI{w:World}{D:Nat->Prop}{ds:List oC}{us:Lv}(h:af w D (.sl Df) ds us):af w D (.sl De) (fU ds) us:=by
 obtain⟨ao,f,rfl,h1,h2,h3,h4⟩:=h;have z:(fU ds).length=ds.length:=vT _;refine⟨ao,f,by show _=[Value.slice ao (fU ds).length f];rw[z],by show(fU ds).length<=f;rw[z];exact h1,h2,λa e h=>h3 a e (by have h:0<(fU ds).length:=h;rw[z]at h;exact h),λi y u=>?_⟩;have u:(ds.map nst)[i]?=some y:=u;rw[qQ]at u;obtain⟨d,hd,rfl⟩:=kZ.1 u;obtain⟨a,ue,e1,e2,e3,e4⟩:=h4 i d hd;refine⟨a,ue,e1,e2,e3,?_⟩;obtain⟨u1,_,rfl,g1,u2,_,rfl,g2,u3,_,rfl,g3,u4,_,rfl,g4,u5,_,rfl,g5,u6,_,rfl,g6,X,_,rfl,g7,L,_,rfl,g8,G,j,rfl,g9,A⟩:=e4;refine⟨u1,_,rfl,g1,u2,_,rfl,g2,u3++(u4++(u5++(u6++X))),L++(G++j),by simp,⟨u3,_,rfl,g3,u4,_,rfl,g4,u5,_,rfl,g5,u6,X,rfl,g6,g7⟩,L,_,rfl,g8,G,j,rfl,g9,A⟩
theorem RJ{C:Ctx}{a b:AV}{ds:List oC}{us:Lv}(h:AV.relL Tryz.prog C [a,b,.dat (.sl Df) ds] us):AV.relL Tryz.prog C [a,b,.dat (.sl De) (fU ds)] us:=by
 obtain⟨u,_,rfl,G,j,_,rfl,A,f,_,rfl,z,y⟩:=h;exact⟨u,_,rfl,G,j,_,rfl,A,f,_,rfl,RI z,y⟩
theorem WL{C:Ctx}{a:AV}{ds:List oC}{us:Lv}(h:AV.relL Tryz.prog C [a,.dat (.sl Df) ds] us):AV.relL Tryz.prog C [a,.dat (.sl De) (fU ds)] us:=by
 obtain⟨j,_,rfl,z,f,_,rfl,y,u⟩:=h;exact⟨j,_,rfl,z,f,_,rfl,RI y,u⟩
theorem Zt:ay Tryz.prog G0 KY1:=ah aB0<|ah (ae λ(l,_)=>OI (Go.Eng.In.Qf l))<|ah (ae λ((A,j,f,z,u,y),c,_)=>OI (Go.Eng.In.Vu c.2 c.1 A j f z u y))<|ah (ae λ((A,j,f,z,u,y),c,_)=>OI (Go.Eng.In.gF c.2 c.1 A j f z u y))<|ah (ae λ(c,_)=>OI (Go.Eng.In.aCj c.2 c.1))<|ah (ae λ((A,j,f,z,u,y),(p1,p2,nx,L),G,_)=>(Top.aEH p1 p2 nx L (fU G) A j f z u y).args λ_ _ _ h=>RJ h)<|ah aCe<|ah (ae λ((A,j,f,z,u,y),(p1,p2,nx,L),G,_)=>(Z7 (fU G) p1 p2 nx L A j f z u y).args λ_ _ _ h=>RJ h)<|ah ZT<|ah (ae λ((A,j,f,z,u,y),G,_)=>(fT (fU G) A j f z u y).args λ_ _ _ h=>WL h)<|ah t_Cut<|ah aFk<|ah aB2 aBJ
theorem XH{n:Net}{nx:Lj}(h:Go.Eng.In.smF n nx=true):nK n=true:=by
 unfold Go.Eng.In.smF at h;simp only[qC]at h;have f:=Go.Eng.In.fL.1 h.1.1;unfold nK;rw[qC];exact⟨f.1,f.2.2.1⟩
theorem Yu{n:Net}{nx:Lj}{tz:Int}:∀(k:Nat) (o t:Int),(iV n nx tz k o t).1.length<=k+1
 |k,o,t=>by
  by_cases f:o=tz;rw[oI k f];simp;by_cases h:nxt nx o tz=-1;rw[iL k f h];simp;by_cases j:od n (nxt nx o tz) (aO n o t)=0;case neg=>rw[lJ k f h j];simp
  cases k with
  |zero=>rw[jf f h j];simp|succ k=>
   rw[je k f h j];have u:=Yu (n:=n) (nx:=nx) (tz:=tz) k (tH n (nxt nx o tz)) (mV n (nxt nx o tz) (aO n o t)+eJ n (nxt nx o tz));unfold BD;split;rw[qG,qX];omega;exact wE _
theorem aBN{n:Net}{nx:Lj}{o tz t:Int}:(xF n nx o tz t).length<=20:=by
 unfold xF;split;exact Yu 19 _ _;exact wE _
theorem aCd(ds:List oC)(p1 p2:Int)(nx:Lj)(dy:List (Lj))(L:LC)(u j:LB)(G:Lo)(y:Ll)(z:Lk):aj Tryz.prog G0 12 [net L u j G y z,.agg [.dat I p1,.dat I p2,.dat M nx,.dat (.sl M) dy],.dat (.sl Df) ds] [] ⟨XF nx ds,.dat .bool (Tv (L,u,j,G,y,z) nx ds),[]⟩:=by
 refine zE (A:=aE) (p:=let f:=(L,u,j,G,y,z);let c2:=JO f nx (fU ds);let c3:=Dz c2 (aZ f) false;let X:=Dz c3 (aCz f nx) false;(XF nx ds->True/\L5 c2 ((c2->nK f)/\(Dj true c2->c2)/\Q2 c3 ((c3->nK f/\jb nx)/\(Dj true c3->c3)/\Q2 X ((X->nj (fU ds))/\(Dj true X->X)/\Dz X (da f (fU ds)) false=Tv f nx ds/\True))))) Zt λhp=>?_;refine Z9 ?_;have hk:JO (L,u,j,G,y,z) nx (fU ds)=true->nK (L,u,j,G,y,z)=true:=λh=>by
  unfold JO at h;rw[qC]at h;exact XH h.1
 exact⟨hk,λh=>⟨hk h.1,hp.1⟩,λ_=>hp.2,rfl⟩
theorem aB8(f:Post)(st:List Stop)(lo:Bool)(si:Li)(la se:List ByteArray)(p1 p2:Int)(nx:Lj)(X:List (Lj))(L:LC)(u j:LB)(G:Lo)(y:Ll)(z:Lk):aj Tryz.prog G0 14 [net L u j G y z,.agg [.dat I p1,.dat I p2,.dat M nx,.dat (.sl M) X],.agg [.dat .str f.1,.dat I f.2.1,.dat I f.2.2.1,.dat I f.2.2.2.1,.dat I f.2.2.2.2,.dat (.sl Stp) st,.dat .bool lo,.dat R si,.dat (.sl S) la,.dat (.sl S) se]] [] ⟨SI (p1,p2,nx,X) (f,st,lo,si,la,se),.dat .bool (vL (L,u,j,G,y,z) (p1,p2,nx,X) (f,st,lo,si,la,se)),[]⟩:=by
 refine zE (A:=aE) (p:=let h:=f.2;let c5:=h.2.2;let c1:=(p1,p2,nx,X);let c2:=(st,lo,si,la,se);let c3:=(f,c2);let c4:=(L,u,j,G,y,z);let c11:=Ea (UY c4 c5.1 h.1 c5.2) 0;let A:=Di c11;let c15:=Dz c11 true (Ea (DK c4 X f) 0);let c16:=Di c15;let c17:=Dz c15 true (Ea (NA c4 nx h.1 h.2.1 c5.2) 0);let c18:=Di c17;let c19:=xF c4 nx h.1 h.2.1 c5.2;let c20:=Dh c19;let c21:=Dz c17 true (Ee c20 0);let c22:=Di c21;let c23:=1440*p1;let c24:=PO c4 c5.1 h.1 c5.2;let c25:=Dz c21 true (Dn c24 c23);let c26:=Di c25;let c27:=1440*p2;let c28:=Dz c25 true (Eb c24 c27);let c29:=vL c4 c1 c3;let c30:=c20-1;let c31:=Ea (Ko c4 c5.1 h.2.1 (Dw c19 (Dc c30) ((0:Int),(0:Int),(0:Int),(0:Int))).2.1) 0;let c32:=(f,c2);let c33:=IK c4 c32;(SI c1 c3->L4 1 0 1 1 0 1 1 0 1 (L7 1 0 (True/\L7 1 0 (fitsT X/\L4 1 1 0 1 1 0 1 1 0 (jb nx/\L5 A ((Dj true A->A)/\L5 c16 ((Dj true c16->c16)/\Q2 c18 ((Dj true c18->c18)/\Q2 c22 ((c22->inR .i64 c23)/\Q2 c22 ((Dj true c22->c22)/\Q2 c26 ((c26->inR .i64 c27)/\Q2 c26 ((Dj true c26->c26)/\(c28->true=c29/\True)/\(c28=false->w6 1 1 0 1 1 0 (inR .i64 c30/\0<=c30/\c30<c20/\True/\(c31->true=c29/\True)/\(c31=false->dvP st la/\Q2 c33 ((Dj true c33->c33)/\Dz c33 (Eh (dvD c4 c32) (PN c4 X f)) false=c29/\True))))))))))))))))) Zt λhp=>?_;refine Z9 ?_;obtain⟨⟨a0,a1,a2,a3⟩,hm',ht,hd⟩:=hp;simp only at a0 a1 a2 a3;have hwl:(xF (L,u,j,G,y,z) nx f.2.1 f.2.2.1 f.2.2.2.2).length<=20:=aBN;refine⟨ht,hm',λ_=>?_,λ_=>?_,λh=>?_,λ⟨⟨⟨⟨⟨g1,g2⟩,g3⟩,g4⟩,g5⟩,g6⟩=>?_⟩;unfold inR;simp only;omega
 unfold inR;simp only;omega;symm;unfold vL;rw[yO,yO];refine .inl (.inl ?_);unfold rW;simp only[zD,Bool.and_eq_false_imp,qC,qF,wJ,kC,and_imp];intro b1 b2 b3 b4 b5;rcases h with((((h|h)|h)|h)|h)|h;exact absurd b1 h;exact absurd b2 h;exact absurd b3 h;omega;omega;exact h;have el:ja (xF (L,u,j,G,y,z) nx f.2.1 f.2.2.1 f.2.2.2.2)=(xF (L,u,j,G,y,z) nx f.2.1 f.2.2.1 f.2.2.2.2).getD (((xF (L,u,j,G,y,z) nx f.2.1 f.2.2.1 f.2.2.2.2).length:Int)-1).toNat (0,0,0,0):=by
  unfold ja;rw[show((xF (L,u,j,G,y,z) nx f.2.1 f.2.2.1 f.2.2.2.2).length:Int)-1=(((xF (L,u,j,G,y,z) nx f.2.1 f.2.2.1 f.2.2.2.2).length-1:Nat):Int) by omega];rfl
 refine⟨by unfold inR;simp only;omega,Z,Z,λhD=>?_,λhD=>⟨hd,?_⟩⟩;have e:BZ (L,u,j,G,y,z) (p1,p2,nx,X) (f.1,f.2.1,f.2.2.1,f.2.2.2.1,f.2.2.2.2)=false:=by
  unfold BZ;show decide (Ko (L,u,j,G,y,z) f.2.2.2.1 f.2.2.1 (ja (xF (L,u,j,G,y,z) nx f.2.1 f.2.2.1 f.2.2.2.2)).2.1=0)=false;rw[el];exact qV hD
 unfold vL;rw[e];simp;have e1:rW (L,u,j,G,y,z) (p1,p2,nx,X) (f.1,f.2.1,f.2.2.1,f.2.2.2.1,f.2.2.2.2)=true:=by
  unfold rW;simp only[qC,qF,zD,wJ];exact⟨⟨⟨⟨⟨g1,g2⟩,g3⟩,Z⟩,g5⟩,g6⟩
 have e2:BZ (L,u,j,G,y,z) (p1,p2,nx,X) (f.1,f.2.1,f.2.2.1,f.2.2.2.1,f.2.2.2.2)=true:=by
  unfold BZ;show decide (Ko (L,u,j,G,y,z) f.2.2.2.1 f.2.2.1 (ja (xF (L,u,j,G,y,z) nx f.2.1 f.2.2.1 f.2.2.2.2)).2.1=0)=true;rw[el];exact qP hD
 unfold vL;show _=(!(rW (L,u,j,G,y,z) (p1,p2,nx,X) (f.1,f.2.1,f.2.2.1,f.2.2.2.1,f.2.2.2.2))||!(BZ (L,u,j,G,y,z) (p1,p2,nx,X) (f.1,f.2.1,f.2.2.1,f.2.2.2.1,f.2.2.2.2))||_);rw[e1,e2];rfl
end Go.Eng.Sv
namespace Go.Eng.Top
open Go.Proofs
open Go.Eng.Sv (Net Trk da wz dfD dA jK)
variable {n:Net} {nx:Lj} {ds:List cD} {t:Trk}
theorem gC(h:KR n nx ds=0):∃f,DG n nx ds=some f/\td n nx ds=f.map dP:=by
 unfold KR at h;unfold td;cases e:DG n nx ds with
 |none=>rw[e]at h;cases h
 |some f=>
  rw[e]at h;by_cases hb:O8 f=true;exact⟨f,rfl,if_pos hb⟩;have h:(if O8 f=true then(0:Int)else 2)=0:=h;rw[if_neg hb]at h;cases h
theorem VU:KR n nx ds=0\/KR n nx ds=2:=by
 unfold KR;cases DG n nx ds with
 |none=>exact .inr rfl|some its=>
  show(if O8 its=true then(0:Int)else 2)=0\/(if O8 its=true then(0:Int)else 2)=2;split;exact .inl rfl;exact .inr rfl
theorem QY:(td n nx ds).length<=120:=by
 unfold td;cases DG n nx ds with
 |none=>exact wE _|some its=>
  show(if O8 its=true then its.map dP else[]).length<=120;split;rename_i h;unfold O8 at h;rw[qC,qF]at h;rw[vT];exact h.1;exact wE _
theorem EN(f:t∈td n nx ds):trB t=true:=by
 unfold td at f;cases e:DG n nx ds with
 |none=>rw[e]at f;cases f
 |some its=>
  rw[e]at f;have f:t∈(if O8 its=true then its.map dP else[]):=f;split at f;rename_i h;unfold O8 at h;rw[qC,qU]at h;obtain⟨i,j,rfl⟩:=vU.1 f;exact h.2 i j;cases f
def dpO(x:Pst):cD:=(1,x.2.2.2.2,x,⟨#[]⟩,⟨#[]⟩,0)
theorem Px{x:Pst}(h:PW dA n.2.2.2.1.length n.2.2.2.2.2.length x):da n [dpO x]=true:=by
 obtain⟨A,z,y,u,j⟩:=h;unfold da;simp only[qC,qU,wG,qF];refine⟨⟨λk f=>?_,by simp⟩,by unfold Sv.pcF dpO;simp⟩;obtain rfl:k=0:=by simpa using f
 unfold wz;simp only[qC,yO,qF];exact⟨⟨z,.inl trivial⟩,(jK (e:=dpO x) rfl).2 ⟨A,rfl,y,u,j,rfl⟩⟩
theorem YG(hd:da n ds=true){its:List Itm}(f:DG n nx ds=some its):aBp dA n.2.2.2.1.length n.2.2.2.2.2.length its:=sI (Tj hd) f
theorem Yg(hd:da n ds=true)(f:t∈td n nx ds):da n [dpO t.1]=true:=by
 unfold td at f;cases e:DG n nx ds with
 |none=>rw[e]at f;cases f
 |some its=>
  rw[e]at f;have f:t∈(if O8 its=true then its.map dP else[]):=f;split at f;obtain⟨i,h,rfl⟩:=vU.1 f;exact Px ((YG hd e).2 _ (vU.2 ⟨i,h,rfl⟩));cases f
theorem Uz{x:Pst}(h:KR n nx [dpO x]=0):(td n nx [dpO x]).length=1:=by
 obtain⟨f,u,y⟩:=gC h;rw[y,vT];have A:uF (Sv.iu n nx) (sbD (Sv.iu n nx)) WX (qj (Sv.iu n nx) ([],[]) (dpO x))=some f:=u;have j:=BE A;rw[J7,if_pos (show(dpO x).1=1 from rfl)]at j;have z:=zX List.length j;rwa [show(PE f).length=f.length from vT _]at z
end Go.Eng.Top
