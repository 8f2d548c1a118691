/- PeToM PeToN PeToD PeToE PeToF PeToI PeToG PeToH PeToJ PeToK PeToW PeTpA PeTpB PeToR PeTpC PeToX PeToP PeToL PeToLu PeToS PeToQ PeToT PeToV PeToU PeToY PeToZ -/
import Derived.Test.YtecnnbcfgijddaaGreatDoorETBrkC
import Derived.Maps.AppendAt
import Derived.WalkKit
import Derived.Deep.Draws
import Derived.Maps.OwnIn
import Derived.Test.YtecnnbcfgijddaaGreatDoorProg
import Derived.WalkSpells
import Derived.StillTactics
import Derived.Laws.Pointers
import Derived.Deep.RegionHeld3
import Derived.Deep.DrawnRows
import Derived.BigQuiet
import Derived.Deep.QuietTactic
import Derived.BigRegion
import Derived.Maps.OwnOps
import Derived.KernelRfl
import Derived.StillTailTactics
import Derived.Lib.AppendZeros
import Derived.Maps.OwnSet
import Derived.RangeFuncNested
import Derived.RangeFuncBound
import Derived.RangeFuncCalls
import Derived.RangeFuncLeaves
import Derived.RangeFuncWrites
import Derived.Shelf.Abstract
import Derived.Shelf.RegionOpen
import Derived.OwnWalkIn
import Derived.TacticsInMore
import Derived.LoopNIn
import Derived.LoopIn
import Derived.Laws.EntriesVeiled
import Derived.OrdersHeld
import Derived.Laws.World
import Derived.Tactics
import Derived.Deep.CutRange
import Derived.Sort.LoopGhostIn
set_option linter.all false
namespace Go.Eng
open Go.RowKit
abbrev Tag:=Nat->Nat
structure Frm(tg:Tag)(O:Nat->Prop)(W W':World)(tg':Tag):Prop where
 chg:Chg (λb=>O (tg b)) W W'
 tag:∀b,b<W.heap.size->tg' b=tg b
 new:∀b,W'.heap.size<=b->tg' b=0
def Chg.sub{O O':Nat->Prop}{w j:World}(h:Chg O w j)(s:∀b,b<w.heap.size->O b->O' b):Chg O' w j:=⟨h.os,h.tape,h.output,h.size,λk u f=>h.block k u λg=>f (s k u g)⟩
def Chg.trans'{O:Nat->Prop}{a b c:World}(h:Chg O a b)(k:Chg (λi=>O i\/a.heap.size<=i) b c):Chg O a c:=
 h.step k.os k.tape k.output k.size λi j f=>k.block i (qK j h.size) λg=>g.elim f λg=>absurd j (Nat.not_lt.2 g)
variable {tg tg' tg'':Tag}{O O':Nat->Prop}{W W' W'':World}{R t E sz n:Nat}{v:Value}{xs:Lv}
def Frm.refl(h:∀b,W.heap.size<=b->tg b=0):Frm tg O W W tg:=⟨Chg.refl _ _,λ_ _=>rfl,h⟩
def Frm.trans(h:Frm tg O W W' tg')(k:Frm tg' O W' W'' tg''):Frm tg O W W'' tg'' :=
 ⟨h.chg.trans' (k.chg.sub λb f g=>(wW b W.heap.size).elim (λl=>.inl (by rw[<- h.tag b l];exact g)) .inr),λb f=>(k.tag b (qK f h.chg.size)).trans (h.tag b f),k.new⟩
def Frm.drewN(h:Frm tg O W W' tg')(m:Nat):Frm tg O W (W'.drewN m) tg':=⟨⟨h.chg.os,h.chg.tape,h.chg.output,h.chg.size,h.chg.block⟩,h.tag,h.new⟩
def Frm.sub(h:Frm tg O W W' tg')(s:∀t,O t->O' t):Frm tg O' W W' tg':=⟨h.chg.sub λ_ _ g=>s _ g,h.tag,h.new⟩
def Frm.below(f:∀b,W.heap.size<=b->tg b=0)(h:Below W.heap.size W W'):Frm tg O W W' tg:=⟨(Chg.refl _ _).below h,λ_ _=>rfl,λb j=>f b (vP h.size j)⟩
def Frm.alloc(f:∀b,W.heap.size<=b->tg b=0)(o:Obj):Frm tg O W (W.alloc o) tg:=Frm.below f ((Below.refl _ W).alloc (qL _) o)
def Frm.set(h:∀b,W.heap.size<=b->tg b=0){a:Addr}(y:O (tg a.block))(u:Value):Frm tg O W (W.setCell a u) tg:=
 ⟨⟨rfl,rfl,rfl,by simp[World.setCell],λk _ f=>Below.heap_setCell _ _ _ _ λe=>f (by rw[e];exact y)⟩,λ_ _=>rfl,λb j=>h b (by simpa[World.setCell]using j)⟩
def I4(tg:Tag)(b t:Nat):Tag:=λx=>if x=b then t else tg x
def Frm.make(f:∀b,W.heap.size<=b->tg b=0)(o:Obj)(t:Nat):Frm tg O W (W.alloc o) (I4 tg W.heap.size t):=
 ⟨(Frm.alloc f o).chg,λb h=>if_neg Z,λb h=>by rw[qH]at h;unfold I4;rw[if_neg Z];exact f b Z⟩
def Frm.lo(h:Frm tg O W W' tg'){b:Nat}(j:b<W.heap.size)(f:¬O (tg b)):W'.heap[b]?=W.heap[b]?:=h.chg.block b j f
def Lt{f:Nat}(h:W.ownsRow f E sz v n xs)(u:∀b,v.ownBlock=some b->W'.heap[b]?=W.heap[b]?):W'.ownsRow f E sz v n xs:=by
 refine⟨h.1,?_⟩;rcases h.2 with g|⟨g,cap,j,rfl,A,z,y⟩;exact .inl g;exact .inr ⟨g,cap,j,rfl,A,(u g rfl).trans z,y⟩
structure eU(W:World)(R:Nat)(tg:Tag)(t E sz:Nat)(v:Value)(n:Nat)(xs:Lv):Prop where
 own:W.ownsRow R E sz v n xs
 tag:∀b,v.ownBlock=some b->tg b=t
def eU.fr(h:eU W R tg t E sz v n xs)(f:Frm tg O W W' tg')(u:¬O t):eU W' R tg' t E sz v n xs:=
 ⟨Lt h.own λb j=>f.lo (h.own.lt b j).2 (by rw[h.tag b j];exact u),λb j=>(f.tag b (h.own.lt b j).2).trans (h.tag b j)⟩
def eU.nil:eU W R tg t E sz (.slice none 0 0) 0 []:=⟨qBm _ _ _ _,λb f=>by cases f⟩
def eU.sl(h:eU W R tg t E sz v n xs):∃a c,v=.slice a n c:=by
 rcases h.own.2 with⟨rfl,rfl⟩|⟨g,cap,_,rfl,_⟩;exact⟨_,_,rfl⟩;exact⟨_,_,rfl⟩
def eU.pos(h:eU W R tg t E sz v n xs)(z:0<n):∃g f,v=.slice (some ⟨g,0,none⟩) n f/\R<=g/\g<W.heap.size/\tg g=t/\n<=f:=by
 rcases h.own.2 with⟨rfl,rfl⟩|⟨g,f,_,rfl,y,u,j,_⟩;omega;exact⟨_,_,rfl,y,(qJ.1 u).1,h.tag g rfl,j⟩
def iX{P:Program}{T ty:TypeId}{i:TypeInfo}{z:Value}{G:Nat}{w w':World}{X:Nat}{v':Value}(ht:P.underlying T=some (.slice E))(hi:P.info? E=some i)(hz:i.zero=some z)(hsize:i.size=sz)(hby:i.bytes=G)(h:w.ownsRow X E sz v n xs)
  (a:Addr) (m c:Nat) (f:Lv) (hl:f.length=m*sz) (A:∀j u,f[j]?=some u->w.cell? (a.add j)=some u) (h1:∀u∈f,u.oneCell'=true) (hb:n+m<=1000000) (hb2:(n+m)*G<=140737488355328)
  (hr:(Builtin.append_ #[T,T] ty #[v,.slice (some a) m c]).run P w=.ok v' w'):w'.ownsRow X E sz v n xs:=by
 subst hsize;rcases h.2 with⟨rfl,rfl⟩|⟨g,cap,L,rfl,hbg,hg,hnc,hcm,hcs,htk⟩;exact⟨h.1,.inl ⟨rfl,rfl⟩⟩;by_cases y:n+m<=cap;have hfit:n*i.size+f.length<=L.size:=by rw[hl,hcs,<- zT];exact wM _ y
 have hr2:=run_append_room (P:=P) w T ty E i ht hi g n cap L hg a m c f hl A h1 y hfit;rw[hr2]at hr;cases hr;refine⟨h.1,.inr ⟨g,cap,_,rfl,hbg,qCe w g L _ E _ hg,hnc,hcm,?_,?_⟩⟩;simp only[xB,qG,qO,vZ,vI];omega;have:(L.toList.take (n*i.size)).length=n*i.size:=by rw[qO,vI];omega
 rw[zJ,yO Z,qM Z];exact htk;have holds:∀j u,xs[j]?=some u->w.cell? ((⟨g,0,none⟩:Addr).add j)=some u:=h.cells (g:=g) rfl;have hr2:=run_append_grow (P:=P) w T ty E i z ht hi hz ⟨g,0,none⟩ n cap xs h.1 holds a m c f hl A Z Z (growslice_fits Z (by rw[hby];exact hb2));rw[hr2]at hr;cases hr;exact Lt h λb hb=>by cases hb;exact(World.grownBy_alloc w.drew _ none).block g (qJ.1 hg).1 (by simp)
def eU.app{P:Program}{T ty:TypeId}{i:TypeInfo}{z:Value}{f:Nat}(ht:P.underlying T=some (.slice E))(hi:P.info? E=some i)(hz:i.zero=some z)(A:i.size=sz)(hby:i.bytes=f)(hzs:z.cells.size=sz)(hsz:0<sz)
  (hn:∀b,W.heap.size<=b->tg b=0) (h:eU W R tg t E sz v n xs) (a:Addr) (m c:Nat) (y:Lv) (hl:y.length=m*sz) (G:∀j u,y[j]?=some u->W.cell? (a.add j)=some u) (h1:∀u∈y,u.oneCell'=true)
  (L:n+m<=1000000) (hb2:f<=1000) (hR:R<=W.heap.size):
  ∃X W' tg',(Builtin.append_ #[T,T] ty #[v,.slice (some a) m c]).run P W=.ok X W'/\eU W' R tg' t E sz X (n+m) (xs++y)/\eU W' R tg' t E sz v n xs/\Frm tg (·=t) W W' tg'/\(0<m->∃g cap,X=.slice (some ⟨g,0,none⟩) (n+m) cap):=by
 have hx:n+m<=maxLen:=by unfold maxLen;omega
 have hby2:(n+m)*f<=140737488355328:=by
  have:(n+m)*f<=1000000*1000:=Nat.mul_le_mul L hb2;omega
 obtain⟨X,W',hr,h2,h3,h4,h5⟩:=run_append_own_at (P:=P) W R T ty E i z sz f ht hi hz A hby hzs hsz v n xs h.own a m c y hl G h1 hx hby2 hR;have lt:=h2.lt;have old:∀b,b<W.heap.size->X.ownBlock=some b->tg b=t:=λb L e=>by
  rcases h5 with h5|h5;exact h.tag b (h5▸e);rw[h5]at e;cases e;omega
 refine⟨X,W',λb=>if X.ownBlock=some b then t else tg b,hr,⟨h2,λb L=>if_pos L⟩,⟨iX ht hi hz A hby h.own a m c y hl G h1 L hby2 hr,λb L=>by
  by_cases e:X.ownBlock=some b;exact if_pos e;exact(if_neg e).trans (h.tag b L)⟩,⟨⟨h3.os,h3.tape,h3.output,h3.size,λk hk hno=>h3.block k hk λe=>hno (h.tag k e.symm)⟩,λb L=>?_,λb L=>?_⟩,λhm=>?_⟩
 by_cases e:X.ownBlock=some b;rw[if_pos e,old b L e];rw[if_neg e];rw[if_neg λe=>by have:=(lt b e).2;omega];exact hn b (vP h3.size L);rcases h2.2 with⟨rfl,h0⟩|⟨g,cap,_,rfl,_⟩;omega;exact⟨_,_,rfl⟩
variable {b c:Nat}
def eU.cell(h:eU W R tg t E sz (.slice (some ⟨b,0,none⟩) n c) n xs){j:Nat}{u:Value}(y:xs[j]?=some u):W.cell? ⟨b,j,none⟩=some u:=by
 have f:j<n*sz:=by rw[<- h.own.1];exact(qC.1 y).1
 rw[h.own.cellAt j f];exact y
def eU.free(h:eU W R tg t E sz (.slice (some ⟨b,0,none⟩) n c) n xs)(j:Nat):W.frozen? ⟨b,j,none⟩=false:=h.own.frozenAt j
def eU.set(G:∀b,W.heap.size<=b->tg b=0)(h:eU W R tg t E sz (.slice (some ⟨b,0,none⟩) n c) n xs)(j:Nat)(u:Value):eU (W.setCell ⟨b,j,none⟩ u) R tg t E sz (.slice (some ⟨b,0,none⟩) n c) n (xs.set j u)/\Frm tg (·=t) W (W.setCell ⟨b,j,none⟩ u) tg:=by
 refine⟨⟨?_,h.tag⟩,Frm.set G (h.tag b rfl) u⟩;obtain⟨h1,h2|⟨g,cap,y,e,L,X,f,hm,A,z⟩⟩:=h.own;cases h2.1;cases e;refine⟨by rw[zX];exact h1,.inr ⟨b,c,y.setIfInBounds j u,rfl,L,heap_setCell_same W b j y E u X,f,hm,by simpa using A,?_⟩⟩;rw[Array.toList_setIfInBounds,List.take_set,z]
end Go.Eng
namespace Go.Eng.Top
open Go.Proofs Go.RowKit
abbrev Pst:=ByteArray×Int×Int×Int×Int
structure Raw where
 po:Pst
 st:List (Int×Int×Int×Int)
 lo:Bool
 si:Li
 la:List ByteArray
 se:List ByteArray
 hd:Int
 ln:Int
 lv:Int
structure Gh where
 b:Nat
 st:Value
 si:Value
 la:Value
 se:Value
def kO(s:Int×Int×Int×Int):Lv:=[.int .i64 s.1,.int .i64 s.2.1,.int .i64 s.2.2.1,.int .i64 s.2.2.2]
def qq(g:Gh)(r:Raw):Array Value:=#[.string r.po.1,.int .i64 r.po.2.1,.int .i64 r.po.2.2.1,.int .i64 r.po.2.2.2.1,.int .i64 r.po.2.2.2.2,g.st,.bool r.lo,g.si,g.la,g.se,.int .i64 r.hd,.int .i64 r.ln,.int .i64 r.lv]
structure jF(W:World)(R:Nat)(tg:Tag)(k:Nat)(g:Gh)(r:Raw):Prop where
 cel:W.heap[g.b]?=some (.cells (qq g r) 108 (0,0))
 bR:R<=g.b
 tb:tg g.b=5*k+5
 st:eU W R tg (5*k+6) 61 4 g.st r.st.length (r.st.flatMap kO)
 si:eU W R tg (5*k+7) 3 1 g.si r.si.length (r.si.map (Value.int .i64))
 la:eU W R tg (5*k+8) 9 1 g.la r.la.length (r.la.map Value.string)
 se:eU W R tg (5*k+9) 9 1 g.se r.se.length (r.se.map Value.string)
def itT(k:Nat)(t:Nat):Prop:=5*k+5<=t/\t<5*k+10
variable {tg tg':Tag}{O:Nat->Prop}{W W':World}{R k:Nat}{g g':Gh}{r r':Raw}
def jF.fr(h:jF W R tg k g r)(f:Frm tg O W W' tg')(j:∀t,itT k t->¬O t):jF W' R tg' k g r:=by
 have u:=(qJ.1 h.cel).1;refine⟨(f.lo u (by rw[h.tb];exact j _ ⟨Z,Z⟩)).trans h.cel,h.bR,(f.tag _ u).trans h.tb,h.st.fr f (j _ ⟨Z,Z⟩),h.si.fr f (j _ ⟨Z,Z⟩),h.la.fr f (j _ ⟨Z,Z⟩),h.se.fr f (j _ ⟨Z,Z⟩)⟩
structure HC where
 hb:Nat
 nb:Nat
 cb:Nat
 n0:Value
 n1:Value
 n2:Value
 n3:Value
 n4:Value
 n5:Value
 nx:Value
def mN(c:HC)(iv:Value):Array Value:=#[c.n0,c.n1,c.n2,c.n3,c.n4,c.n5,c.nx,iv,.map (some c.nb),.map (some c.cb)]
def aDJ(v:Value):Option (DataW Unit×List MemPlace):=match v with|.pointer (some ⟨b,0,none⟩)=>some (.lit (.int .i64 b),[])|.pointer none=>some (.lit (.int .i64 (-1)),[])|_=>none
def aAc(s:ByteArray):Lit:=.string s.data.toList
structure Hist(W:World)(R:Nat)(tg:Tag)(c:HC)(rs:List Raw)(cc:Li)(gs:List Gh)(iv:Value):Prop where
 new:∀b,W.heap.size<=b->tg b=0
 low:∀b,b<R->tg b=0
 RW:R<=W.heap.size
 hc:W.heap[c.hb]?=some (.cells (mN c iv) 101 (0,0))
 th:tg c.hb=1
 tn:tg c.nb=2
 tc:tg c.cb=3
 rows:eU W R tg 4 106 1 iv gs.length (gs.map λg=>Value.pointer (some ⟨g.b,0,none⟩))
 len:gs.length=rs.length
 it:∀(k:Nat) (g:Gh) (r:Raw),gs[k]?=some g->rs[k]?=some r->jF W R tg k g r
 nm:∃D:DataW Unit,W.ownsMap Tryz.prog 9 aDJ c.nb rs.length D/\Maps.IsMap D/\∀(k:Nat) (g:Gh) (r:Raw),gs[k]?=some g->rs[k]?=some r->D.atKey (aAc r.po.1) (.lit (.int .i64 (-1)))=.lit (.int .i64 g.b)
 ca:∃(D:DataW Unit),W.ownsMap Tryz.prog 3 (plainElem Tryz.prog 4) c.cb cc.length D/\Maps.IsMap D/\∀l:Int,D.atKey (.int .i64 l) (.lit (.bool false))=.lit (.bool (decide (l∈cc)))
def dw{D:DataW Unit}{K:Nat}{u:Value->Option (DataW Unit×List MemPlace)}{b n:Nat}(h:W.ownsMap Tryz.prog K u b n D)(e:W'.heap[b]?=W.heap[b]?):W'.ownsMap Tryz.prog K u b n D:=by
 obtain⟨es,f,y,j⟩:=h;exact⟨es,f,e.trans y,j⟩
variable {c:HC}{rs:List Raw}{cc:Li}{gs:List Gh}{iv:Value}
def Hist.lt(h:Hist W R tg c rs cc gs iv):c.hb<W.heap.size/\c.nb<W.heap.size/\c.cb<W.heap.size:=by
 obtain⟨_,j,_⟩:=h.nm;obtain⟨_,f,_⟩:=h.ca;exact⟨(qJ.1 h.hc).1,j.lt,f.lt⟩
def Hist.fr(h:Hist W R tg c rs cc gs iv)(f:Frm tg O W W' tg')(j:∀t,0<t->¬O t):Hist W' R tg' c rs cc gs iv:=by
 obtain⟨l1,l2,z⟩:=h.lt;have RW:=h.RW;refine⟨f.new,λb X=>(f.tag b Z).trans (h.low b X),vP h.RW f.chg.size,(f.lo l1 (by rw[h.th];exact j _ Z)).trans h.hc,(f.tag _ l1).trans h.th,(f.tag _ l2).trans h.tn,(f.tag _ z).trans h.tc,h.rows.fr f (j _ Z),h.len,
  λk g r L G=>(h.it k g r L G).fr f λt A=>j t (by have:=A.1;omega),?_,?_⟩
 obtain⟨D,y,u⟩:=h.nm;exact⟨D,dw y (f.lo l2 (by rw[h.tn];exact j _ Z)),u⟩;obtain⟨D,y,u⟩:=h.ca;exact⟨D,dw y (f.lo z (by rw[h.tc];exact j _ Z)),u⟩
def EX{α:Type}{l:List α}{k j:Nat}{x y:α}(h:(l.set k x)[j]?=some y):(j=k/\y=x)\/(j≠k/\l[j]?=some y):=by
 rw[vS]at h;by_cases e:k=j;rw[if_pos e]at h;split at h;cases h;exact .inl ⟨e.symm,rfl⟩;cases h;rw[if_neg e]at h;exact .inr ⟨λg=>e g.symm,h⟩
def Hist.item(h:Hist W R tg c rs cc gs iv)(hg:gs[k]?=some g)(hr:rs[k]?=some r)(f:Frm tg (itT k) W W' tg')(hi:jF W' R tg' k g' r')(G:g'.b=g.b)(u:r'.po=r.po):Hist W' R tg' c (rs.set k r') cc (gs.set k g') iv:=by
 obtain⟨l1,l2,l3⟩:=h.lt;have RW:=h.RW;have A:∀t,t<5->¬itT k t:=λt L g=>by have:=g.1;omega
 have X:∀(j:Nat) (q:Raw),(rs.set k r')[j]?=some q->∃y:Raw,rs[j]?=some y/\q.po=y.po:=λj q e=>by
  rcases EX e with⟨rfl,rfl⟩|⟨_,e⟩;exact⟨r,hr,u⟩;exact⟨q,e,rfl⟩
 have hb':∀(j:Nat) (q:Gh),(gs.set k g')[j]?=some q->∃y:Gh,gs[j]?=some y/\q.b=y.b:=λj q e=>by
  rcases EX e with⟨rfl,rfl⟩|⟨_,e⟩;exact⟨g,hg,G⟩;exact⟨q,e,rfl⟩
 refine⟨f.new,λb G=>(f.tag b Z).trans (h.low b G),vP h.RW f.chg.size,(f.lo l1 (by rw[h.th];exact A _ Z)).trans h.hc,(f.tag _ l1).trans h.th,(f.tag _ l2).trans h.tn,(f.tag _ l3).trans h.tc,?_,by simpa using h.len,λj q p z u=>?_,?_,?_⟩;have:=h.rows.fr f (A _ Z);have e:((gs.set k g').map λg=>Value.pointer (some ⟨g.b,0,none⟩))=gs.map λg=>Value.pointer (some ⟨g.b,0,none⟩):=by
  rw[List.map_set,G];apply wQ;intro j;rw[vS];by_cases e:k=j;subst e;rw[if_pos rfl,qQ,hg];have:=(qC.1 hg).1;rw[if_pos (by simpa using this)];rfl;rw[if_neg e]
 rw[zX,e];exact this;rcases EX z with⟨rfl,rfl⟩|⟨n1,z⟩;rcases EX u with⟨_,rfl⟩|⟨n2,_⟩;exact hi;exact absurd rfl n2;rcases EX u with⟨n2,rfl⟩|⟨_,u⟩;exact absurd n2 n1;exact(h.it j q p z u).fr f λt L g=>by have:=L.1;have:=L.2;have:=g.1;have:=g.2;omega
 obtain⟨D,h1,h2,h3⟩:=h.nm;refine⟨D,?_,h2,λj q p z u=>?_⟩;rw[zX];exact dw h1 (f.lo l2 (by rw[h.tn];exact A _ Z));obtain⟨y,e1,e2⟩:=hb' j q z;obtain⟨p',e3,e4⟩:=X j p u;rw[e2,e4];exact h3 j y p' e1 e3;obtain⟨D,h1,h2⟩:=h.ca;exact⟨D,dw h1 (f.lo l3 (by rw[h.tc];exact A _ Z)),h2⟩
def Hist.get(h:Hist W R tg c rs cc gs iv)(j:rs[k]?=some r):∃g,gs[k]?=some g/\jF W R tg k g r:=by
 have f:=(qC.1 j).1;have:k<gs.length:=by rw[h.len];exact f
 exact⟨gs[k],qB this,h.it k _ r (qB this) j⟩
def jF.lt(h:jF W R tg k g r):g.b<W.heap.size:=(qJ.1 h.cel).1
def jF.cell(h:jF W R tg k g r){j:Nat}{u:Value}(e:(qq g r)[j]?=some u):W.cell? ⟨g.b,j,none⟩=some u:=by simp[World.cell?,h.cel,e]
def jF.free(h:jF W R tg k g r)(j:Nat):W.frozen? ⟨g.b,j,none⟩=false:=by simp[World.frozen?,h.cel]
def Hist.cell(h:Hist W R tg c rs cc gs iv){j:Nat}{u:Value}(e:(mN c iv)[j]?=some u):W.cell? ⟨c.hb,j,none⟩=some u:=by simp[World.cell?,h.hc,e]
def Hist.free(h:Hist W R tg c rs cc gs iv)(j:Nat):W.frozen? ⟨c.hb,j,none⟩=false:=by simp[World.frozen?,h.hc]
def jF.scal(j:∀b,W.heap.size<=b->tg b=0)(h:jF W R tg k g r){o:Nat}{u:Value}(e:(qq g r).setIfInBounds o u=qq g r')(G:r'.st=r.st)(A:r'.si=r.si)(z:r'.la=r.la)(y:r'.se=r.se):
  jF (W.setCell ⟨g.b,o,none⟩ u) R tg k g r'/\Frm tg (itT k) W (W.setCell ⟨g.b,o,none⟩ u) tg:=by
 have f:Frm tg (·=5*k+5) W (W.setCell ⟨g.b,o,none⟩ u) tg:=Frm.set j h.tb u;refine⟨⟨?_,h.bR,h.tb,?_,?_,?_,?_⟩,f.sub λt e=>by rw[e];exact⟨Z,Z⟩⟩;rw[<- e];exact heap_setCell_same W g.b o _ _ u h.cel;rw[G];exact h.st.fr f Z;rw[A];exact h.si.fr f Z;rw[z];exact h.la.fr f Z;rw[y];exact h.se.fr f Z
def jF.row{u:World}{j:Tag}{T:Nat}(ht:T=5*k+6\/T=5*k+7\/T=5*k+8\/T=5*k+9)(h:jF W R tg k g r)(f:Frm tg (·=T) W u j){o:Nat}{v:Value}(X:g'.b=g.b)(e:(qq g r).setIfInBounds o v=qq g' r')
  (y:(T=5*k+6/\eU u R j T 61 4 g'.st r'.st.length (r'.st.flatMap kO))\/(T≠5*k+6/\g'.st=g.st/\r'.st=r.st))
  (h2:(T=5*k+7/\eU u R j T 3 1 g'.si r'.si.length (r'.si.map (Value.int .i64)))\/(T≠5*k+7/\g'.si=g.si/\r'.si=r.si))
  (h3:(T=5*k+8/\eU u R j T 9 1 g'.la r'.la.length (r'.la.map Value.string))\/(T≠5*k+8/\g'.la=g.la/\r'.la=r.la))
  (h4:(T=5*k+9/\eU u R j T 9 1 g'.se r'.se.length (r'.se.map Value.string))\/(T≠5*k+9/\g'.se=g.se/\r'.se=r.se)):
  jF (u.setCell ⟨g.b,o,none⟩ v) R j k g' r'/\Frm tg (itT k) W (u.setCell ⟨g.b,o,none⟩ v) j:=by
 have hT:itT k T:=⟨Z,Z⟩;have L:j g.b=5*k+5:=(f.tag _ h.lt).trans h.tb;have z:Frm j (·=5*k+5) u (u.setCell ⟨g.b,o,none⟩ v) j:=Frm.set f.new L v;have c1:u.heap[g.b]?=some (.cells (qq g r) 108 (0,0)):=(f.lo h.lt (by rw[h.tb];omega)).trans h.cel;refine⟨⟨?_,by rw[X];exact h.bR,by rw[X];exact L,?_,?_,?_,?_⟩,(f.sub λt e=>by rw[e];exact hT).trans (z.sub λt e=>by rw[e];exact⟨Z,Z⟩)⟩;rw[X,<- e];exact heap_setCell_same u g.b o _ _ v c1;rcases y with⟨e,y⟩|⟨e,G,A⟩;rw[<- e];exact y.fr z Z;rw[G,A];exact(h.st.fr f Z).fr z Z;rcases h2 with⟨e,y⟩|⟨e,G,A⟩;rw[<- e];exact y.fr z Z;rw[G,A];exact(h.si.fr f Z).fr z Z;rcases h3 with⟨e,y⟩|⟨e,G,A⟩;rw[<- e];exact y.fr z Z;rw[G,A];exact(h.la.fr f Z).fr z Z;rcases h4 with⟨e,y⟩|⟨e,G,A⟩;rw[<- e];exact y.fr z Z;rw[G,A];exact(h.se.fr f Z).fr z Z
set_option maxRecDepth 100000
def info3:Tryz.prog.info? 3=some ((Tryz.prog.info? 3).getD default):=by kernel_rfl
def info9:Tryz.prog.info? 9=some ((Tryz.prog.info? 9).getD default):=by kernel_rfl
def aCH:Tryz.prog.info? 61=some ((Tryz.prog.info? 61).getD default):=by kernel_rfl
def one_cell{b:Nat}{u:Value}{el:Nat}(h:W.heap[b]?=some (.cells #[u] el (0,0))):∀(j:Nat) x,[u][j]?=some x->W.cell? ((⟨b,0,none⟩:Addr).add j)=some x:=λj x f=>by
 cases j with
 |zero=>cases f;simp[Addr.add,World.cell?,h]
 |succ j=>cases f
def Hist.appS(H:Hist W R tg c rs cc gs iv)(hg:gs[k]?=some g)(X:rs[k]?=some r)(hl:r.si.length<100000){b0:Nat}{t:Int}(hb:W.heap[b0]?=some (.cells #[.int .i64 t] 3 (0,0))):
  ∃b z G f,(Builtin.append_ #[30,30] 30 #[g.si,.slice (some ⟨b0,0,none⟩) 1 1]).run Tryz.prog W=.ok (.slice (some ⟨b,0,none⟩) (r.si.length+1) z) G/\Hist G R f c rs cc gs iv/\
   eU G R f (5*k+7) 3 1 (.slice (some ⟨b,0,none⟩) (r.si.length+1) z) (r.si.length+1) ((r.si++[t]).map (Value.int .i64))/\Frm tg (·=5*k+7) W G f:=by
 have y:=H.it k g r hg X;have RW:=H.RW;obtain⟨v',G,f,hap,hv,ho,A,h2⟩:=eU.app (P:=Tryz.prog) (T:=30) (ty:=30) Tryz.underlying30 info3 rfl rfl rfl rfl (by decide) H.new y.si ⟨b0,0,none⟩ 1 1 [.int .i64 t] rfl (one_cell hb) (λu hu=>by simp at hu;subst hu;rfl) Z (by decide) RW;obtain⟨b,z,rfl⟩:=h2 (by decide);have hI':jF G R f k g r:=by
  have L:=(qJ.1 y.cel).1;exact⟨(A.lo L (by rw[y.tb];omega)).trans y.cel,y.bR,(A.tag _ L).trans y.tb,y.st.fr A Z,ho,y.la.fr A Z,y.se.fr A Z⟩
 have H':=H.item hg X (A.sub λt h=>by rw[h];exact⟨Z,Z⟩) hI' rfl rfl;refine⟨b,z,G,f,hap,?_,by rw[zS];exact hv,A⟩;have e1:rs.set k r=rs:=by
  apply wQ;intro j;rw[vS];by_cases e:k=j;subst e;rw[if_pos rfl,X,if_pos (qC.1 X).1];rw[if_neg e]
 have e2:gs.set k g=gs:=by
  apply wQ;intro j;rw[vS];by_cases e:k=j;subst e;rw[if_pos rfl,hg,if_pos (qC.1 hg).1];rw[if_neg e]
 rw[e1,e2]at H';exact H'
end Go.Eng.Top
namespace Go.Eng.Top
open Go.Proofs Go.RowKit
variable {tg tg':Tag} {O:Nat->Prop} {W W':World} {R k:Nat} {g g':Gh} {r r':Raw}
set_option maxRecDepth 100000 in
def xu(h:jF W R tg k g r){ls:List ByteArray}{lb:ByteArray}(A:r.la=ls++[lb])(hn:ls.length<100000):
  Calls Tryz.prog 161 #[.pointer (some ⟨g.b,0,none⟩)] W λe L=>e=.returned (.string lb)/\∃m,L=W.drewN m:=by
 have f:r.la.length=ls.length+1:=by rw[A];simp
 obtain⟨b,X,z,_⟩:=h.la.pos Z;have G:=h.cell (j:=8) (u:=g.la) rfl;have y:=h.la;rw[z]at G y;rw[f]at G;have cl:W.cell? ⟨b,ls.length,none⟩=some (.string lb):=y.cell (by rw[A];simp);clear y z f h
 go_enter Tryz.func161,Tryz.ntmps161
 go_wp2
 go_quiet (fail)
 go_wp2
 go_ret
 exact⟨rfl,_,rfl⟩
set_option maxRecDepth 100000 in
def Nq(h:jF W R tg k g r){ss:List (Int×Int×Int×Int)}{s:Int×Int×Int×Int}(G:r.st=ss++[s])(X:ss.length<100000):
  Calls Tryz.prog 108 #[.pointer (some ⟨g.b,0,none⟩)] W λe A=>(∃b y,g.st=.slice (some ⟨b,0,none⟩) (ss.length+1) y/\e=.returned (.pointer (some ⟨b,ss.length*4,none⟩)))/\∃m,A=W.drewN m:=by
 have f:r.st.length=ss.length+1:=by rw[G];simp
 obtain⟨b,y,z,_⟩:=h.st.pos Z;have L:=h.cell (j:=5) (u:=g.st) rfl;rw[z,f]at L;rw[f]at z;clear f h
 go_enter Tryz.func108,Tryz.ntmps108
 go_wp2
 go_quiet (fail)
 go_wp2
 go_ret
 exact⟨⟨b,y,z,rfl⟩,_,rfl⟩
end Go.Eng.Top
namespace Go.Eng.Top
open Go.Proofs Go.RowKit
structure Dat where
 N:Nat
 nx:Int->Int->Int
 ps:Int->Int
 mn:Int->Int
 lto:Int->Int
 ltr:Int->Int
 dE:Int->Int->Int
 dD:Int->Int->Int
 lin:Int->Prop
 ia:Int->ByteArray
structure Env(w0:World)(R:Nat)(c:HC)(d:Dat):Prop where
 nxt:∀o t:Nat,o<d.N->t<d.N->∃(b f n cap b' f' m cap':Nat),c.nx=.slice (some ⟨b,f,none⟩) n cap/\(o:Int)<n/\b<R/\w0.cell? ⟨b,f+o,none⟩=some (.slice (some ⟨b',f',none⟩) m cap')/\(t:Int)<m/\b'<R/\w0.cell? ⟨b',f'+t,none⟩=some (.int .i64 (d.nx o t))
 off:∀o:Nat,o<d.N->∃(b f n cap:Nat) (u0:ByteArray) (u1 u2 u3:Int) (u6:Option Addr) (u7 u8:Nat),c.n3=.slice (some ⟨b,f,none⟩) n cap/\(o:Int)<n/\b<R/\(w0.cell? ⟨b,f+o*7,none⟩=some (.string u0)/\w0.cell? ⟨b,f+o*7+1,none⟩=some (.int .i64 u1)/\w0.cell? ⟨b,f+o*7+2,none⟩=some (.int .i64 u2)/\
  w0.cell? ⟨b,f+o*7+3,none⟩=some (.int .i64 u3)/\w0.cell? ⟨b,f+o*7+4,none⟩=some (.int .i64 (d.ps o))/\w0.cell? ⟨b,f+o*7+5,none⟩=some (.int .i64 (d.mn o))/\w0.cell? ⟨b,f+o*7+6,none⟩=some (.slice u6 u7 u8))
 offb:∀o:Nat,o<d.N->0<=d.ps o/\d.ps o<=100/\0<=d.mn o/\d.mn o<=100000
 nxb:∀o t:Nat,o<d.N->t<d.N->(Lit.int .i64 (d.nx o t)).wf=true/\(0<=d.nx o t->d.lin (d.nx o t))
 dep:∀(W:World) (l t:Int),Below R w0 W->d.lin l->0<=t->t<=100000000->Calls Tryz.prog 160 #[.agg #[c.n0,c.n1,c.n2,c.n3,c.n4,c.n5],.int .i64 l,.int .i64 t] W λe w'=>e=.returned (.tuple #[.int .i64 (d.dD l t),.int .i64 (d.dE l t)])/\Below W.heap.size W w'
 lns:∀l:Nat,d.lin l->∃(b f n cap:Nat) (u0:ByteArray) (u1 u3 u5:Int),c.n4=.slice (some ⟨b,f,none⟩) n cap/\(l:Int)<n/\b<R/\(w0.cell? ⟨b,f+l*6,none⟩=some (.string u0)/\w0.cell? ⟨b,f+l*6+1,none⟩=some (.int .i64 u1)/\w0.cell? ⟨b,f+l*6+2,none⟩=some (.int .i64 (d.lto l))/\
  w0.cell? ⟨b,f+l*6+3,none⟩=some (.int .i64 u3)/\w0.cell? ⟨b,f+l*6+4,none⟩=some (.int .i64 (d.ltr l))/\w0.cell? ⟨b,f+l*6+5,none⟩=some (.int .i64 u5))
 lnb:∀l:Int,d.lin l->0<=l/\l<=100000/\0<=d.lto l/\d.lto l<d.N/\0<=d.ltr l/\d.ltr l<=100000
 ita:∀(W:World) (n:Int),Below R w0 W->0<=n->n<=100000000->Calls Tryz.prog 57 #[.int .i64 n] W λe w'=>e=.returned (.string (d.ia n))/\Below W.heap.size W w'
 iab:∀n:Int,(d.ia n).size<=100
 depb:∀l t:Int,d.lin l->0<=t->d.dE l t=0->t<=d.dD l t/\d.dD l t<=2200000
def Bt(d:Dat)(l:Int):Nat->Int->Int->Bool×Int|0,lv,_=>(true,lv)|k+1,lv,t=>if d.dE l t=0 then Bt d l k (d.dD l t) (d.dD l t+1)else(false,lv)
def TA(d : Dat)(cc : Li)(off arr sn to : Int)(r : Raw):Raw :=
  if r.lo = true ∨ off = to then { r with ln := -1 }
  else if d.nx off to < 0 ∨ d.nx off to ∈ cc then { r with ln := -1 }
  else { r with ln := if (Bt d (d.nx off to) (r.hd + 1).toNat r.lv (max (arr + d.ps off * d.mn off) sn)).1 = true then d.nx off to else -1,
                lv := (Bt d (d.nx off to) (r.hd + 1).toNat r.lv (max (arr + d.ps off * d.mn off) sn)).2 }
variable {tg tg':Tag} {Op:Nat->Prop} {w0 W W':World} {R k:Nat} {g g':Gh} {r r':Raw} {c:HC} {d:Dat} {rs:List Raw} {cc:Li} {gs:List Gh} {iv:Value}
def Hist.alloc(h:Hist W R tg c rs cc gs iv)(o:Obj):Hist (W.alloc o) R tg c rs cc gs iv:=h.fr (Frm.alloc (O:=λ_=>False) h.new o) λ_ _ h=>h
def KX{α:Type}{l:List α}{k:Nat}{x:α}(h:l[k]?=some x):l.set k x=l:=by
 apply wQ;intro j;rw[vS];by_cases e:k=j;subst e;rw[if_pos rfl,h,if_pos (qC.1 h).1];rw[if_neg e]
def Hist.itemS(h:Hist W R tg c rs cc gs iv)(j:gs[k]?=some g)(u:rs[k]?=some r)(f:Frm tg (itT k) W W' tg')(z:jF W' R tg' k g r')(y:r'.po=r.po):Hist W' R tg' c (rs.set k r') cc gs iv:=by
 have:=h.item j u f z rfl y;rw[KX j]at this;exact this
def jF.drewN(h:jF W R tg k g r)(m:Nat):jF (W.drewN m) R tg k g r:=⟨h.cel,h.bR,h.tb,⟨h.st.own,h.st.tag⟩,⟨h.si.own,h.si.tag⟩,⟨h.la.own,h.la.tag⟩,⟨h.se.own,h.se.tag⟩⟩
def Hist.drewN(h:Hist W R tg c rs cc gs iv)(m:Nat):Hist (W.drewN m) R tg c rs cc gs iv:=
 ⟨h.new,h.low,h.RW,h.hc,h.th,h.tn,h.tc,⟨h.rows.own,h.rows.tag⟩,h.len,λk g r j f=>(h.it k g r j f).drewN m,h.nm,h.ca⟩
def VS{v:Value}{b:Nat}{ps:List MemPlace}(h:aDJ v=some (.lit (.int .i64 (b:Int)),ps)):v=.pointer (some ⟨b,0,none⟩):=by
 unfold aDJ at h;split at h;simp only[vT,kL,DataW.lit.injEq,Lit.int.injEq,yE]at h;have:_=b:=Int.ofNat.inj h.1;rw[this];simp only[vT,kL,DataW.lit.injEq,Lit.int.injEq,yE]at h;omega;cases h
def Ik{P:Program}{e:TypeId}(j:P.underlying e=some .bool){v:Value}{x:Bool}{ps:List MemPlace}(h:plainElem (H:=Unit) P e v=some (.lit (.bool x),ps)):v=.bool x:=by
 unfold plainElem at h;rw[j]at h;split at h;simp only[vT,kL,DataW.lit.injEq,Lit.bool.injEq]at h;rw[h.1];rename_i f;cases f;rename_i f;cases f;cases h
def Hist.look(h:Hist W R tg c rs cc gs iv)(y:gs[k]?=some g)(u:rs[k]?=some r)(j:r.po.1.size<=maxLen):(Instr.lookup 97 (.map (some c.nb)) (.string r.po.1) false).run Tryz.prog W=.ok (.pointer (some ⟨g.b,0,none⟩)) W:=by
 obtain⟨D,G,_,A⟩:=h.nm;obtain⟨v,L,e,f⟩:=G.lookup (Maps.string_keyed Tryz.underlying9) Tryz.underlying97 (e:=106) (z:=.pointer none) (zd:=.lit (.int .i64 (-1))) (zp:=[]) (Tryz.zeroValue106 _) rfl (key:=.string r.po.1) (WideMaps.keyOf_string_mk Tryz.underlying9 j);rw[show D.atKey (Lit.string r.po.1.data.toList) (.lit (.int .i64 (-1)))=.lit (.int .i64 g.b)from A k g r y u]at f;rw[e,VS f]
def Hist.lookc(h:Hist W R tg c rs cc gs iv){l:Int}(j:(Lit.int .i64 l).wf=true):(Instr.lookup 98 (.map (some c.cb)) (.int .i64 l) false).run Tryz.prog W=.ok (.bool (decide (l∈cc))) W:=by
 obtain⟨D,y,_,u⟩:=h.ca;obtain⟨v,A,e,f⟩:=y.lookup (Maps.int_keyed Tryz.underlying3) Tryz.underlying98 (e:=4) (z:=.bool false) (zd:=.lit (.bool false)) (zp:=[]) (Tryz.zeroValue4 _) (plainElem_bool Tryz.underlying4 _) (key:=.int .i64 l) (Maps.keyOf_int_mk Tryz.underlying3 j);rw[u l]at f;rw[e,Ik Tryz.underlying4 f]
def EK(ss:List (Int×Int×Int×Int)):(ss.flatMap kO).length=ss.length*4:=by
 induction ss with
 |nil=>rfl|cons s ss f=>rw[kT,qG,f,wR];show 4+_=_;omega
def ff{t b n f:Nat}{l ss:List (Int×Int×Int×Int)}{s:Int×Int×Int×Int}(h:eU W R tg t 61 4 (.slice (some ⟨b,0,none⟩) n f) l.length (l.flatMap kO))(j:l=ss++[s]){i:Nat}{u:Value}(y:(kO s)[i]?=some u):W.cell? ⟨b,ss.length*4+i,none⟩=some u:=by
 obtain⟨_,_,e,_⟩:=h.pos (by rw[j];simp);cases e;refine h.cell ?_;rw[j,kX,qV (by rw[EK];omega),EK,kT,qCv,wH];rw[show ss.length*4+i-ss.length*4=i by omega];exact y
def cT(h:∀b,b<R->tg b=0)(z:R<=W.heap.size)(u:Below R w0 W)(f:Frm tg Op W W' tg')(y:¬Op 0):Below R w0 W' :=
 u.trans ⟨f.chg.os,f.chg.tape,f.chg.output,f.chg.size,λb j=>f.lo Z (by rw[h b j];exact y)⟩
set_option maxRecDepth 100000 in
set_option maxHeartbeats 4000000 in
def aCf{r:Raw}{f:List Raw}{k:Nat}(x:Raw)(z:x.po=r.po)(y:f[k]?=some r){j:Nat}{u:Raw}(h:f[j]?=some u):∃q,(f.set k x)[j]?=some q/\q.po=u.po:=by
 rw[vS];by_cases e:k=j;subst e;rw[if_pos rfl,if_pos (qC.1 h).1];cases y.symm.trans h;exact⟨x,rfl,z⟩;rw[if_neg e];exact⟨u,h,rfl⟩
set_option maxRecDepth 100000 in
set_option maxHeartbeats 4000000 in
def XU(E:Env w0 R c d)(H:Hist W R tg c rs cc gs iv)(hB:Below R w0 W)(hg:gs[k]?=some g)(hr:rs[k]?=some r)
  {ss:List (Int×Int×Int×Int)} {O T:Nat} {arr d1 l1:Int} (hst:r.st=ss++[((O:Int),arr,d1,l1)]) (hss:ss.length<1000)
  {ls:List ByteArray} {lb:ByteArray} (hla:r.la=ls++[lb]) (hls:ls.length<1000)
  {sl:Li} {sn:Int} (hsi:r.si=sl++[sn]) (hsl:sl.length<1000)
  {j:Nat} {rj:Raw} {gj:Gh} (hgj:gs[j]?=some gj) (hrj:rs[j]?=some rj) (hlb:rj.po.1=lb)
  (hz:lb.size<=1000) (ho:O<d.N) (hT:rj.po.2.2.1=T) (ht:T<d.N) (ha:0<=arr/\arr<=3000000) (hs:0<=sn/\sn<=3000000) (hh:0<=r.hd/\r.hd<=1000):
  Calls Tryz.prog 109 #[.pointer (some ⟨c.hb,0,none⟩),.pointer (some ⟨g.b,0,none⟩)] W λe y=>e=.returned (.tuple #[])/\
   Frm tg (itT k) W y tg/\Hist y R tg c (rs.set k (TA d cc O arr sn T r)) cc gs iv:=by
 have hI:=H.it k g r hg hr;have c11:=hI.cell (j:=11) (u:=.int .i64 r.ln) rfl;have f11:=hI.free 11;obtain⟨hI1,hF1⟩:=hI.scal (r':={r with ln:=-1}) H.new (o:=11) (u:=.int .i64 (-1)) rfl rfl rfl rfl rfl;obtain⟨W1,hW1⟩:∃W1,W.setCell ⟨g.b,11,none⟩ (.int .i64 (-1))=W1:=⟨_,rfl⟩;rw[hW1]at hI1 hF1;have H1:=H.itemS hg hr hF1 hI1 rfl;have hlast:=Nq hI1 (ss:=ss) (s:=((O:Int),arr,d1,l1)) hst Z
 go_enter Tryz.func109,Tryz.ntmps109
 go_wp2_with (first
  | (go_at_call 108;refine hlast.mono ?_;rintro e y ⟨⟨b,cap,hb,rfl⟩,m,rfl⟩))
 generalize hW2:W1.drewN m=W2;have hI2:jF W2 R tg k g {r with ln:=-1}:=hW2▸hI1.drewN m;have H2:Hist W2 R tg c (rs.set k {r with ln:=-1}) cc gs iv:=hW2▸H1.drewN m;obtain⟨rj',hrj',hpj⟩:=aCf (r:=r) {r with ln:=-1} rfl hr hrj;have hlk:∀m,(Instr.lookup 97 (.map (some c.nb)) (.string lb) false).run Tryz.prog (W2.drewN m)=.ok (.pointer (some ⟨gj.b,0,none⟩)) (W2.drewN m):=λm=>by
  have:=(H2.drewN m).look hgj hrj' (by rw[hpj,hlb];unfold maxLen;omega);rw[hpj,hlb]at this;exact this
 have h8:W2.cell? ⟨c.hb,8,none⟩=some (.map (some c.nb)):=H2.cell (j:=8) rfl;have cto:W2.cell? ⟨gj.b,2,none⟩=some (.int .i64 T):=by rw[<- hT,<- hpj];exact(H2.it j gj rj' hgj hrj').cell (j:=2) rfl
 have i6:W2.cell? ⟨g.b,6,none⟩=some (.bool r.lo):=hI2.cell (j:=6) rfl;have s0:W2.cell? ⟨b,ss.length*4,none⟩=some (.int .i64 O):=ff (hb▸hI2.st) hst (i:=0) rfl;have hcar:∀n,Calls Tryz.prog 161 #[.pointer (some ⟨g.b,0,none⟩)] (W2.drewN n) λe y=>e=.returned (.string lb)/\∃q,y=(W2.drewN n).drewN q:=λn=>xu (hI2.drewN n) hla Z
 go_quiet (first | (go_at_call 161;exact Calls.quiet_of (hcar _)))
 generalize hW3:W2.drewN nq=W3;have hI3:jF W3 R tg k g {r with ln:=-1}:=hW3▸hI2.drewN nq;have H3:Hist W3 R tg c (rs.set k {r with ln:=-1}) cc gs iv:=hW3▸H2.drewN nq;have F3:Frm tg (itT k) W W3 tg:=hF1.trans (hW3▸hW2▸((Frm.refl H1.new).drewN m).drewN nq);clear hlk h8 cto i6 s0 hcar;have i6:W3.cell? ⟨g.b,6,none⟩=some (.bool r.lo):=hI3.cell (j:=6) rfl
 have s0:W3.cell? ⟨b,ss.length*4,none⟩=some (.int .i64 O):=ff (hb▸hI3.st) hst (i:=0) rfl;by_cases hlo:r.lo=true
 .go_wp2
  refine bodyPost_ret (results_none rfl _ _ _) rfl ⟨rfl,F3,?_⟩;unfold TA;rw[if_pos (.inl hlo)];exact H3
 have hlo':r.lo=false:=by simpa using hlo
 by_cases X:(O:Int)=T
 .have hot':((O:Int)==(T:Int))=true:=by simpa using X
  go_wp2
  refine bodyPost_ret (results_none rfl _ _ _) rfl ⟨rfl,F3,?_⟩;unfold TA;rw[if_pos (.inr X)];exact H3
 have hot':((O:Int)==(T:Int))=false:=by simpa using X
 go_wp2
 obtain⟨bn,fn,nn,cn,br,fr,nr,cr,e6,on,bnR,cn1,tn,brR,cn2⟩:=E.nxt O T ho ht;have B3:Below R w0 W3:=cT H.low H.RW hB F3 (λh=>by have:=h.1;omega);have h6:W3.cell? ⟨c.hb,6,none⟩=some (.slice (some ⟨bn,fn,none⟩) nn cn):=e6▸H3.cell (j:=6) rfl;have cn1':W3.cell? ⟨bn,fn+O,none⟩=some (.slice (some ⟨br,fr,none⟩) nr cr):=(B3.cell (p:=⟨bn,fn+O,none⟩) bnR).trans cn1
 have cn2':W3.cell? ⟨br,fr+T,none⟩=some (.int .i64 (d.nx O T)):=(B3.cell (p:=⟨br,fr+T,none⟩) brR).trans cn2;have O0:(0:Int)<=O:=Z;have T0:(0:Int)<=T:=Z
 go_quiet (fail)
 generalize hW4:W3.drewN nq=W4;have hI4:jF W4 R tg k g {r with ln:=-1}:=hW4▸hI3.drewN nq;have H4:Hist W4 R tg c (rs.set k {r with ln:=-1}) cc gs iv:=hW4▸H3.drewN nq;have F4:Frm tg (itT k) W W4 tg:=hW4▸F3.drewN nq;have B4:Below R w0 W4:=cT H.low H.RW hB F4 (λh=>by have:=h.1;omega);clear h6 cn1' cn2' i6 s0;obtain⟨nw,nl⟩:=E.nxb O T ho ht
 have h9:W4.cell? ⟨c.hb,9,none⟩=some (.map (some c.cb)):=H4.cell (j:=9) rfl;have hlk:=H4.lookc nw;generalize hL:d.nx O T=L at *;by_cases hL0:L<0
 .go_wp2
  refine bodyPost_ret (results_none rfl _ _ _) rfl ⟨rfl,F4,?_⟩;unfold TA;rw[if_neg (by simp[hlo,X]),if_pos (.inl (by rw[hL];exact hL0))];exact H4
 by_cases hLc:L∈cc
 .have hd:decide (L∈cc)=true:=by simpa using hLc
  rw[hd]at hlk;have hL0':decide (L<0)=false:=by simpa using hL0
  go_wp2
  refine bodyPost_ret (results_none rfl _ _ _) rfl ⟨rfl,F4,?_⟩;unfold TA;rw[if_neg (by simp[hlo,X]),if_pos (.inr (by rw[hL];exact hLc))];exact H4
 have hd:decide (L∈cc)=false:=by simpa using hLc
 rw[hd]at hlk;have hL0':decide (L<0)=false:=by simpa using hL0
 go_wp2
 clear h9 hlk;obtain⟨z,G,no,co,u0,u1,u2,u3,u6,u7,u8,e3,oo,boR,q0,q1,q2,q3,q4,q5,q6⟩:=E.off O ho;have h3:W4.cell? ⟨c.hb,3,none⟩=some (.slice (some ⟨z,G,none⟩) no co):=e3▸H4.cell (j:=3) rfl;have s0:W4.cell? ⟨b,ss.length*4,none⟩=some (.int .i64 O):=ff (hb▸hI4.st) hst (i:=0) rfl;have p0:=(B4.cell (p:=⟨z,G+O*7,none⟩) boR).trans q0;have p1:=(B4.cell (p:=⟨z,G+O*7+1,none⟩) boR).trans q1
 have p2:=(B4.cell (p:=⟨z,G+O*7+2,none⟩) boR).trans q2;have p3:=(B4.cell (p:=⟨z,G+O*7+3,none⟩) boR).trans q3;have p4:=(B4.cell (p:=⟨z,G+O*7+4,none⟩) boR).trans q4;have p5:=(B4.cell (p:=⟨z,G+O*7+5,none⟩) boR).trans q5;have p6:=(B4.cell (p:=⟨z,G+O*7+6,none⟩) boR).trans q6;have ne1:W4.heap.size≠c.hb:=by have:=H4.lt.1;omega
 have ne2:W4.heap.size≠b:=by have:=(hI4.st.own.lt b (by rw[hb];rfl)).2;omega
 have ne3:W4.heap.size≠z:=by have:=H4.RW;omega
 generalize hPs:d.ps O=ps at *;generalize hMn:d.mn O=mn at *
 go_region_held3 (λy=>y.cell? ⟨c.hb,3,none⟩=some (.slice (some ⟨z,G,none⟩) no co)/\y.cell? ⟨b,ss.length*4,none⟩=some (.int .i64 O)/\y.cell? ⟨z,G+O*7,none⟩=some (.string u0)/\y.cell? ⟨z,G+O*7+1,none⟩=some (.int .i64 u1)/\
  y.cell? ⟨z,G+O*7+2,none⟩=some (.int .i64 u2)/\y.cell? ⟨z,G+O*7+3,none⟩=some (.int .i64 u3)/\y.cell? ⟨z,G+O*7+4,none⟩=some (.int .i64 ps)/\y.cell? ⟨z,G+O*7+5,none⟩=some (.int .i64 mn)/\y.cell? ⟨z,G+O*7+6,none⟩=some (.slice u6 u7 u8)) (go_keep) (fail)
 obtain⟨W5,hW5⟩:∃W5,(W4.alloc (.cells #[.string u0,.int .i64 u1,.int .i64 u2,.int .i64 u3,.int .i64 ps,.int .i64 mn,.slice u6 u7 u8] 137)).drew=W5:=⟨_,rfl⟩;have H5:Hist W5 R tg c (rs.set k {r with ln:=-1}) cc gs iv:=hW5▸(H4.alloc _).drewN 1;have F5:Frm tg (itT k) W W5 tg:=hW5▸(F4.trans (Frm.alloc H4.new _)).drewN 1
 have b5:W5.heap[W4.heap.size]?=some (.cells #[.string u0,.int .i64 u1,.int .i64 u2,.int .i64 u3,.int .i64 ps,.int .i64 mn,.slice u6 u7 u8] 137 (0,0)):=by rw[<- hW5];exact World.alloc_heap_new W4 _
 rw[hW5];generalize W4.heap.size=B5 at b5 ⊢;clear hW5 h3 s0 p0 p1 p2 p3 p4 p5 p6 q0 q1 q2 q3 q4 q5 q6 ne1 ne2 ne3 e3;have c4:W5.cell? ⟨B5,4,none⟩=some (.int .i64 ps):=by simp[World.cell?,b5]
 have c5:W5.cell? ⟨B5,5,none⟩=some (.int .i64 mn):=by simp[World.cell?,b5]
 clear b5;have hI5:jF W5 R tg k g {r with ln:=-1}:=H5.it k g _ hg (by rw[vS,if_pos rfl,if_pos (qC.1 hr).1]);have s1:W5.cell? ⟨b,ss.length*4+1,none⟩=some (.int .i64 arr):=ff (hb▸hI5.st) hst (i:=1) rfl;obtain⟨bs,cs,hsv,_⟩:=hI5.si.pos (by simp[hsi]);have i7:W5.cell? ⟨g.b,7,none⟩=some (.slice (some ⟨bs,0,none⟩) (sl.length+1) cs):=by
  have:=hI5.cell (j:=7) (u:=g.si) rfl;rw[hsv]at this;simpa[hsi]using this
 have sc:W5.cell? ⟨bs,sl.length,none⟩=some (.int .i64 sn):=(hsv▸hI5.si).cell (by simp[hsi]);have hpm:0<=ps*mn/\ps*mn<=10000000:=by
  obtain⟨g1,g2,g3,g4⟩:=E.offb O ho;rw[hPs]at g1 g2;rw[hMn]at g3 g4;exact⟨qAc g1 g3,qAd g2 g4 g3 (by decide)⟩
 go_wp2
 go_quiet (fail)
 generalize hW6:W5.drewN nq=W6;have H6:Hist W6 R tg c (rs.set k {r with ln:=-1}) cc gs iv:=hW6▸H5.drewN nq;have F6:Frm tg (itT k) W W6 tg:=hW6▸F5.drewN nq;clear c4 c5 s1 i7 sc;have eT:(if arr+ps*mn<sn then sn else arr+ps*mn)=max (arr+d.ps O*d.mn O) sn:=by rw[hPs,hMn];omega
 have t0b:0<=max (arr+d.ps O*d.mn O) sn/\max (arr+d.ps O*d.mn O) sn<=20000000:=by rw[hPs,hMn];omega
 rw[eT];generalize hT0:max (arr+d.ps O*d.mn O) sn=t0 at t0b ⊢;clear eT;have hk':(rs.set k {r with ln:=-1})[k]?=some {r with ln:=-1}:=by rw[vS,if_pos rfl,if_pos (qC.1 hr).1]
 have i10:W6.cell? ⟨g.b,10,none⟩=some (.int .i64 r.hd):=(H6.it k g _ hg hk').cell (j:=10) rfl;obtain⟨M,hM⟩:∃M:Nat,r.hd=M:=⟨r.hd.toNat,Z⟩;rw[hM]at i10
 go_wp2
 go_loopw [105,8] (λi u wr=>∃(q:Nat) (t lv:Int),q<=M+1/\i=.int .i64 q/\u=.int .i64 t/\(0<=t/\t<=20000000)/\Bt d L (M+1) r.lv t0=Bt d L (M+1-q) lv t/\Frm tg (itT k) W wr tg/\Hist wr R tg c (rs.set k {r with ln:=-1,lv:=lv}) cc gs iv)
  (λi _ _=>M+1-(intOf i).toNat)
 case atStart=>exact⟨0,t0,r.lv,wK _,rfl,rfl,t0b,rfl,F6,H6⟩
 case round=>
  obtain⟨q,t,lv,hq,rfl,rfl,tb,htr,Fr,A⟩:=hrel;by_cases hlt:q<M+1
  .have Br:Below R w0 wr:=cT H.low H.RW hB Fr (λh=>by have:=h.1;omega);have hd:=E.dep wr L t Br (nl Z) tb.1 Z;have c0:wr.cell? ⟨c.hb,0,none⟩=some c.n0:=A.cell (j:=0) rfl;have c1:wr.cell? ⟨c.hb,1,none⟩=some c.n1:=A.cell (j:=1) rfl;have c2:wr.cell? ⟨c.hb,2,none⟩=some c.n2:=A.cell (j:=2) rfl;have c3:wr.cell? ⟨c.hb,3,none⟩=some c.n3:=A.cell (j:=3) rfl
   have c4:wr.cell? ⟨c.hb,4,none⟩=some c.n4:=A.cell (j:=4) rfl;have c5:wr.cell? ⟨c.hb,5,none⟩=some c.n5:=A.cell (j:=5) rfl;have hst1:Bt d L (M+1-q) lv t=if d.dE L t=0 then Bt d L (M+1-(q+1)) (d.dD L t) (d.dD L t+1)else(false,lv):=by
    rw[show M+1-q=(M+1-(q+1))+1 by omega];rfl
   have f:(rs.set k {r with ln:=-1,lv:=lv})[k]?=some {r with ln:=-1,lv:=lv}:=by rw[vS,if_pos rfl,if_pos (qC.1 hr).1]
   have eres:TA d cc O arr sn T r={r with ln:=if(Bt d L (M+1) r.lv t0).1=true then L else -1,lv:=(Bt d L (M+1) r.lv t0).2}:=by
    unfold TA;rw[if_neg (by simp[hlo,X]),if_neg (by rw[hL];simp[hLc];omega),hL,hT0,hM,show((M:Int)+1).toNat=M+1 by omega]
   by_cases he:d.dE L t=0
   .rw[he]at hd;rw[if_pos he]at hst1;obtain⟨g1,g2⟩:=E.depb L t (nl Z) tb.1 he
    go_wp2_with (first
     | (go_at_call 160;refine hd.mono ?_;rintro e y ⟨rfl,hb6⟩;have H7:=A.fr (Frm.below (O:=λ_=>False) A.new hb6) (λ_ _ h=>h);have y12:y.cell? ⟨g.b,12,none⟩=some (.int .i64 lv):=(H7.it k g _ hg f).cell (j:=12) rfl;have z12:=(H7.it k g _ hg f).free 12))
    go_roundw
    case rel=>
     obtain⟨hI8,F8⟩:=(H7.it k g _ hg f).scal (r':={r with ln:=-1,lv:=d.dD L t}) H7.new (o:=12) (u:=.int .i64 (d.dD L t)) rfl rfl rfl rfl rfl;have H8:=H7.itemS hg f F8 hI8 rfl;rw[List.set_set]at H8;exact⟨q+1,d.dD L t+1,d.dD L t,Z,by simp,by simp,Z,by rw[htr,hst1],(Fr.trans (Frm.below A.new hb6)).trans F8,H8⟩
    case measure=>simp[intOf];omega
   .have hne:(d.dE L t != 0)=true:=by simpa using he
    rw[if_neg he]at hst1
    go_wp2_with (first
     | (go_at_call 160;refine hd.mono ?_;rintro e y ⟨rfl,hb6⟩;have H7:=A.fr (Frm.below (O:=λ_=>False) A.new hb6) (λ_ _ h=>h)))
    refine bodyPost_ret (results_none rfl _ _ _) rfl ⟨rfl,Fr.trans (Frm.below A.new hb6),?_⟩;rw[eres,htr,hst1];exact H7
  .obtain rfl:q=M+1:=by omega
   have f:(rs.set k {r with ln:=-1,lv:=lv})[k]?=some {r with ln:=-1,lv:=lv}:=by rw[vS,if_pos rfl,if_pos (qC.1 hr).1]
   have y11:wr.cell? ⟨g.b,11,none⟩=some (.int .i64 (-1)):=(A.it k g _ hg f).cell (j:=11) rfl;have z11:=(A.it k g _ hg f).free 11;have eres:TA d cc O arr sn T r={r with ln:=if(Bt d L (M+1) r.lv t0).1=true then L else -1,lv:=(Bt d L (M+1) r.lv t0).2}:=by
    unfold TA;rw[if_neg (by simp[hlo,X]),if_neg (by rw[hL];simp[hLc];omega),hL,hT0,hM,show((M:Int)+1).toNat=M+1 by omega]
   go_wp2
   obtain⟨hI8,F8⟩:=(A.it k g _ hg f).scal (r':={r with ln:=L,lv:=lv}) A.new (o:=11) (u:=.int .i64 L) rfl rfl rfl rfl rfl;have H8:=A.itemS hg f F8 hI8 rfl;rw[List.set_set]at H8
   go_end0
   refine⟨rfl,Fr.trans F8,?_⟩;rw[eres,htr,qAg];exact H8
end Go.Eng.Top
namespace Go.Eng.Top
open Go.Proofs Go.RowKit
structure Itm where
 post:Pst
 done:List (Int×Int×Int×Int)
 off:Int
 arr:Int
 lost:Bool
 sL:Li
 sn:Int
 bL:List ByteArray
 lb:ByteArray
 seals:List ByteArray
 holds:Int
 line:Int
 leave:Int
abbrev bZ:=Int×Int×Pst×ByteArray×ByteArray×Int
abbrev Hst:=List Itm×Li
def Itm.stops(i:Itm):List (Int×Int×Int×Int):=i.done++[(i.off,i.arr,-1,-1)]
def Itm.raw(i:Itm):Raw:=⟨i.post,i.stops,i.lost,i.sL++[i.sn],i.bL++[i.lb],i.seals,i.holds,i.line,i.leave⟩
section
variable (d:Dat) (cc:Li) (sb:Int->Int->ByteArray)
def jj(to : Int)(i : Itm):Itm :=
  if i.lost = true ∨ i.off = to then { i with line := -1 }
  else if d.nx i.off to < 0 ∨ d.nx i.off to ∈ cc then { i with line := -1 }
  else { i with line := if (Bt d (d.nx i.off to) (i.holds + 1).toNat i.leave (max (i.arr + d.ps i.off * d.mn i.off) i.sn)).1 = true then d.nx i.off to else -1,
                leave := (Bt d (d.nx i.off to) (i.holds + 1).toNat i.leave (max (i.arr + d.ps i.off * d.mn i.off) i.sn)).2 }
def tR(to:Int)(i:Itm):Itm:=
 jj d cc to {i with done:=i.done++[(i.off,i.arr,i.leave,i.line)],off:=d.lto i.line,arr:=i.leave+d.ltr i.line,seals:=i.seals++[sb i.line i.leave],holds:=0}
def FY(to T:Int):Nat->Itm->Option Itm|0,_=>none|k+1,i=>if 0<=i.line/\i.leave<T then if 19<=i.done.length then none else FY to T k (tR d cc sb to i)else some i
def OC(its:List Itm)(lb:ByteArray):Nat:=its.findIdx λi=>decide (i.post.1=lb)
def iy(its:List Itm)(lb:ByteArray):Int:=((its.find? λi=>decide (i.post.1=lb)).map λi=>i.post.2.2.1).getD 0
def iw(x:Pst):Itm:=⟨x,[],x.2.1,x.2.2.2.2,false,[],x.2.2.2.2,[],x.1,[],0,0,0⟩
def KE(its:List Itm)(lb:ByteArray)(f:Itm->Itm):List Itm:=match its[OC its lb]? with|some i=>its.set (OC its lb) (f i)|none=>its
def DT(T:Int)(s:Hst):Option (List Itm):=s.1.mapM λi=>FY d s.2 sb (iy s.1 i.lb) T 21 i
def rz(i:Itm):Itm:=
 if i.line<0 then {i with holds:=i.holds+1}
 else if d.dE i.line (i.leave+1)=0 then {i with holds:=i.holds+1,leave:=d.dD i.line (i.leave+1)} else {i with holds:=i.holds+1,line:=-1}
def G9(i:Itm)(lb:ByteArray)(t:Int):Itm:={i with sL:=i.sL++[i.sn],sn:=t,bL:=i.bL++[i.lb],lb:=lb}
def I8(its:List Itm)(a b:ByteArray)(t:Int):List Itm:=match its[OC its a]?,its[OC its b]? with
 |some i,some j=>if i.off≠j.off\/t<i.arr\/t<j.arr then its
   else(its.set (OC its a) (jj d cc (iy its j.lb) (G9 i j.lb t))).set (OC its b) (jj d cc (iy its i.lb) (G9 j i.lb t))
 |_,_=>its
end
section
variable (d:Dat) (sb:Int->Int->ByteArray)
def rK(s:Hst)(e:bZ):Hst:=
 if e.1=1 then(s.1++[jj d s.2 (iy (s.1++[iw e.2.2.1]) e.2.2.1.1) (iw e.2.2.1)],s.2)
 else if e.1=2 then(KE s.1 e.2.2.2.1 λi=>jj d s.2 (iy s.1 i.lb) {i with lost:=true},s.2)
 else if e.1=3 then(KE s.1 e.2.2.2.1 (rz d),s.2)
 else if e.1=4 then(I8 d s.2 s.1 e.2.2.2.1 e.2.2.2.2.1 e.2.1,s.2)
 else(s.1.map λi=>if i.line=e.2.2.2.2.2 then {i with line:=-1} else i,s.2++[e.2.2.2.2.2])
def stepD(s:Hst)(e:bZ):Option Hst:=(DT d sb e.2.1 s).map λf=>rK d (f,s.2) e
def FC:List bZ->Hst->Option Hst|[],s=>some s|e::es,s=>(stepD d sb s e).bind (FC es)
def sI:Int:=9223372036854775807
def Jf(es:List bZ):Option (List Itm):=(FC d sb es ([],[])).bind λs=>DT d sb sI s
end
theorem aAE{d : Dat}{cc : Li}{to : Int}(i : Itm):(jj d cc to i).raw = TA d cc i.off i.arr i.sn to i.raw := by
  unfold jj TA;have e : i.raw.lo = i.lost := rfl;rw [e];split
  · rfl
  · split
    · rfl
    · rfl
structure OkI(d:Dat)(m:Nat)(its:List Itm)(i:Itm):Prop where
 off:0<=i.off/\i.off<d.N
 arr:0<=i.arr/\i.arr<=2300000
 sn:0<=i.sn/\i.sn<=1000000
 hd:0<=i.holds/\i.holds<=m
 dl:i.done.length<=19
 sl:i.sL.length<=m
 bl:i.bL.length<=m
 el:i.seals.length<=i.done.length
 to:∃j∈its,j.post.1=i.lb
 po:0<=i.post.2.2.1/\i.post.2.2.1<d.N
 lz:i.post.1.size<=1000
structure OkL(d:Dat)(i:Itm):Prop where
 ln:i.line<0\/d.lin i.line
 lv:0<=i.leave/\i.leave<=2200000
 lw:-1<=i.line
def Bv{its:List Itm}{lb:ByteArray}(h:∃j∈its,j.post.1=lb):∃(k:Nat) (j:Itm),its[k]?=some j/\j.post.1=lb/\iy its lb=j.post.2.2.1:=by
 unfold iy;cases e:its.find? λi=>decide (i.post.1=lb)with
 |none=>
  obtain⟨j,y,f⟩:=h;have:=qCi.1 e j y;simp[f]at this
 |some j=>
  obtain⟨k,u⟩:=List.getElem?_of_mem (List.mem_of_find?_eq_some e);have z:=qBc e;exact⟨k,j,u,by simpa using z,rfl⟩
end Go.Eng.Top
namespace Go.Eng.Top
open Go.Proofs Go.RowKit
variable {tg tg':Tag} {Op:Nat->Prop} {w0 W W':World} {R k m:Nat} {g g':Gh} {r r':Raw} {c:HC} {d:Dat} {its:List Itm} {i:Itm} {cc:Li} {gs:List Gh} {iv:Value}
def aQ(h:its[k]?=some i):(its.map Itm.raw)[k]?=some i.raw:=by rw[qQ,h];rfl
def mf(i:Itm):(its.map Itm.raw).set k i.raw=(its.set k i).map Itm.raw:=by rw[List.map_set]
def aC7(E:Env w0 R c d)(H:Hist W R tg c (its.map Itm.raw) cc gs iv)(hB:Below R w0 W)(hg:gs[k]?=some g)(hi:its[k]?=some i)(f:OkI d m its i)(hm:m<=900)(L:∀j∈its,j.post.1.size<=1000/\0<=j.post.2.2.1/\j.post.2.2.1<d.N):
  Calls Tryz.prog 109 #[.pointer (some ⟨c.hb,0,none⟩),.pointer (some ⟨g.b,0,none⟩)] W λe y=>e=.returned (.tuple #[])/\
   Frm tg (itT k) W y tg/\Hist y R tg c ((its.set k (jj d cc (iy its i.lb) i)).map Itm.raw) cc gs iv:=by
 obtain⟨j,q,h,z,X⟩:=Bv f.to;have hq:=L q (qZ h);obtain⟨gj,u,_⟩:=H.get (aQ h);obtain⟨O,G⟩:∃O:Nat,i.off=O:=⟨i.off.toNat,by have:=f.off;omega⟩;obtain⟨T,A⟩:∃T:Nat,q.post.2.2.1=T:=⟨q.post.2.2.1.toNat,Z⟩;have h1:=f.off;have h2:=f.arr;have h3:=f.sn;have h4:=f.hd;have h5:=f.dl;have h6:=f.sl;have h7:=f.bl;have:=XU E H hB hg (aQ hi) (ss:=i.done) (O:=O) (T:=T) (arr:=i.arr) (d1:=-1) (l1:=-1) (by rw[<- G];rfl) Z (ls:=i.bL) (lb:=i.lb) rfl Z (sl:=i.sL) (sn:=i.sn) rfl Z
  u (aQ h) z (by rw[<- z];exact hq.1) Z A Z Z Z (by have:i.raw.hd=i.holds:=rfl;omega)
 rw[X,A,<- mf,aAE,G];exact this
def aU(e:bZ):Array Value:=#[.int .i64 e.1,.int .i64 e.2.1,.string e.2.2.1.1,.int .i64 e.2.2.1.2.1,.int .i64 e.2.2.1.2.2.1,.int .i64 e.2.2.1.2.2.2.1,.int .i64 e.2.2.1.2.2.2.2,.string e.2.2.2.1,.string e.2.2.2.2.1,.int .i64 e.2.2.2.2.2]
def Xu{α:Type}{p:α->Bool}{f:α->α}(h:∀x,p (f x)=p x):∀l:List α,(l.map f).find? p=(l.find? p).map f
 |[]=>rfl|x::l=>by
  rw[wV,xW,xW,h x];split;rfl;exact Xu h l
def tG{x:Itm}(u:its[k]?=some i)(f:x.post=i.post)(lb:ByteArray):iy (its.set k x) lb=iy its lb:=by
 have:∀(l:List Itm) (k:Nat) (i x:Itm),l[k]?=some i->x.post=i.post->((l.set k x).find? λi=>decide (i.post.1=lb)).map (λi=>i.post.2.2.1)=(l.find? λi=>decide (i.post.1=lb)).map λi=>i.post.2.2.1:=by
  intro l;induction l with
  |nil=>intro k i x h;simp at h
  |cons a l j=>
   intro k i x h f;cases k with
   |zero=>
    simp only[xK,vT]at h;subst h;rw[List.set_cons_zero,xW,xW,f];split;simp[f];rfl
   |succ k=>
    rw[List.set_cons_succ,xW,xW];split;rfl;exact j k i x (by simpa using h) f
 unfold iy;rw[this its k i x u f]
def mem_set{x j:Itm}(h:j∈its.set k x):j∈its\/j=x:=List.mem_or_eq_of_mem_set h
def nN{x:Itm}(A:its[k]?=some i)(y:x.post=i.post){lb:ByteArray}(h:∃j∈its,j.post.1=lb):∃j∈its.set k x,j.post.1=lb:=by
 obtain⟨j,z,u⟩:=h;obtain⟨q,f⟩:=List.getElem?_of_mem z;by_cases e:k=q;subst e;cases A.symm.trans f;exact⟨x,qZ (i:=k) (by rw[vS,if_pos rfl,if_pos (qC.1 f).1]),by rw[y];exact u⟩;exact⟨j,qZ (i:=q) (by rw[vS,if_neg e];exact f),u⟩
def Zh{x:Itm}(z:its[k]?=some i)(u:x.post=i.post)(f:∀j∈its,j.post.1.size<=1000/\0<=j.post.2.2.1/\j.post.2.2.1<d.N):∀j∈its.set k x,j.post.1.size<=1000/\0<=j.post.2.2.1/\j.post.2.2.1<d.N:=λj y=>by
 rcases mem_set y with h|rfl;exact f j h;rw[u];exact f i (qZ z)
def Nr{x:Itm}(E:Env w0 R c d)(H:Hist W R tg c ((its.set k x).map Itm.raw) cc gs iv)(L:Below R w0 W)(G:gs[k]?=some g)(f:its[k]?=some i)(h:x.post=i.post)(z:OkI d m its x)(hm:m<=900)(A:∀j∈its,j.post.1.size<=1000/\0<=j.post.2.2.1/\j.post.2.2.1<d.N):
  Calls Tryz.prog 109 #[.pointer (some ⟨c.hb,0,none⟩),.pointer (some ⟨g.b,0,none⟩)] W λe y=>e=.returned (.tuple #[])/\
   Frm tg (itT k) W y tg/\Hist y R tg c ((its.set k (jj d cc (iy its x.lb) x)).map Itm.raw) cc gs iv:=by
 have u:(its.set k x)[k]?=some x:=by rw[vS,if_pos rfl,if_pos (qC.1 f).1]
 have hd:=aC7 E H L G u {z with to:=nN f h z.to} hm (Zh f h A);rw[tG f h,List.set_set]at hd;exact hd
set_option maxRecDepth 100000 in
set_option maxHeartbeats 4000000 in
def aC3(E:Env w0 R c d)(H:Hist W R tg c (its.map Itm.raw) cc gs iv)(hB:Below R w0 W)(hg:gs[k]?=some g)(X:its[k]?=some i)(ok:OkI d m its i)(hm:m<=900)(hz:∀j∈its,j.post.1.size<=1000/\0<=j.post.2.2.1/\j.post.2.2.1<d.N)(e:bZ)(he:e.2.2.2.1=i.post.1):
  Calls Tryz.prog 103 #[.pointer (some ⟨c.hb,0,none⟩),.agg (aU e)] W λe' w'=>e'=.returned (.tuple #[])/\
   Frm tg (itT k) W w' tg/\Hist w' R tg c ((its.set k (jj d cc (iy its i.lb) {i with lost:=true})).map Itm.raw) cc gs iv:=by
 obtain⟨k1,t1,⟨pl,pf,pt,pc,pa⟩,lb,ot,ln⟩:=e;have he:lb=i.post.1:=he;subst he;obtain⟨f,y⟩:∃f,W.alloc (.cells (aU (k1,t1,(pl,pf,pt,pc,pa),i.post.1,ot,ln)) 59)=f:=⟨_,rfl⟩;have b1:f.heap[W.heap.size]?=some (.cells (aU (k1,t1,(pl,pf,pt,pc,pa),i.post.1,ot,ln)) 59 (0,0)):=by rw[<- y];exact World.alloc_heap_new W _
 have H1:Hist f R tg c (its.map Itm.raw) cc gs iv:=y▸H.alloc _;have F1:Frm tg (itT k) W f tg:=y▸Frm.alloc H.new _;have l1:f.cell? ⟨W.heap.size,7,none⟩=some (.string i.post.1):=by simp[World.cell?,b1,aU]
 have h8:f.cell? ⟨c.hb,8,none⟩=some (.map (some c.nb)):=H1.cell (j:=8) rfl;have hlk:∀m,(Instr.lookup 97 (.map (some c.nb)) (.string i.post.1) false).run Tryz.prog (f.drewN m)=.ok (.pointer (some ⟨g.b,0,none⟩)) (f.drewN m):=λm=>(H1.drewN m).look hg (aQ X) (by unfold maxLen;have:=ok.lz;show i.post.1.size<=_;omega);unfold aU;unfold aU at y
 go_enter Tryz.func103,Tryz.ntmps103
 go_wp2
 go_quiet (fail)
 generalize A:f.drewN nq=W2;have H2:Hist W2 R tg c (its.map Itm.raw) cc gs iv:=A▸H1.drewN nq;have F2:Frm tg (itT k) W W2 tg:=A▸F1.drewN nq;clear l1 h8 hlk b1;have z:=H2.it k g _ hg (aQ X);have y6:W2.cell? ⟨g.b,6,none⟩=some (.bool i.lost):=z.cell (j:=6) rfl;have z6:=z.free 6;obtain⟨G,F3⟩:=z.scal (r':=({i with lost:=true}:Itm).raw) H2.new (o:=6) (u:=.bool true) rfl rfl rfl rfl rfl;have H3:=H2.itemS hg (aQ X) F3 G rfl;obtain⟨W3,hW3⟩:∃W3,W2.setCell ⟨g.b,6,none⟩ (.bool true)=W3:=⟨_,rfl⟩;rw[hW3]at G H3 F3;rw[mf]at H3;have L:=F2.trans F3;have hd:=Nr E H3 (cT H.low H.RW hB L (λh=>by have:=h.1;omega)) hg X rfl {ok with} hm hz
 go_wp2_with (first
  |(go_at_call 109;refine hd.mono ?_;rintro e w' ⟨rfl,F4,H4⟩))
 go_end0
 exact⟨rfl,L.trans F4,H4⟩
end Go.Eng.Top
namespace Go.Eng.Top
open Go.Proofs Go.RowKit
variable {tg tg':Tag} {Op:Nat->Prop} {w0 W W':World} {R k m:Nat} {g g':Gh} {r r':Raw} {c:HC} {d:Dat} {its:List Itm} {i:Itm} {cc:Li} {gs:List Gh} {iv:Value}
def at_set{x:Itm}(f:its[k]?=some i):((its.set k x).map Itm.raw)[k]?=some x.raw:=aQ (by rw[vS,if_pos rfl,if_pos (qC.1 f).1])
set_option maxRecDepth 100000 in
set_option maxHeartbeats 4000000 in
def aC5(E:Env w0 R c d)(H:Hist W R tg c (its.map Itm.raw) cc gs iv)(hB:Below R w0 W)(hg:gs[k]?=some g)(hi:its[k]?=some i)(ok:OkI d m its i)(okl:OkL d i)(hm:m<=900)(e:bZ)(he:e.2.2.2.1=i.post.1):
  Calls Tryz.prog 104 #[.pointer (some ⟨c.hb,0,none⟩),.agg (aU e)] W λe' f=>e'=.returned (.tuple #[])/\
   Frm tg (itT k) W f tg/\Hist f R tg c ((its.set k (rz d i)).map Itm.raw) cc gs iv:=by
 obtain⟨k1,t1,⟨pl,pf,pt,pc,pa⟩,lb,ot,ln⟩:=e;have he:lb=i.post.1:=he;subst he;obtain⟨L,X⟩:∃L,W.alloc (.cells (aU (k1,t1,(pl,pf,pt,pc,pa),i.post.1,ot,ln)) 59)=L:=⟨_,rfl⟩;have b1:L.heap[W.heap.size]?=some (.cells (aU (k1,t1,(pl,pf,pt,pc,pa),i.post.1,ot,ln)) 59 (0,0)):=by rw[<- X];exact World.alloc_heap_new W _
 have H1:Hist L R tg c (its.map Itm.raw) cc gs iv:=X▸H.alloc _;have F1:Frm tg (itT k) W L tg:=X▸Frm.alloc H.new _;have l1:L.cell? ⟨W.heap.size,7,none⟩=some (.string i.post.1):=by simp[World.cell?,b1,aU]
 have h8:L.cell? ⟨c.hb,8,none⟩=some (.map (some c.nb)):=H1.cell (j:=8) rfl;have hlk:∀m,(Instr.lookup 97 (.map (some c.nb)) (.string i.post.1) false).run Tryz.prog (L.drewN m)=.ok (.pointer (some ⟨g.b,0,none⟩)) (L.drewN m):=λm=>(H1.drewN m).look hg (aQ hi) (by unfold maxLen;have:=ok.lz;show i.post.1.size<=_;omega)
 unfold aU;unfold aU at X
 go_enter Tryz.func104,Tryz.ntmps104
 go_wp2
 go_quiet (fail)
 generalize hW2:L.drewN nq=W2;have H2:Hist W2 R tg c (its.map Itm.raw) cc gs iv:=hW2▸H1.drewN nq;have F2:Frm tg (itT k) W W2 tg:=hW2▸F1.drewN nq;clear l1 h8 hlk b1;have hI2:=H2.it k g _ hg (aQ hi);have y10:W2.cell? ⟨g.b,10,none⟩=some (.int .i64 i.holds):=hI2.cell (j:=10) rfl;have z10:=hI2.free 10
 obtain⟨hI3,F3⟩:=hI2.scal (r':=({i with holds:=i.holds+1}:Itm).raw) H2.new (o:=10) (u:=.int .i64 (i.holds+1)) rfl rfl rfl rfl rfl;have A:=H2.itemS hg (aQ hi) F3 hI3 rfl;obtain⟨G,hW3⟩:∃G,W2.setCell ⟨g.b,10,none⟩ (.int .i64 (i.holds+1))=G:=⟨_,rfl⟩;rw[hW3]at hI3 A F3;rw[mf]at A;have F3':=F2.trans F3;have y11:G.cell? ⟨g.b,11,none⟩=some (.int .i64 i.line):=hI3.cell (j:=11) rfl;have hd0:=ok.hd
 have hv0:=okl.lv;by_cases hl:i.line<0
 .have eh:rz d i={i with holds:=i.holds+1}:=by unfold rz;rw[if_pos hl]
  go_wp2
  refine bodyPost_ret (results_none rfl _ _ _) rfl ⟨rfl,F3',?_⟩;rw[eh];exact A
 have hl':decide (i.line<0)=false:=by simpa using hl
 have c0:G.cell? ⟨c.hb,0,none⟩=some c.n0:=A.cell (j:=0) rfl;have c1:G.cell? ⟨c.hb,1,none⟩=some c.n1:=A.cell (j:=1) rfl;have c2:G.cell? ⟨c.hb,2,none⟩=some c.n2:=A.cell (j:=2) rfl;have c3:G.cell? ⟨c.hb,3,none⟩=some c.n3:=A.cell (j:=3) rfl;have c4:G.cell? ⟨c.hb,4,none⟩=some c.n4:=A.cell (j:=4) rfl;have c5:G.cell? ⟨c.hb,5,none⟩=some c.n5:=A.cell (j:=5) rfl
 have y12:G.cell? ⟨g.b,12,none⟩=some (.int .i64 i.leave):=hI3.cell (j:=12) rfl;have hd:=E.dep G.drew i.line (i.leave+1) (cT H.low H.RW hB (F3'.drewN 1) (λh=>by have:=h.1;omega)) (okl.ln.resolve_left hl) Z Z
 have hd':=hd.mono (R':=λe f=>e=.returned (.tuple #[.int .i64 (d.dD i.line (i.leave+1)),.int .i64 (d.dE i.line (i.leave+1))])/\Hist f R tg c ((its.set k {i with holds:=i.holds+1}).map Itm.raw) cc gs iv/\Frm tg (itT k) W f tg/\
   f.cell? ⟨c.hb,0,none⟩=some c.n0/\f.cell? ⟨c.hb,1,none⟩=some c.n1/\f.cell? ⟨c.hb,2,none⟩=some c.n2/\f.cell? ⟨c.hb,3,none⟩=some c.n3/\f.cell? ⟨c.hb,4,none⟩=some c.n4/\f.cell? ⟨c.hb,5,none⟩=some c.n5/\
   f.cell? ⟨g.b,11,none⟩=some (.int .i64 i.line)/\f.cell? ⟨g.b,12,none⟩=some (.int .i64 i.leave)) (by
  rintro e f ⟨rfl,hb⟩;have z:=(A.drewN 1).fr (Frm.below (O:=λ_=>False) (A.drewN 1).new hb) λ_ _ h=>h
  have y:=z.it k g _ hg (at_set hi);exact⟨rfl,z,(F3'.drewN 1).trans (Frm.below (A.drewN 1).new hb),z.cell (j:=0) rfl,z.cell (j:=1) rfl,z.cell (j:=2) rfl,z.cell (j:=3) rfl,z.cell (j:=4) rfl,z.cell (j:=5) rfl,y.cell (j:=11) rfl,y.cell (j:=12) rfl⟩)
 clear hd;have hw:IntKind.i64.wrap (i.leave+1)=i.leave+1:=IntWalk.i64_in _ Z
 go_wp2
 go_region_held3 (λf=>f.cell? ⟨c.hb,0,none⟩=some c.n0/\f.cell? ⟨c.hb,1,none⟩=some c.n1/\f.cell? ⟨c.hb,2,none⟩=some c.n2/\f.cell? ⟨c.hb,3,none⟩=some c.n3/\f.cell? ⟨c.hb,4,none⟩=some c.n4/\f.cell? ⟨c.hb,5,none⟩=some c.n5/\
  f.cell? ⟨g.b,11,none⟩=some (.int .i64 i.line)/\f.cell? ⟨g.b,12,none⟩=some (.int .i64 i.leave)) (go_keep)
  (first | (go_at_call 160;refine hd'.mono ?_;rintro e f ⟨rfl,z,F5,x0,x1,x2,x3,x4,x5,x6,x7⟩))
 have y:=z.it k g _ hg (at_set hi);have z11:=y.free 11;have z12:=y.free 12;clear x0 x1 x2 x3 x4 x5;by_cases hE:d.dE i.line (i.leave+1)=0
 .rw[hE]
  go_wp2
  obtain⟨hI6,F6⟩:=y.scal (r':=({i with holds:=i.holds+1,leave:=d.dD i.line (i.leave+1)}:Itm).raw) z.new (o:=12) (u:=.int .i64 (d.dD i.line (i.leave+1))) rfl rfl rfl rfl rfl;have H6:=z.itemS hg (at_set hi) F6 hI6 rfl;rw[mf,List.set_set]at H6
  go_end0
  refine⟨rfl,F5.trans F6,?_⟩;rw[show rz d i={i with holds:=i.holds+1,leave:=d.dD i.line (i.leave+1)} by unfold rz;rw[if_neg Z,if_pos hE]];exact H6
 .have hne:(d.dE i.line (i.leave+1) != 0)=true:=by simpa using hE
  go_wp2
  obtain⟨hI6,F6⟩:=y.scal (r':=({i with holds:=i.holds+1,line:=-1}:Itm).raw) z.new (o:=11) (u:=.int .i64 (-1)) rfl rfl rfl rfl rfl;have H6:=z.itemS hg (at_set hi) F6 hI6 rfl;rw[mf,List.set_set]at H6;refine bodyPost_ret (results_none rfl _ _ _) rfl ⟨rfl,F5.trans F6,?_⟩;rw[show rz d i={i with holds:=i.holds+1,line:=-1} by unfold rz;rw[if_neg Z,if_neg hE]];exact H6
end Go.Eng.Top
namespace Go.Eng.Top
open Go.Proofs Go.RowKit
variable {tg tg':Tag} {Op:Nat->Prop} {w0 W W':World} {R k m:Nat} {g g':Gh} {r r':Raw} {c:HC} {d:Dat} {its:List Itm} {i:Itm} {rs:List Raw} {cc:Li} {gs:List Gh} {iv:Value}
def Hist.canc(h:Hist W R tg c rs cc gs iv){l:Int}(hl:(Lit.int .i64 l).wf=true)(hn:cc.length<100000):
  ∃u,(Instr.mapUpdate 98 (.map (some c.cb)) (.int .i64 l) (.bool true)).run Tryz.prog W=.ok () u/\Hist u R tg c rs (cc++[l]) gs iv/\Frm tg (·=3) W u tg:=by
 obtain⟨D,h1,G,h3⟩:=h.ca;obtain⟨l1,l2,l3⟩:=h.lt;have RW:=h.RW;obtain⟨u,y,X,j⟩:=h1.update (Maps.int_keyed Tryz.underlying3) Tryz.underlying98 (e:=4) (by unfold maxLen;omega) (key:=.int .i64 l) (val:=.bool true) (Maps.keyOf_int_mk Tryz.underlying3 hl) (plainElem_bool Tryz.underlying4 _);have f:Frm tg (·=3) W u tg:=⟨⟨j.os,j.tape,j.output,j.size,λb A z=>j.block b A λe=>z (by cases e;exact h.tc)⟩,λ_ _=>rfl,λb A=>h.new b (vP j.size A)⟩;refine⟨u,y,⟨f.new,h.low,vP RW f.chg.size,(f.lo l1 (by rw[h.th];omega)).trans h.hc,h.th,h.tn,h.tc,h.rows.fr f Z,h.len,λk g r j y=>(h.it k g r j y).fr f λt L=>by have:=L.1;omega,?_,?_⟩,f⟩;obtain⟨D',g1,g2⟩:=h.nm;exact⟨D',dw g1 (f.lo l2 (by rw[h.tn];omega)),g2⟩;refine⟨_,by rw[qG];exact X,G.put _ _,λx=>?_⟩;by_cases e:x=l;subst e;rw[Maps.atKey_put_same G (by simp[WideAt.IsKeyLit])];simp;rw[Maps.atKey_put_other (by simpa using e),h3 x];simp[e]
def M9(l:Int)(i:Itm):Itm:=if i.line=l then {i with line:=-1} else i
def je(l:Int)(q:Nat)(its:List Itm):List Itm:=(its.take q).map (M9 l)++its.drop q
def XE{l:Int}{q:Nat}(h:its[q]?=some i):(je l q its)[q]?=some i:=by
 have f:=(qC.1 h).1;unfold je;rw[qV (by simp;omega),vX,qO,vF];rw[show q+(q-min q its.length)=q by omega];exact h
def nB{l:Int}{q:Nat}(h:its[q]?=some i):(je l q its).set q (M9 l i)=je l (q+1) its:=by
 have f:=(qC.1 h).1;have e:(List.map (M9 l) (List.take q its)).length=q:=by simp;omega
 unfold je;rw[List.set_append,if_neg Z,e,qAg,wY,h,zS,zJ];have j:its.drop q=i::its.drop (q+1):=by rw[List.drop_eq_getElem_cons f];rw[qB f]at h;rw[wE h]
 rw[j];rfl
def TC(l:Int):je l its.length its=its.map (M9 l):=by unfold je;rw[kY,List.drop_length,wH]
def Bh(t:Nat):Prop:=0<t
set_option maxRecDepth 100000 in
set_option maxHeartbeats 4000000 in
def XV(H:Hist W R tg c (its.map Itm.raw) cc gs iv)(hn:its.length<10000)(e:bZ)(hw:(Lit.int .i64 e.2.2.2.2.2).wf=true)(hc:cc.length<10000):
  Calls Tryz.prog 106 #[.pointer (some ⟨c.hb,0,none⟩),.agg (aU e)] W λe' w'=>e'=.returned (.tuple #[])/\
   Frm tg Bh W w' tg/\Hist w' R tg c ((its.map (M9 e.2.2.2.2.2)).map Itm.raw) (cc++[e.2.2.2.2.2]) gs iv:=by
 obtain⟨k1,t1,⟨pl,pf,pt,pc,pa⟩,lb,ot,f⟩:=e;obtain⟨A,y⟩:∃A,W.alloc (.cells (aU (k1,t1,(pl,pf,pt,pc,pa),lb,ot,f)) 59)=A:=⟨_,rfl⟩;have b1:A.heap[W.heap.size]?=some (.cells (aU (k1,t1,(pl,pf,pt,pc,pa),lb,ot,f)) 59 (0,0)):=by rw[<- y];exact World.alloc_heap_new W _
 have H1:Hist A R tg c (its.map Itm.raw) cc gs iv:=y▸H.alloc _;have F1:Frm tg Bh W A tg:=y▸Frm.alloc H.new _;have tB:tg W.heap.size=0:=H.new _ (qL _);have l1:A.cell? ⟨W.heap.size,9,none⟩=some (.int .i64 f):=by simp[World.cell?,b1,aU]
 have h9:A.cell? ⟨c.hb,9,none⟩=some (.map (some c.cb)):=H1.cell (j:=9) rfl;obtain⟨W2,hup,H2,F2⟩:=(H1.drewN 1).canc hw Z;change (Instr.mapUpdate 98 (.map (some c.cb)) (.int .i64 f) (.bool true)).run Tryz.prog A.drew=.ok () W2 at hup;unfold aU;have l2:A.heap.size=W.heap.size+1:=by rw[<- y];simp
 have b2:W2.heap[W.heap.size]?=some (.cells (aU (k1,t1,(pl,pf,pt,pc,pa),lb,ot,f)) 59 (0,0)):=(F2.lo (by show _<A.heap.size;omega) (by rw[tB];omega)).trans b1;have F2':Frm tg Bh W W2 tg:=(F1.drewN 1).trans (F2.sub λt h=>by unfold Bh;omega);unfold aU at y;have x9:W2.cell? ⟨c.hb,9,none⟩=some (.map (some c.cb)):=H2.cell (j:=9) rfl;have xl:W2.cell? ⟨W.heap.size,9,none⟩=some (.int .i64 f):=by simp[World.cell?,b2,aU]
 go_enter Tryz.func106,Tryz.ntmps106
 go_wp2
 go_region_held3 (λw'=>w'.cell? ⟨c.hb,9,none⟩=some (.map (some c.cb))/\w'.cell? ⟨W.heap.size,9,none⟩=some (.int .i64 f)) (go_keep) (fail)
 clear h9 l1 x9;obtain⟨av,cv,hiv⟩:=H2.rows.sl;have X:gs.length=its.length:=by have:=H2.len;simpa using this
 rw[X]at hiv;have x7:W2.cell? ⟨c.hb,7,none⟩=some (.slice av its.length cv):=by rw[<- hiv];exact H2.cell (j:=7) rfl
 obtain⟨B,hB⟩:∃B,W.heap.size=B:=⟨_,rfl⟩;rw[hB]at xl tB ⊢
 go_wp2
 go_loopw [17] (λu wr=>∃q:Nat,q<=its.length/\u=.int .i64 q/\Frm tg Bh W wr tg/\Hist wr R tg c ((je f q its).map Itm.raw) (cc++[f]) gs iv/\wr.heap[B]?=W2.heap[B]?)
  (λu _=>its.length-(intOf u).toNat)
 case atStart=>exact⟨0,wK _,rfl,F2',by show Hist W2 R tg c ((je f 0 its).map Itm.raw) _ gs iv;exact H2,rfl⟩
 case round=>
  obtain⟨q,hq,rfl,Fr,Hr,hb⟩:=hrel;by_cases hlt:q<its.length;obtain⟨i,hi⟩:∃i,its[q]?=some i:=⟨its[q],qB hlt⟩;have L:=aQ (XE (l:=f) hi);obtain⟨g,hg,hI⟩:=Hr.get L;obtain⟨bi,ci,ei,_⟩:=Hr.rows.pos Z;have er:=Hr.rows;rw[ei]at er;have cp:wr.cell? ⟨bi,q,none⟩=some (.pointer (some ⟨g.b,0,none⟩)):=er.cell (by rw[qQ,hg];rfl);rw[hiv,X]at ei;cases ei;have q0:(0:Int)<=q:=Z;have q1:(q:Int)<its.length:=Z;have y11:wr.cell? ⟨g.b,11,none⟩=some (.int .i64 i.line):=hI.cell (j:=11) rfl;have z11:=hI.free 11;have xl':wr.cell? ⟨B,9,none⟩=some (.int .i64 f):=by simp only[World.cell?,hb];exact xl
  by_cases G:i.line=f;have hl':(i.line==f)=true:=by simpa using G
  go_wp2
  go_quiet (fail)
  generalize hWq:wr.drewN nq=Wq;have Hq:Hist Wq R tg c ((je f q its).map Itm.raw) (cc++[f]) gs iv:=hWq▸Hr.drewN nq;have Fq:Frm tg Bh W Wq tg:=hWq▸Fr.drewN nq;have bq:Wq.heap[B]?=W2.heap[B]?:=by rw[<- hWq];exact hb
  have z:=Hq.it q g _ hg L;clear cp y11 z11 xl';have y11:Wq.cell? ⟨g.b,11,none⟩=some (.int .i64 i.line):=z.cell (j:=11) rfl;have z11:=z.free 11
  go_wp2
  obtain⟨hI6,F6⟩:=z.scal (r':=(M9 f i).raw) Hq.new (o:=11) (u:=.int .i64 (-1)) (by unfold M9;rw[if_pos G];rfl) (by unfold M9;rw[if_pos G];rfl) (by unfold M9;rw[if_pos G];rfl) (by unfold M9;rw[if_pos G];rfl) (by unfold M9;rw[if_pos G];rfl);have H6:=Hq.itemS hg L F6 hI6 (by unfold M9;rw[if_pos G];rfl);rw[mf,nB hi]at H6
  go_roundw
  case rel=>exact⟨q+1,Z,by simp,Fq.trans (F6.sub λt h=>by unfold Bh;have:=h.1;omega),H6,(Below.heap_setCell _ _ _ _ (λe=>by have:=z.bR;have:=H.RW;have e:B=g.b:=e;have:=z.tb;rw[<- e,tB]at this;omega)).trans bq⟩
  case measure=>simp[intOf];omega
  have hl':(i.line==f)=false:=by simpa using G
  go_wp2
  go_quiet (fail)
  have H6:=(Hr.drewN nq);rw[<- KX L,<- show(M9 f i).raw=i.raw by unfold M9;rw[if_neg G],mf,nB hi]at H6
  go_wp2
  go_roundw
  case rel=>exact⟨q+1,Z,by simp,Fr.drewN nq,H6,hb⟩
  case measure=>simp[intOf];omega
  obtain rfl:q=its.length:=by omega
  go_wp2
  go_end0
  rw[TC]at Hr;exact⟨rfl,Fr,Hr⟩
end Go.Eng.Top
namespace Go.Eng.Top
open Go.Proofs Go.RowKit
variable {tg tg' tg1 tg2:Tag} {Op:Nat->Prop} {w0 W W' W1 W2:World} {R k m:Nat} {g g':Gh} {r r':Raw} {c:HC} {d:Dat} {its:List Itm} {i:Itm} {rs:List Raw} {cc:Li} {gs:List Gh} {iv v':Value}
def Bg{α:Type}{l:List α}{x y:α}{j:Nat}(h:(l++[x])[j]?=some y):l[j]?=some y\/(j=l.length/\y=x):=by
 by_cases e:j<l.length;rw[vU e]at h;exact .inl h;rw[qV Z]at h;have:=(qC.1 h).1;simp at this;have f:j=l.length:=Z;subst f;simp at h;exact .inr ⟨rfl,h.symm⟩
def str_inj{x y:ByteArray}(h:x.data.toList=y.data.toList):x=y:=by
 cases x;cases y;exact yF ByteArray.mk (Array.toList_inj.1 h)
def Hist.push(H:Hist W R tg c rs cc gs iv)(F1:Frm tg (λ_=>False) W W1 tg1)(hI:jF W1 R tg1 rs.length g r)(F2:Frm tg1 (·=4) W1 W2 tg2)(hv:eU W2 R tg2 4 106 1 v' (gs.length+1) ((gs.map λg=>Value.pointer (some ⟨g.b,0,none⟩))++[.pointer (some ⟨g.b,0,none⟩)]))
  (hl:∀q∈rs,q.po.1≠r.po.1) (hz:r.po.1.size<=maxLen) (hn:rs.length<100000):
  ∃y,(Instr.mapUpdate 97 (.map (some c.nb)) (.string r.po.1) (.pointer (some ⟨g.b,0,none⟩))).run Tryz.prog (W2.setCell ⟨c.hb,7,none⟩ v').drew=.ok () y/\Hist y R tg2 c (rs++[r]) cc (gs++[g]) v'/\Frm tg Bh W y tg2/\Frm tg1 Bh W1 y tg2:=by
 obtain⟨l1,l2,l3⟩:=H.lt;have RW:=H.RW;have A:Frm tg (·=4) W W2 tg2:=(F1.sub λ_ h=>h.elim).trans F2;have h2:tg2 c.hb=1:=(A.tag _ l1).trans H.th;have F3:Frm tg2 (·=1) W2 (W2.setCell ⟨c.hb,7,none⟩ v').drew tg2:=(Frm.set F2.new h2 v').drewN 1;have L:Frm tg (λt=>t=4\/t=1) W (W2.setCell ⟨c.hb,7,none⟩ v').drew tg2:=(A.sub λ_ h=>.inl h).trans (F3.sub λ_ h=>.inr h);obtain⟨D,g1,g2,g3⟩:=H.nm;have l4:=L.chg.size;have n1:=dw g1 (L.lo l2 (by rw[H.tn];omega));obtain⟨y,hr,ho,X⟩:=n1.update (Maps.string_keyed Tryz.underlying9) Tryz.underlying97 (e:=106) (by unfold maxLen;omega) (key:=.string r.po.1) (val:=.pointer (some ⟨g.b,0,none⟩)) (WideMaps.keyOf_string_mk Tryz.underlying9 hz) (d:=.lit (.int .i64 g.b)) (ps:=[]) rfl;have tn2:tg2 c.nb=2:=(L.tag _ l2).trans H.tn;have F4:Frm tg2 (·=2) (W2.setCell ⟨c.hb,7,none⟩ v').drew y tg2:=⟨⟨X.os,X.tape,X.output,X.size,λb hb hno=>X.block b hb λe=>hno (by cases e;exact tn2)⟩,λ_ _=>rfl,λb hb=>F3.new b (vP X.size hb)⟩;have G:Frm tg2 (λt=>t=1\/t=2) W2 y tg2:=(F3.sub λ_ h=>.inl h).trans (F4.sub λ_ h=>.inr h);have f:Frm tg (λt=>t=4\/t=1\/t=2) W y tg2:=(A.sub λ_ h=>.inl h).trans (G.sub λ_ h=>.inr h);have F24:Frm tg1 (λt=>t=4\/t=1\/t=2) W1 y tg2:=(F2.sub λ_ h=>.inl h).trans (G.sub λ_ h=>.inr h);have hc2:W2.heap[c.hb]?=some (.cells (mN c iv) 101 (0,0)):=(A.lo l1 (by rw[H.th];omega)).trans H.hc;have hc3:(W2.setCell ⟨c.hb,7,none⟩ v').drew.heap[c.hb]?=some (.cells (mN c v') 101 (0,0)):=heap_setCell_same W2 c.hb 7 (mN c iv) 101 v' hc2
 have l5:c.hb<(W2.setCell ⟨c.hb,7,none⟩ v').drew.heap.size:=(qJ.1 hc3).1;refine⟨y,hr,⟨F4.new,λb hb=>(f.tag b Z).trans (H.low b hb),vP RW f.chg.size,(F4.lo l5 (by rw[h2];omega)).trans hc3,h2,tn2,(f.tag _ l3).trans H.tc,?_,by simp[H.len],λj q p hq hp=>?_,?_,?_⟩,f.sub λt h=>by unfold Bh;omega,F24.sub λt h=>by unfold Bh;omega⟩;have:=hv.fr G Z;rw[qG,zS];exact this;rcases Bg hq with z|⟨z,e2⟩;rcases Bg hp with u|⟨u,e4⟩;exact(H.it j q p z u).fr f λt ht=>by have:=ht.1;omega
 have:=(qC.1 z).1;have:=H.len;omega;rcases Bg hp with u|⟨u,e4⟩;have:=(qC.1 u).1;have:=H.len;omega;rw[u,e2,e4];exact hI.fr F24 λt ht=>by have:=ht.1;omega
 refine⟨_,by rw[qG];exact ho,g2.put _ _,λj q p hq hp=>?_⟩;rcases Bg hp with u|⟨u,e4⟩;have ne:p.po.1≠r.po.1:=hl p (qZ u);rw[Maps.atKey_put_other (by
  unfold aAc;intro e;simp only[Lit.string.injEq]at e;exact ne (str_inj e))]
 rcases Bg hq with z|⟨z,e2⟩;exact g3 j q p z u;have:=(qC.1 u).1;have:=H.len;omega;rcases Bg hq with z|⟨z,e2⟩;have:=(qC.1 z).1;have:=H.len;omega;rw[e4,e2];exact Maps.atKey_put_same g2 (by simp[WideAt.IsKeyLit,aAc]) _ _;obtain⟨D',g1',g2'⟩:=H.ca;exact⟨D',dw g1' (f.lo l3 (by rw[H.tc];omega)),g2'⟩
def JE{E sz:Nat}{t:Nat}{f:Array Value}{b:Nat}(y:W.heap[b]?=some (.cells f E (0,0)))(h:f.size=sz)(z:R<=b)(u:tg b=t):eU W R tg t E sz (.slice (some ⟨b,0,none⟩) 1 1) 1 f.toList:=
 ⟨⟨by rw[vI,h,yA],.inr ⟨b,1,f,rfl,z,y,qL _,by decide,by rw[h,yA],by rw[yA,<- h];exact qM (by rw[vI];exact qL _)⟩⟩,λx j=>by cases j;exact u⟩
def aAo:Tryz.prog.info? 106=some ((Tryz.prog.info? 106).getD default):=by kernel_rfl
set_option maxRecDepth 100000 in
set_option maxHeartbeats 4000000 in
def aC2(E:Env w0 R c d)(H:Hist W R tg c (its.map Itm.raw) cc gs iv)(hB:Below R w0 W)(e:bZ)(he:e.2.2.1.2.2.2.2=e.2.1)(hl:∀q∈its,q.post.1≠e.2.2.1.1)(hn:its.length<900)(hm:m<=900)
  (hz:∀j∈its,j.post.1.size<=1000/\0<=j.post.2.2.1/\j.post.2.2.1<d.N) (hx:e.2.2.1.1.size<=1000/\(0<=e.2.2.1.2.1/\e.2.2.1.2.1<d.N)/\(0<=e.2.2.1.2.2.1/\e.2.2.1.2.2.1<d.N)) (ht:0<=e.2.1/\e.2.1<=1000000):
  Calls Tryz.prog 102 #[.pointer (some ⟨c.hb,0,none⟩),.agg (aU e)] W λe' L=>e'=.returned (.tuple #[])/\∃tg' gs' iv',
   Frm tg Bh W L tg'/\Hist L R tg' c ((its++[jj d cc (iy (its++[iw e.2.2.1]) e.2.2.1.1) (iw e.2.2.1)]).map Itm.raw) cc gs' iv':=by
 obtain⟨k1,t1,⟨y,z,A,G,f⟩,lb,ot,ln⟩:=e;have he:f=t1:=he;subst he;dsimp only at he hl hx ht ⊢;clear he;have RW:=H.RW;obtain⟨N,hN⟩:∃N,W.heap.size=N:=⟨_,rfl⟩;obtain⟨W1,hW1⟩:∃W1,W.alloc (.cells #[.int .i64 k1,.int .i64 f,.string y,.int .i64 z,.int .i64 A,.int .i64 G,.int .i64 f,.string lb,.string ot,.int .i64 ln] 59)=W1:=⟨_,rfl⟩;obtain⟨W2,hW2⟩:∃W2,W1.alloc (.cells #[.int .i64 z,.int .i64 f,.int .i64 (-1),.int .i64 (-1)] 61)=W2:=⟨_,rfl⟩;obtain⟨W3,hW3⟩:∃W3,W2.alloc (.cells #[.int .i64 f] 3)=W3:=⟨_,rfl⟩;obtain⟨W4,hW4⟩:∃W4,W3.alloc (.cells #[.string y] 9)=W4:=⟨_,rfl⟩;obtain⟨W5,hW5⟩:∃W5,W4.alloc (.cells #[.string y,.int .i64 z,.int .i64 A,.int .i64 G,.int .i64 f,.slice (some ⟨N+1,0,none⟩) 1 1,.bool false,.slice (some ⟨N+2,0,none⟩) 1 1,.slice (some ⟨N+3,0,none⟩) 1 1,.slice none 0 0,.int .i64 0,.int .i64 0,.int .i64 0] 108)=W5:=⟨_,rfl⟩;obtain⟨W6,hW6⟩:∃W6,W5.alloc (.cells #[.pointer (some ⟨N+4,0,none⟩)] 106)=W6:=⟨_,rfl⟩;have s1:W1.heap.size=N+1:=by rw[<- hW1,qH,hN]
 have s2:W2.heap.size=N+2:=by rw[<- hW2,qH,s1]
 have s3:W3.heap.size=N+3:=by rw[<- hW3,qH,s2]
 have s4:W4.heap.size=N+4:=by rw[<- hW4,qH,s3]
 have s5:W5.heap.size=N+5:=by rw[<- hW5,qH,s4]
 have s6:W6.heap.size=N+6:=by rw[<- hW6,qH,s5]
 obtain⟨k,hk⟩:∃k,its.length=k:=⟨_,rfl⟩;have f1:Frm tg (λ_=>False) W W1 tg:=hW1▸Frm.alloc H.new _;obtain⟨u2,hu2⟩:∃u,I4 tg W1.heap.size (5*k+6)=u:=⟨_,rfl⟩;have f2:Frm tg (λ_=>False) W1 W2 u2:=hu2▸hW2▸Frm.make f1.new _ _;obtain⟨u3,hu3⟩:∃u,I4 u2 W2.heap.size (5*k+7)=u:=⟨_,rfl⟩;have f3:Frm u2 (λ_=>False) W2 W3 u3:=hu3▸hW3▸Frm.make f2.new _ _;obtain⟨u4,hu4⟩:∃u,I4 u3 W3.heap.size (5*k+8)=u:=⟨_,rfl⟩;have f4:Frm u3 (λ_=>False) W3 W4 u4:=hu4▸hW4▸Frm.make f3.new _ _;obtain⟨u5,hu5⟩:∃u,I4 u4 W4.heap.size (5*k+5)=u:=⟨_,rfl⟩;have f5:Frm u4 (λ_=>False) W4 W5 u5:=hu5▸hW5▸Frm.make f4.new _ _;have f6:Frm u5 (λ_=>False) W5 W6 u5:=hW6▸Frm.alloc f5.new _;have f16:=((((f1.trans f2).trans f3).trans f4).trans f5).trans f6;have b2:W2.heap[N+1]?=some (.cells #[.int .i64 z,.int .i64 f,.int .i64 (-1),.int .i64 (-1)] 61 (0,0)):=by rw[<- hW2,<- s1];exact World.alloc_heap_new W1 _
 have b3:W3.heap[N+2]?=some (.cells #[.int .i64 f] 3 (0,0)):=by rw[<- hW3,<- s2];exact World.alloc_heap_new W2 _
 have b4:W4.heap[N+3]?=some (.cells #[.string y] 9 (0,0)):=by rw[<- hW4,<- s3];exact World.alloc_heap_new W3 _
 have b5:W5.heap[N+4]?=some (.cells #[.string y,.int .i64 z,.int .i64 A,.int .i64 G,.int .i64 f,.slice (some ⟨N+1,0,none⟩) 1 1,.bool false,.slice (some ⟨N+2,0,none⟩) 1 1,.slice (some ⟨N+3,0,none⟩) 1 1,.slice none 0 0,.int .i64 0,.int .i64 0,.int .i64 0] 108 (0,0)):=by rw[<- hW5,<- s4];exact World.alloc_heap_new W4 _
 have b6:W6.heap[N+5]?=some (.cells #[.pointer (some ⟨N+4,0,none⟩)] 106 (0,0)):=by rw[<- hW6,<- s5];exact World.alloc_heap_new W5 _
 have r2:eU W2 R u2 (5*k+6) 61 4 _ _ _:=JE b2 rfl Z (by rw[<- hu2,s1];exact if_pos rfl);have r3:eU W3 R u3 (5*k+7) 3 1 _ _ _:=JE b3 rfl Z (by rw[<- hu3,s2];exact if_pos rfl);have r4:eU W4 R u4 (5*k+8) 9 1 _ _ _:=JE b4 rfl Z (by rw[<- hu4,s3];exact if_pos rfl);have hIt:jF W6 R u5 (its.map Itm.raw).length ⟨N+4,.slice (some ⟨N+1,0,none⟩) 1 1,.slice (some ⟨N+2,0,none⟩) 1 1,.slice (some ⟨N+3,0,none⟩) 1 1,.slice none 0 0⟩ (iw (y,z,A,G,f)).raw:=by
  rw[vX,hk];refine⟨(f6.lo (b:=N+4) Z (λh=>h)).trans b5,by show R<=N+4;omega,by show u5 (N+4)=_;rw[<- hu5,s4];exact if_pos rfl,?_,?_,?_,eU.nil⟩;exact(((r2.fr f3 (λh=>h)).fr f4 (λh=>h)).fr f5 (λh=>h)).fr f6 (λh=>h);exact((r3.fr f4 (λh=>h)).fr f5 (λh=>h)).fr f6 (λh=>h);exact(r4.fr f5 (λh=>h)).fr f6 (λh=>h)
 have hrow6:=H.rows.fr f16 (λh=>h);have X:gs.length=k:=by have:=H.len;simpa[hk]using this
 have H6:Hist W6 R u5 c (its.map Itm.raw) cc gs iv:=H.fr f16 λ_ _ h=>h;obtain⟨v',W7,tg2,hap,hv,_,F7,hv2⟩:=eU.app (P:=Tryz.prog) (T:=99) (ty:=99) Tryz.underlying99 aAo rfl rfl rfl rfl (by decide) f16.new hrow6 ⟨N+5,0,none⟩ 1 1 [.pointer (some ⟨N+4,0,none⟩)] rfl (λj u hj=>by
  cases j with
  |zero=>cases hj;simp[Addr.add,World.cell?,b6]
  |succ j=>cases hj) (λu hu=>by simp at hu;subst hu;rfl) Z (by decide) Z
 obtain⟨g7,c7,rfl⟩:=hv2 (by decide);obtain⟨W9,hup,H9,F9,F69⟩:=H.push f16 hIt F7 hv (λq hq=>by
  obtain⟨j,hj,rfl⟩:=vW.1 hq;exact hl j hj) (by show y.size<=maxLen;have:y.size<=1000:=hx.1;unfold maxLen;omega) (by rw[vX];omega)
 have f15:=(((f1.trans f2).trans f3).trans f4).trans f5;have H5:Hist W5 R u5 c (its.map Itm.raw) cc gs iv:=H.fr f15 λ_ _ h=>h;obtain⟨av,cv,hiv⟩:=H.rows.sl;have c5:W5.cell? ⟨c.hb,7,none⟩=some (.slice av gs.length cv):=by rw[<- hiv];exact H5.cell (j:=7) rfl
 have l6:=H6.lt;have hh7:W7.heap[c.hb]?=W6.heap[c.hb]?:=F7.lo l6.1 (by rw[H6.th];omega);have y7:W7.cell? ⟨c.hb,7,none⟩=some (.slice av gs.length cv):=by rw[<- hiv];simp only[World.cell?,hh7,H6.hc];rfl
 have z7:W7.frozen? ⟨c.hb,7,none⟩=false:=by simp only[World.frozen?,hh7,H6.hc];rfl
 rw[hiv,X]at hap;rw[X]at c5 y7;have hN7:N<W7.heap.size:=by have:=F7.chg.size;omega
 have bd:∀L:World,L.heap[N]?=some (.cells #[.int .i64 k1,.int .i64 f,.string y,.int .i64 z,.int .i64 A,.int .i64 G,.int .i64 f,.string lb,.string ot,.int .i64 ln] 59 (0,0))->L.cell? ⟨N,2,none⟩=some (.string y):=λL h=>by simp[World.cell?,h]
 have d1:W1.heap[N]?=some (.cells #[.int .i64 k1,.int .i64 f,.string y,.int .i64 z,.int .i64 A,.int .i64 G,.int .i64 f,.string lb,.string ot,.int .i64 ln] 59 (0,0)):=by rw[<- hW1,<- hN];exact World.alloc_heap_new W _
 have d6:=((((f2.trans f3).trans f4).trans f5).trans f6).lo (b:=N) Z (λh=>h);have t6:u5 N=0:=by
  rw[<- hu5,<- hu4,<- hu3,<- hu2,s1,s2,s3,s4];unfold I4;rw[if_neg Z,if_neg Z,if_neg Z,if_neg Z];exact H.new N Z
 have d7:W7.heap[N]?=W6.heap[N]?:=F7.lo Z (by rw[t6];omega);have x8:(W7.setCell ⟨c.hb,7,none⟩ (.slice (some ⟨g7,0,none⟩) (gs.length+1) c7)).cell? ⟨c.hb,8,none⟩=some (.map (some c.nb)):=by
  have hc8:=heap_setCell_same W7 c.hb 7 (mN c iv) 101 (.slice (some ⟨g7,0,none⟩) (gs.length+1) c7) (hh7.trans H6.hc);simp only[World.cell?,hc8];rfl
 have hNh:N≠c.hb:=by have:=H.lt.1;omega
 have xl:(W7.setCell ⟨c.hb,7,none⟩ (.slice (some ⟨g7,0,none⟩) (gs.length+1) c7)).cell? ⟨N,2,none⟩=some (.string y):=bd _ ((Below.heap_setCell _ _ _ _ hNh).trans (d7.trans (d6.trans d1)));have db:∀L:World,L.heap[N]?=some (.cells #[.int .i64 k1,.int .i64 f,.string y,.int .i64 z,.int .i64 A,.int .i64 G,.int .i64 f,.string lb,.string ot,.int .i64 ln] 59 (0,0))->L.cell? ⟨N,3,none⟩=some (.int .i64 z)/\L.cell? ⟨N,4,none⟩=some (.int .i64 A)/\L.cell? ⟨N,5,none⟩=some (.int .i64 G)/\L.cell? ⟨N,6,none⟩=some (.int .i64 f):=λL h=>by simp[World.cell?,h]
 have p2:=bd _ d1;obtain⟨p3,p4,p5,p6⟩:=db _ d1;have d2:=(f2.lo (b:=N) Z (λh=>h)).trans d1;have d3:=(f3.lo (b:=N) Z (λh=>h)).trans d2;obtain⟨_,_,_,q6⟩:=db _ d2;have q2:=bd _ d3;have yl:W9.cell? ⟨N,2,none⟩=some (.string y):=bd _ ((F69.lo (b:=N) Z (by rw[t6];unfold Bh;omega)).trans (d6.trans d1));have y8:W9.cell? ⟨c.hb,8,none⟩=some (.map (some c.nb)):=H9.cell (j:=8) rfl;obtain⟨W8,hW8⟩:∃W8,W7.setCell ⟨c.hb,7,none⟩ (.slice (some ⟨g7,0,none⟩) (gs.length+1) c7)=W8:=⟨_,rfl⟩;rw[hW8]at hup x8 xl;rw[X]at hW8 hv;change (Instr.mapUpdate 97 (.map (some c.nb)) (.string y) (.pointer (some ⟨N+4,0,none⟩))).run Tryz.prog W8.drew=.ok () W9 at hup;clear H5 b2 b3 b4 b5 b6 r2 r3 r4 f1 f2 f3 f4 f5 f6 f15 hIt hrow6 bd db d1 d2 d3 d6 d7;unfold aU;dsimp only
 go_enter Tryz.func102,Tryz.ntmps102
 go_wp2_with (first
  |(at_builtin;refine Lib.wpList_append_run _ rfl _ _ _ _ rfl _ _ rfl rfl _ _ hap ?_))
 go_region_held3 (λL=>L.cell? ⟨c.hb,8,none⟩=some (.map (some c.nb))/\L.cell? ⟨N,2,none⟩=some (.string y)) (go_keep) (fail)
 have ha:(its++[iw (y,z,A,G,f)])[its.length]?=some (iw (y,z,A,G,f)):=by simp
 have hga:(gs++[(⟨N+4,.slice (some ⟨N+1,0,none⟩) 1 1,.slice (some ⟨N+2,0,none⟩) 1 1,.slice (some ⟨N+3,0,none⟩) 1 1,.slice none 0 0⟩:Gh)])[its.length]?=some ⟨N+4,.slice (some ⟨N+1,0,none⟩) 1 1,.slice (some ⟨N+2,0,none⟩) 1 1,.slice (some ⟨N+3,0,none⟩) 1 1,.slice none 0 0⟩:=by rw[hk,<- X];simp
 have ok:OkI d m (its++[iw (y,z,A,G,f)]) (iw (y,z,A,G,f)):=
  ⟨hx.2.1,by show 0<=f/\f<=_;omega,ht,⟨qN 0,by show(0:Int)<=m;omega⟩,wK _,wK _,wK _,wK _,⟨iw (y,z,A,G,f),by simp,rfl⟩,hx.2.2,hx.1⟩
 have H9':Hist W9 R tg2 c ((its++[iw (y,z,A,G,f)]).map Itm.raw) cc (gs++[⟨N+4,.slice (some ⟨N+1,0,none⟩) 1 1,.slice (some ⟨N+2,0,none⟩) 1 1,.slice (some ⟨N+3,0,none⟩) 1 1,.slice none 0 0⟩]) (.slice (some ⟨g7,0,none⟩) (gs.length+1) c7):=by rw[zS];exact H9
 have hd:=aC7 E H9' (cT H.low H.RW hB F9 (by unfold Bh;omega)) hga ha ok hm (λj hj=>by
  rcases qI.1 hj with h|h;exact hz j h;rw[qX.1 h];exact⟨hx.1,hx.2.2⟩)
 rw[show(its++[iw (y,z,A,G,f)]).set its.length (jj d cc (iy (its++[iw (y,z,A,G,f)]) (iw (y,z,A,G,f)).lb) (iw (y,z,A,G,f)))=its++[jj d cc (iy (its++[iw (y,z,A,G,f)]) y) (iw (y,z,A,G,f))] by rw[List.set_append,if_neg Z,qAg];rfl]at hd
 go_wp2_with (first
  |(go_at_call 109;refine hd.mono ?_;rintro e L ⟨rfl,F10,H10⟩))
 go_end0
 exact⟨rfl,_,_,_,F9.trans (F10.sub λt h=>by unfold Bh;have:=h.1;omega),H10⟩
end Go.Eng.Top
namespace Go.Eng.Top
open Go.Proofs Go.RowKit
def aA0(a:Addr)(v:Value):Option (DataW Unit×List MemPlace):=match v with
 |.func (.func f) b c=>(match b.toList,c.toList with
  |[.pointer (some q)],[]=>if q=a then some (.lit (.int .i64 f),[])else none|_,_=>none)
 |.nilFunc=>some (.lit (.int .i64 (-1)),[])|_=>none
def X8{a:Addr}{v:Value}{f:Nat}{ps:List MemPlace}(h:aA0 a v=some (.lit (.int .i64 f),ps)):v=.func (.func f) #[.pointer (some a)] #[]:=by
 unfold aA0 at h;split at h;rename_i g b c;split at h;rename_i q y u;split at h;rename_i e;subst e;simp only[vT,kL,DataW.lit.injEq,Lit.int.injEq,yE]at h;have j:g=f:=Int.ofNat.inj h.1;subst j;rw[show b=#[.pointer (some q)]from Array.toList_inj.1 y,show c=#[]from Array.toList_inj.1 u];cases h;cases h;simp at h;cases h
def aBs(W:World)(M:Nat)(a:Addr):Prop:=∃D:DataW Unit,W.ownsMap Tryz.prog 3 (aA0 a) M 5 D/\Maps.IsMap D/\∀k:Nat,1<=k->k<=5->D.atKey (.int .i64 k) (.lit (.int .i64 (-1)))=.lit (.int .i64 (101+k))
def qy{W:World}{M n:Nat}{a:Addr}{D:DataW Unit}(h:W.ownsMap Tryz.prog 3 (aA0 a) M n D)(y:n<10){k:Int}(u:(Lit.int .i64 k).wf=true)(f:Nat):
  ∃j,(Instr.mapUpdate 102 (.map (some M)) (.int .i64 k) (.func (.func f) #[.pointer (some a)] #[])).run Tryz.prog W=.ok () j/\j.ownsMap Tryz.prog 3 (aA0 a) M (n+1) (D.put (.int .i64 k) (.lit (.int .i64 f)))/\W.grownBy j (some M):=
 h.update (Maps.int_keyed Tryz.underlying3) Tryz.underlying102 (by unfold maxLen;omega) (Maps.keyOf_int_mk Tryz.underlying3 u) (d:=.lit (.int .i64 f)) (ps:=[]) (by simp only[aA0,kE])
set_option maxRecDepth 100000 in
set_option maxHeartbeats 4000000 in
def TS(W:World)(a:Addr):Calls Tryz.prog 40 #[.pointer (some a)] W λe f=>e=.returned (.map (some W.heap.size))/\aBs f W.heap.size a/\Below W.heap.size W f:=by
 have hmm:=@run_makeMap Tryz.prog;have g0:(W.alloc (.map #[] 0)).ownsMap Tryz.prog 3 (aA0 a) W.heap.size 0 (.map []):=World.ownsMap_made W _ _ _;obtain⟨W1,r1,g1,c1⟩:=qy g0 Z (k:=1) rfl 102;obtain⟨W2,r2,g2,c2⟩:=qy g1 Z (k:=2) rfl 103;obtain⟨W3,r3,X,c3⟩:=qy g2 Z (k:=3) rfl 104;obtain⟨W4,r4,L,c4⟩:=qy X Z (k:=4) rfl 105;obtain⟨W5,r5,G,c5⟩:=qy L Z (k:=5) rfl 106;obtain⟨M,A⟩:∃M,W.heap.size=M:=⟨_,rfl⟩;have hB:Below W.heap.size W W5:=by
  have b0:Below W.heap.size W (W.alloc (.map #[] 0)):=(Below.refl _ W).alloc (qL _) _;have b1:=b0.grown c1 b0.size (λk e=>by cases e;exact qL _);have b2:=b1.grown c2 b1.size (λk e=>by cases e;exact qL _);have b3:=b2.grown c3 b2.size (λk e=>by cases e;exact qL _);have b4:=b3.grown c4 b3.size (λk e=>by cases e;exact qL _);exact b4.grown c5 b4.size (λk e=>by cases e;exact qL _)
 have z:Maps.IsMap (DataW.map []:DataW Unit):=⟨_,rfl⟩;have y:=z.put (.int .i64 1) (.lit (.int .i64 (102:Nat)));have u:=y.put (.int .i64 2) (.lit (.int .i64 (103:Nat)));have j:=u.put (.int .i64 3) (.lit (.int .i64 (104:Nat)));have h:=j.put (.int .i64 4) (.lit (.int .i64 (105:Nat)));have hA:aBs W5 W.heap.size a:=by
  refine⟨_,G,h.put _ _,λk h1 h2=>?_⟩;rcases(by omega:k=1\/k=2\/k=3\/k=4\/k=5)with rfl|rfl|rfl|rfl|rfl
  rw[Maps.atKey_put_other (by simp),Maps.atKey_put_other (by simp),Maps.atKey_put_other (by simp),Maps.atKey_put_other (by simp)];exact Maps.atKey_put_same z (by simp[WideAt.IsKeyLit]) _ _;rw[Maps.atKey_put_other (by simp),Maps.atKey_put_other (by simp),Maps.atKey_put_other (by simp)];exact Maps.atKey_put_same y (by simp[WideAt.IsKeyLit]) _ _;rw[Maps.atKey_put_other (by simp),Maps.atKey_put_other (by simp)];exact Maps.atKey_put_same u (by simp[WideAt.IsKeyLit]) _ _;rw[Maps.atKey_put_other (by simp)];exact Maps.atKey_put_same j (by simp[WideAt.IsKeyLit]) _ _;exact Maps.atKey_put_same h (by simp[WideAt.IsKeyLit]) _ _
 rw[A]at r1 r2 r3 r4 r5;clear g0 g1 g2 X L G c1 c2 c3 c4 c5
 go_enter Tryz.func40,Tryz.ntmps40
 go_wp2
 go_ret
 exact⟨by rw[A];rfl,hA,hB⟩
def X7{W:World}{M:Nat}{a:Addr}(h:aBs W M a){k:Nat}(y:1<=k)(u:k<=5):(Instr.lookup 102 (.map (some M)) (.int .i64 k) false).run Tryz.prog W=.ok (.func (.func (101+k)) #[.pointer (some a)] #[]) W:=by
 obtain⟨D,g,_,j⟩:=h;obtain⟨v,A,e,f⟩:=g.lookup (Maps.int_keyed Tryz.underlying3) Tryz.underlying102 (e:=105) (z:=.nilFunc) (zd:=.lit (.int .i64 (-1))) (zp:=[]) (Tryz.zeroValue105 _) rfl (key:=.int .i64 k) (Maps.keyOf_int_mk Tryz.underlying3 (by
  rcases(by omega:k=1\/k=2\/k=3\/k=4\/k=5)with rfl|rfl|rfl|rfl|rfl<;>rfl))
 rw[j k y u]at f;rw[e,X8 f]
def inP(ps:List ByteArray)(s:ByteArray):Bool:=ps.any λx=>decide (x=s)
def SJ{ps:List ByteArray}{s:ByteArray}:inP ps s=true↔s∈ps:=by
 unfold inP;rw[xO];exact⟨λ⟨x,f,h⟩=>vO h▸f,λh=>⟨s,h,qR rfl⟩⟩
def PM(W:World)(M:Nat)(ps:List ByteArray):Prop:=∃D:DataW Unit,W.ownsMap Tryz.prog 9 (plainElem Tryz.prog 4) M ps.length D/\Maps.IsMap D/\∀s:ByteArray,D.atKey (aAc s) (.lit (.bool false))=.lit (.bool (inP ps s))
variable {W W':World}{M p q b0:Nat}{ps:List ByteArray}{e:bZ}{lab:ByteArray->Bool}
def PM.same(h:PM W M ps)(e:W'.heap[M]?=W.heap[M]?):PM W' M ps:=by
 obtain⟨D,j,f⟩:=h;exact⟨D,dw j e,f⟩
def PM.lt(h:PM W M ps):M<W.heap.size:=by
 obtain⟨D,f,_⟩:=h;exact f.lt
def PM.look(h:PM W M ps){s:ByteArray}(A:s.size<=1000):(Instr.lookup 169 (.map (some M)) (.string s) false).run Tryz.prog W=.ok (.bool (inP ps s)) W:=by
 obtain⟨D,u,_,j⟩:=h;obtain⟨v,y,e,f⟩:=u.lookup (Maps.string_keyed Tryz.underlying9) Tryz.underlying169 (e:=4) (z:=.bool false) (zd:=.lit (.bool false)) (zp:=[]) (Tryz.zeroValue4 _) (plainElem_bool Tryz.underlying4 _) (key:=.string s) (WideMaps.keyOf_string_mk Tryz.underlying9 (by unfold maxLen;omega));rw[show D.atKey (Lit.string s.data.toList) (.lit (.bool false))=_ from j s]at f;rw[e,Ik Tryz.underlying4 f]
def PM.put(h:PM W M ps){s:ByteArray}(X:s.size<=1000)(hn:ps.length<1000):∃f,(Instr.mapUpdate 169 (.map (some M)) (.string s) (.bool true)).run Tryz.prog W=.ok () f/\PM f M (ps++[s])/\W.grownBy f (some M):=by
 obtain⟨D,G,j,A⟩:=h;obtain⟨f,u,y,z⟩:=G.update (Maps.string_keyed Tryz.underlying9) Tryz.underlying169 (e:=4) (by unfold maxLen;omega) (key:=.string s) (val:=.bool true) (WideMaps.keyOf_string_mk Tryz.underlying9 (by unfold maxLen;omega)) (plainElem_bool Tryz.underlying4 _);refine⟨f,u,⟨_,by rw[qG];exact y,j.put _ _,λx=>?_⟩,z⟩;by_cases e:x=s;subst e;rw[show(Lit.string x.data.toList)=aAc x from rfl,Maps.atKey_put_same j (by simp[WideAt.IsKeyLit,aAc])];simp[inP];rw[Maps.atKey_put_other (by
  intro h;apply e;unfold aAc at h;have:=Lit.string.inj h;cases x;cases s;simp_all),A x]
 have L:¬s=x:=λh=>e h.symm;simp[inP,L]
set_option maxRecDepth 100000 in
def TR(W:World){a b:Int}(j:0<=a)(h:a<b):Calls Tryz.prog 96 #[.int .i64 a,.int .i64 b] W λe f=>e=.returned (.bool true)/\f=W:=by
 have y:decide (a≥0)=true:=qR j;have u:decide (a<b)=true:=qR h
 go_enter Tryz.func96,Tryz.ntmps96
 go_wp2
 go_ret
 exact⟨rfl,rfl⟩
set_option maxRecDepth 100000 in
def TQ(y:W.cell? ⟨p,0,none⟩=some (.map (some M)))(hm:PM W M ps)(hz:e.2.2.2.1.size<=1000):Calls Tryz.prog 97 #[.agg (aU e),.pointer (some ⟨p,0,none⟩)] W λe' w'=>e'=.returned (.bool (inP ps e.2.2.2.1))/\Below W.heap.size W w':=by
 obtain⟨k1,G,⟨X,pf,L,pc,pa⟩,u,ot,ln⟩:=e;obtain⟨j,f⟩:∃j,W.alloc (.cells (aU (k1,G,(X,pf,L,pc,pa),u,ot,ln)) 59)=j:=⟨_,rfl⟩;have b1:j.heap[W.heap.size]?=some (.cells (aU (k1,G,(X,pf,L,pc,pa),u,ot,ln)) 59 (0,0)):=by rw[<- f];exact World.alloc_heap_new W _
 have A:Below W.heap.size W j:=f▸(Below.refl _ W).alloc (qL _) _;have l1:j.cell? ⟨W.heap.size,7,none⟩=some (.string u):=by simp[World.cell?,b1,aU]
 have z:p<W.heap.size:=by
  unfold World.cell? at y;cases h:W.heap[p]? with
  |none=>simp[h]at y|some o=>exact(qJ.1 h).1
 have hp1:j.cell? ⟨p,0,none⟩=some (.map (some M)):=(A.cell (p:=⟨p,0,none⟩) z).trans y;have hk:=(hm.same (A.block M hm.lt)).look (s:=u) hz;unfold aU;unfold aU at f
 go_enter Tryz.func97,Tryz.ntmps97
 go_wp2
 go_ret
 exact⟨rfl,A⟩
def PM.blk(h:PM W M ps):∃o:Obj,W.heap[M]?=some o/\o.isCells=false:=by
 obtain⟨D,⟨es,f,j,_⟩,_⟩:=h;exact⟨_,j,rfl⟩
def PM.len(h:PM W M ps):∃k:Nat,k<=ps.length/\(Builtin.len_ #[169] 3 #[.map (some M)]).run Tryz.prog W=.ok (.int .i64 k) W:=by
 obtain⟨D,f,_⟩:=h;exact⟨_,f.size_le,f.len Tryz.underlying169 3⟩
def cell_lt{W:World}{a:Addr}{v:Value}(h:W.cell? a=some v):a.block<W.heap.size:=by
 unfold World.cell? at h;cases e:W.heap[a.block]? with
 |none=>simp[e]at h|some o=>exact(qJ.1 e).1
def jE{W V:World}(f:Below W.heap.size W V){a:Addr}{v:Value}(h:W.cell? a=some v):V.cell? a=some v:=(f.cell (p:=a) (cell_lt h)).trans h
set_option maxRecDepth 100000 in
def aAR(hp:W.cell? ⟨p,0,none⟩=some (.map (some M)))(hm:PM W M ps)(hq:W.cell? ⟨q,0,none⟩=some (.func (.func 96) #[] #[])){a3 a5:Option Addr}{l3 l5 c3 c5:Nat}
 (h3:W.cell? ⟨b0,3,none⟩=some (.slice a3 l3 c3)) (h5:W.cell? ⟨b0,5,none⟩=some (.slice a5 l5 c5))
 (hl:∀(W':World) (s:ByteArray),s.size<=1000->Calls Tryz.prog 99 #[.string s] W' λe w'=>e=.returned (.bool (lab s))/\Below W'.heap.size W' w') (hz:e.2.2.1.1.size<=1000)
 (e1:lab e.2.2.1.1=true) (e2:inP ps e.2.2.1.1=false) (e3:ps.length<60) (e4:e.2.2.1.2.2.2.2=e.2.1) (e5:0<=e.2.2.1.2.1/\e.2.2.1.2.1<l3) (e6:0<=e.2.2.1.2.2.1/\e.2.2.1.2.2.1<l3) (e7:0<=e.2.2.1.2.2.2.1/\e.2.2.1.2.2.2.1<l5):
 Calls Tryz.prog 98 #[.agg (aU e),.pointer (some ⟨p,0,none⟩),.pointer (some ⟨q,0,none⟩),.pointer (some ⟨b0,0,none⟩)] W λe' w'=>e'=.returned (.bool true)/\PM w' M (ps++[e.2.2.1.1])/\Chg (·=M) W w':=by
 obtain⟨k1,t1,⟨u,G,A,L,y⟩,lb,ot,ln⟩:=e;dsimp only at *;subst e4;obtain⟨f,hW1⟩:∃f,W.alloc (.cells (aU (k1,y,(u,G,A,L,y),lb,ot,ln)) 59)=f:=⟨_,rfl⟩;have b1:f.heap[W.heap.size]?=some (.cells (aU (k1,y,(u,G,A,L,y),lb,ot,ln)) 59 (0,0)):=by rw[<- hW1];exact World.alloc_heap_new W _
 have B1:Below W.heap.size W f:=hW1▸(Below.refl _ W).alloc (qL _) _;have l1:f.cell? ⟨W.heap.size,1,none⟩=some (.int .i64 y):=by simp[World.cell?,b1,aU]
 have l2:f.cell? ⟨W.heap.size,2,none⟩=some (.string u):=by simp[World.cell?,b1,aU]
 have l3':f.cell? ⟨W.heap.size,3,none⟩=some (.int .i64 G):=by simp[World.cell?,b1,aU]
 have l4:f.cell? ⟨W.heap.size,4,none⟩=some (.int .i64 A):=by simp[World.cell?,b1,aU]
 have l5':f.cell? ⟨W.heap.size,5,none⟩=some (.int .i64 L):=by simp[World.cell?,b1,aU]
 have l6:f.cell? ⟨W.heap.size,6,none⟩=some (.int .i64 y):=by simp[World.cell?,b1,aU]
 have z1:f.heap.size=W.heap.size+1:=by rw[<- hW1];simp
 have fx:∀V:World,Below (f.alloc (.cells #[.string u,.int .i64 G,.int .i64 A,.int .i64 L,.int .i64 y] 52)).heap.size (f.alloc (.cells #[.string u,.int .i64 G,.int .i64 A,.int .i64 L,.int .i64 y] 52)) V->
   (V.cell? ⟨W.heap.size+1,0,none⟩=some (.string u)/\V.cell? ⟨W.heap.size+1,4,none⟩=some (.int .i64 y)/\V.cell? ⟨W.heap.size,1,none⟩=some (.int .i64 y)/\V.cell? ⟨p,0,none⟩=some (.map (some M))/\
   (Instr.lookup 169 (.map (some M)) (.string u) false).run Tryz.prog V=.ok (.bool false) V/\∃k:Nat,(Builtin.len_ #[169] 3 #[.map (some M)]).run Tryz.prog V=.ok (.int .i64 k) V/\decide ((k:Int)≥60)=false)/\
   ∃j,(Instr.mapUpdate 169 (.map (some M)) (.string u) (.bool true)).run Tryz.prog V=.ok () j/\PM j M (ps++[u])/\Chg (·=M) W j/\j.cell? ⟨W.heap.size+1,1,none⟩=some (.int .i64 G)/\j.cell? ⟨W.heap.size+1,2,none⟩=some (.int .i64 A)/\j.cell? ⟨W.heap.size+1,3,none⟩=some (.int .i64 L)/\
   j.cell? ⟨q,0,none⟩=some (.func (.func 96) #[] #[])/\j.cell? ⟨b0,3,none⟩=some (.slice a3 l3 c3)/\j.cell? ⟨b0,5,none⟩=some (.slice a5 l5 c5):=λV hV=>by
  have B2:=hV;rw[qH,z1]at B2;have z:Below W.heap.size W V:=(B1.alloc Z _).trans (B2.mono Z);have nw:V.heap[f.heap.size]?=some (.cells #[.string u,.int .i64 G,.int .i64 A,.int .i64 L,.int .i64 y] 52 (0,0)):=(B2.block _ Z).trans (World.alloc_heap_new f _);rw[z1]at nw;have b2:V.heap[W.heap.size]?=f.heap[W.heap.size]?:=(B2.block _ Z).trans (Below.heap_alloc _ _ _ Z);rw[b1]at b2;have X:=hm.same (z.block M hm.lt);have hk:=X.look hz;rw[e2]at hk;obtain⟨k,hk1,hk2⟩:=X.len;obtain⟨j,u1,u2,u3⟩:=X.put hz Z;have ck:∀{a:Addr}{v:Value},V.cell? a=some v->j.cell? a=some v:=λh=>cell_kept h u3 (λr e=>by cases e;exact X.blk);exact⟨⟨by simp[World.cell?,nw],by simp[World.cell?,nw],by simp[World.cell?,b2,aU],jE z hp,hk,k,hk2,qY Z⟩,j,u1,u2,
   ⟨u3.os.trans z.os,u3.tape.trans z.tape,u3.output.trans z.output,vP z.size u3.size,λb hb hno=>(u3.block b (qK hb z.size) (λe=>hno (by cases e;rfl))).trans (z.block b hb)⟩,
   ck (by simp[World.cell?,nw]),ck (by simp[World.cell?,nw]),ck (by simp[World.cell?,nw]),ck (jE z hq),ck (jE z h3),ck (jE z h5)⟩
 have d1:decide (G≥0)=true:=qR e5.1;have d2:decide (G<l3)=true:=qR e5.2;have d3:decide (A≥0)=true:=qR e6.1;have d4:decide (A<l3)=true:=qR e6.2;have d5:decide (L≥0)=true:=qR e7.1;have d6:decide (L<l5)=true:=qR e7.2;unfold aU;unfold aU at hW1
 go_enter Tryz.func98,Tryz.ntmps98
 obtain⟨f1,f2⟩:=e5;obtain⟨f3,f4⟩:=e6;obtain⟨f5,f6⟩:=e7
 go_wp2_with (first
  |(go_at_call_of 99 (Value.string u);refine(hl _ _ hz).mono ?_;rintro e w' ⟨rfl,hB⟩;obtain⟨⟨x0,x4,y1,y2,hk,k,hlen,hd⟩,j,u1,u2,u3,x1,x2,x3,y3,y4,y5⟩:=fx _ hB)
  |(refine(TR _ (by assumption) (by assumption)).mono ?_;rintro e w' ⟨rfl,hw⟩;subst hw))
 go_ret
 exact⟨rfl,u2,u3⟩
def CL{s:ByteArray}(h:s∈ps):inP ps s=true:=SJ.2 h
set_option maxRecDepth 100000 in
def aAQ(hp:W.cell? ⟨p,0,none⟩=some (.map (some M)))(hm:PM W M ps)(hq:W.cell? ⟨q,0,none⟩=some (.func (.func 97) #[] #[.pointer (some ⟨p,0,none⟩)]))
 (hz:e.2.2.2.1.size<=1000) (hz2:e.2.2.2.2.1.size<=1000) (e1:e.2.2.2.1∈ps) (e2:e.2.2.2.2.1∈ps) (e3:e.2.2.2.1≠e.2.2.2.2.1):
 Calls Tryz.prog 100 #[.agg (aU e),.pointer (some ⟨q,0,none⟩),.pointer (some ⟨p,0,none⟩)] W λe' w'=>e'=.returned (.bool true)/\Below W.heap.size W w':=by
 obtain⟨k1,t1,⟨pl,pf,pt,pc,pa⟩,L,A,ln⟩:=e;dsimp only at *;obtain⟨z,y⟩:∃z,W.alloc (.cells (aU (k1,t1,(pl,pf,pt,pc,pa),L,A,ln)) 59)=z:=⟨_,rfl⟩;have b1:z.heap[W.heap.size]?=some (.cells (aU (k1,t1,(pl,pf,pt,pc,pa),L,A,ln)) 59 (0,0)):=by rw[<- y];exact World.alloc_heap_new W _
 have B1:Below W.heap.size W z:=y▸(Below.refl _ W).alloc (qL _) _;have z1:z.heap.size=W.heap.size+1:=by rw[<- y];simp
 have G:=hm.same (B1.block M hm.lt);have X:=jE B1 hp;have hq1:=jE B1 hq;have cn:=TQ (e:=(k1,t1,(pl,pf,pt,pc,pa),L,A,ln)) X G hz;rw[show inP ps _=true from CL e1]at cn;have fx:∀V:World,Below z.heap.size z V->Below W.heap.size W V/\V.cell? ⟨p,0,none⟩=some (.map (some M))/\V.cell? ⟨W.heap.size,7,none⟩=some (.string L)/\V.cell? ⟨W.heap.size,8,none⟩=some (.string A)/\
   (Instr.lookup 169 (.map (some M)) (.string A) false).run Tryz.prog V=.ok (.bool true) V:=λV hV=>by
  have b2:V.heap[W.heap.size]?=z.heap[W.heap.size]?:=hV.block _ Z;rw[b1]at b2;have hk:=(G.same (hV.block M G.lt)).look hz2;rw[CL e2]at hk;exact⟨B1.trans (hV.mono Z),jE hV X,by simp[World.cell?,b2,aU],by simp[World.cell?,b2,aU],hk⟩
 have f:∀(j:Nat) (u:Value),(aU (k1,t1,(pl,pf,pt,pc,pa),L,A,ln))[j]?=some u->z.cell? ⟨W.heap.size,j,none⟩=some u:=λj u h=>by simp[World.cell?,b1,h]
 have m0:=f 0 _ rfl;have m1:=f 1 _ rfl;have m2:=f 2 _ rfl;have m3:=f 3 _ rfl;have m4:=f 4 _ rfl;have m5:=f 5 _ rfl;have m6:=f 6 _ rfl;have m7:=f 7 _ rfl;have m8:=f 8 _ rfl;have m9:=f 9 _ rfl;unfold aU;unfold aU at y cn
 go_enter Tryz.func100,Tryz.ntmps100
 go_wp2_with (refine cn.mono ?_;rintro e w' ⟨rfl,hB⟩;obtain⟨B3,x0,x4,y1,y2⟩:=fx _ hB)
 go_ret
 exact⟨by simp[show ¬L.toList=A.toList from λh=>e3 (str_inj (by rwa [ByteArray.toList_eq,ByteArray.toList_eq]at h))],B3⟩
set_option maxRecDepth 100000 in
def TP(hq:W.cell? ⟨q,0,none⟩=some (.func (.func 96) #[] #[])){a4:Option Addr}{l4 c4:Nat}(h4:W.cell? ⟨b0,4,none⟩=some (.slice a4 l4 c4))(e1:0<=e.2.2.2.2.2)(e2:e.2.2.2.2.2<l4):
 Calls Tryz.prog 101 #[.agg (aU e),.pointer (some ⟨q,0,none⟩),.pointer (some ⟨b0,0,none⟩)] W λe' y=>e'=.returned (.bool true)/\Below W.heap.size W y:=by
 obtain⟨k1,z,⟨G,L,A,X,pa⟩,lb,ot,j⟩:=e;dsimp only at *;obtain⟨h,f⟩:∃h,W.alloc (.cells (aU (k1,z,(G,L,A,X,pa),lb,ot,j)) 59)=h:=⟨_,rfl⟩;have b1:h.heap[W.heap.size]?=some (.cells (aU (k1,z,(G,L,A,X,pa),lb,ot,j)) 59 (0,0)):=by rw[<- f];exact World.alloc_heap_new W _
 have u:Below W.heap.size W h:=f▸(Below.refl _ W).alloc (qL _) _;have hq1:=jE u hq;have h41:=jE u h4;have l9:h.cell? ⟨W.heap.size,9,none⟩=some (.int .i64 j):=by simp[World.cell?,b1,aU]
 unfold aU;unfold aU at f
 go_enter Tryz.func101,Tryz.ntmps101
 go_wp2_with (refine(TR _ (by assumption) (by assumption)).mono ?_;rintro e y ⟨rfl,hw⟩;subst hw)
 go_ret
 exact⟨rfl,u⟩
end Go.Eng.Top
namespace Go.Eng.Top
open Go.Proofs Go.RowKit
variable {W W':World} {M p q b0:Nat} {ps:List ByteArray} {e:bZ} {lab:ByteArray->Bool}
def nxP(ps:List ByteArray)(e:bZ):List ByteArray:=if e.1=1 then ps++[e.2.2.1.1]else ps
def okW(lab:ByteArray->Bool)(h u j:Nat)(ps:List ByteArray)(f:Int)(e:bZ):Prop:=f<=e.2.1/\e.2.1<=1000000/\
 ((e.1=1/\lab e.2.2.1.1=true/\e.2.2.1.1∉ps/\ps.length<60/\e.2.2.1.2.2.2.2=e.2.1/\(0<=e.2.2.1.2.1/\e.2.2.1.2.1<h)/\(0<=e.2.2.1.2.2.1/\e.2.2.1.2.2.1<h)/\(0<=e.2.2.1.2.2.2.1/\e.2.2.1.2.2.2.1<j))\/
  ((e.1=2\/e.1=3)/\e.2.2.2.1∈ps)\/(e.1=4/\e.2.2.2.1∈ps/\e.2.2.2.2.1∈ps/\e.2.2.2.1≠e.2.2.2.2.1)\/(e.1=5/\0<=e.2.2.2.2.2/\e.2.2.2.2.2<u))
def CP(lab:ByteArray->Bool)(j h f:Nat):List ByteArray->Int->List bZ->Prop|_,_,[]=>True|ps,last,e::es=>okW lab j h f ps last e/\CP lab j h f (nxP ps e) e.2.1 es
noncomputable def fnR(h:Nat->Array Value)(v:Value):Option (DataW Unit×List MemPlace):=by
 classical
 exact match v with
 |.func (.func f) b c=>if b=#[]/\c=h f then some (.lit (.int .i64 f),[])else none|.nilFunc=>some (.lit (.int .i64 (-1)),[])|_=>none
def aCN(h:Nat->Array Value)(f:Nat):fnR h (.func (.func f) #[] (h f))=some (.lit (.int .i64 f),[]):=by
 unfold fnR;simp
def aAx{j:Nat->Array Value}{v:Value}{f:Nat}{xs:List MemPlace}(h:fnR j v=some (.lit (.int .i64 f),xs)):v=.func (.func f) #[] (j f):=by
 unfold fnR at h;split at h;rename_i g b c;split at h;rename_i e;obtain⟨rfl,rfl⟩:=e;simp only[vT,kL,DataW.lit.injEq,Lit.int.injEq,yE]at h;have u:g=f:=Int.ofNat.inj h.1;rw[u];cases h;simp at h;cases h
def lZ{W:World}{M n:Nat}{j:Nat->Array Value}{D:DataW Unit}(h:W.ownsMap Tryz.prog 3 (fnR j) M n D)(z:n<10){k:Int}(y:(Lit.int .i64 k).wf=true)(f:Nat):
  ∃u,(Instr.mapUpdate 171 (.map (some M)) (.int .i64 k) (.func (.func f) #[] (j f))).run Tryz.prog W=.ok () u/\u.ownsMap Tryz.prog 3 (fnR j) M (n+1) (D.put (.int .i64 k) (.lit (.int .i64 f)))/\W.grownBy u (some M):=
 h.update (Maps.int_keyed Tryz.underlying3) Tryz.underlying171 (by unfold maxLen;omega) (Maps.keyOf_int_mk Tryz.underlying3 y) (d:=.lit (.int .i64 f)) (ps:=[]) (aCN j f)
def yh(k:Nat):Nat:=if k=1 then 98 else if k=4 then 100 else if k=5 then 101 else 97
def XR(p q r b0:Nat)(f:Nat):Array Value:=if f=98 then #[.pointer (some ⟨p,0,none⟩),.pointer (some ⟨q,0,none⟩),.pointer (some ⟨b0,0,none⟩)]else if f=100 then #[.pointer (some ⟨r,0,none⟩),.pointer (some ⟨p,0,none⟩)]
 else if f=101 then #[.pointer (some ⟨q,0,none⟩),.pointer (some ⟨b0,0,none⟩)]else #[.pointer (some ⟨p,0,none⟩)]
def FH:DataW Unit:=(((((DataW.map []).put (.int .i64 1) (.lit (.int .i64 (98:Nat)))).put (.int .i64 2) (.lit (.int .i64 (97:Nat)))).put (.int .i64 3) (.lit (.int .i64 (97:Nat)))).put (.int .i64 4) (.lit (.int .i64 (100:Nat)))).put (.int .i64 5) (.lit (.int .i64 (101:Nat)))
def FG{k:Nat}(h:1<=k)(f:k<=5):FH.atKey (.int .i64 k) (.lit (.int .i64 (-1)))=.lit (.int .i64 (yh k:Nat))/\Maps.has FH (.int .i64 k)=true:=by
 rcases(by omega:k=1\/k=2\/k=3\/k=4\/k=5)with rfl|rfl|rfl|rfl|rfl<;>exact⟨by kernel_rfl,by kernel_rfl⟩
def QT{W:World}{M n:Nat}{f:Nat->Array Value}(h:W.ownsMap Tryz.prog 3 (fnR f) M n FH){k:Nat}(y:1<=k)(u:k<=5):
  (Instr.lookup 171 (.map (some M)) (.int .i64 k) true).run Tryz.prog W=.ok (.tuple #[.func (.func (yh k)) #[] (f (yh k)),.bool true]) W:=by
 obtain⟨v,A,e,j⟩:=h.look_ok (Maps.int_keyed Tryz.underlying3) Tryz.underlying171 (e:=170) (z:=.nilFunc) (zd:=.lit (.int .i64 (-1))) (zp:=[]) (Tryz.zeroValue170 _) rfl (key:=.int .i64 k) (Maps.keyOf_int_mk Tryz.underlying3 (by
  rcases(by omega:k=1\/k=2\/k=3\/k=4\/k=5)with rfl|rfl|rfl|rfl|rfl<;>rfl))
 rw[(FG y u).1]at j;rw[e,aAx j,(FG y u).2]
def aCZ{O:Nat->Prop}{W V:World}(h:Below W.heap.size W V):Chg O W V:=(Chg.refl _ _).below h
def aC1{r l3 l4 l5 c3 c4 c5 k:Nat}{a3 a4 a5:Option Addr}{z:Int}(X:W.cell? ⟨p,0,none⟩=some (.map (some M)))(hm:PM W M ps)(hq:W.cell? ⟨q,0,none⟩=some (.func (.func 96) #[] #[]))
 (hr:W.cell? ⟨r,0,none⟩=some (.func (.func 97) #[] #[.pointer (some ⟨p,0,none⟩)])) (h3:W.cell? ⟨b0,3,none⟩=some (.slice a3 l3 c3)) (h4:W.cell? ⟨b0,4,none⟩=some (.slice a4 l4 c4)) (h5:W.cell? ⟨b0,5,none⟩=some (.slice a5 l5 c5))
 (hl:∀(W':World) (s:ByteArray),s.size<=1000->Calls Tryz.prog 99 #[.string s] W' λe f=>e=.returned (.bool (lab s))/\Below W'.heap.size W' f) (hz:∀s,lab s=true->s.size<=1000) (y:∀s∈ps,s.size<=1000)
 (L:okW lab l3 l4 l5 ps z e) (hk:e.1=k):
 Calls Tryz.prog (yh k) (#[.agg (aU e)]++XR p q r b0 (yh k)) W λG f=>G=.returned (.bool true)/\PM f M (nxP ps e)/\Chg (·=M) W f:=by
 obtain⟨_,_,L⟩:=L;have bl:∀{f},nxP ps e=ps->Below W.heap.size W f->PM f M (nxP ps e)/\Chg (·=M) W f:=λ{f} h u=>⟨by rw[h];exact hm.same (u.block M hm.lt),aCZ u⟩;rcases L with⟨A,j,g2,g3,g4,g5,g6,g7⟩|⟨A,j⟩|⟨A,j,g2,g3⟩|⟨A,j,g2⟩;obtain rfl:k=1:=by omega
 unfold nxP;rw[if_pos A];exact aAR X hm hq h3 h5 hl (hz _ j) j (by rw[<- qAh,SJ];exact g2) g3 g4 g5 g6 g7;have e1:yh k=97:=by unfold yh;rw[if_neg Z,if_neg Z,if_neg Z]
 rw[e1];refine(TQ X hm (y _ j)).mono ?_;rintro G f ⟨rfl,u⟩;exact⟨by rw[CL j],bl (if_neg Z) u⟩;obtain rfl:k=4:=by omega
 refine(aAQ X hm hr (y _ j) (y _ g2) j g2 g3).mono ?_;rintro G f ⟨rfl,u⟩;exact⟨rfl,bl (if_neg Z) u⟩;obtain rfl:k=5:=by omega
 refine(TP hq h4 j g2).mono ?_;rintro G f ⟨rfl,u⟩;exact⟨rfl,bl (if_neg Z) u⟩
end Go.Eng.Top
namespace Go
open Go.RowKit
def aBa{σ:Type}(F:Fence)(n:Nat)(P:Program)(gf:Nat)(lb:Array Value)(encs:σ->Array Value)(ok:σ->Prop)(step:σ->σ)(rd:σ->World->Prop)(s0:σ)(fin:σ->Prop):Prop:=
 ∀(l:Nat) (J:σ->World->Prop) (Jx:World->Prop) (W:World),(∀s W1,J s W1->rd s W1)->(∀s W1 m,J s W1->J s (W1.drewN m))->
  (∀s W1,J s W1->ok s->YieldAt F (n-1) P l (encs s) W1 λe W'=>(e=.returned (.bool true)/\J (step s) W')\/(e=.returned (.bool false)/\Jx W'))->
  J s0 W->CallsIn F n P gf (#[.func (.yield l) #[] #[]]++lb) W λe W'=>(∃v,e=.returned v)/\((∃s,fin s/\J s W')\/Jx W')
variable {F:Fence}{n:Nat}{P:Program}
def aF3{σ:Type}(B:Nat)(I:σ->World->Prop)(Ix:Code->World->Prop)(s:σ)(W:World):Exit->Act->World->Prop|.normal,_,W'=>KeepsFrom B W W'/\I s W'|.ret,_,W'=>KeepsFrom B W W'/\Ix .ret W'|_,_,_=>False
def s9{σ:Type}{g:Operand}{ps:Array Tmp}{assign body:Code}{Q:Exit->Act->World->Prop}{a:Act}{w:World}
  (hro:F.round=none) (h1:1<=n) {gf:Nat}{lb:Array Value} (hg:a.eval g=.func (.func gf) #[] lb) (hF:F.fn gf) (eg:∀args w,(callFunc gf args).run P w=.ok (.enter gf args) w)
  {encs:σ->Array Value}{ok:σ->Prop}{step:σ->σ}{rd:σ->World->Prop}{s0:σ}{fin:σ->Prop} (hps:∀s,(encs s).size=ps.size)
  (I:σ->World->Prop) (Ix:Code->World->Prop) (hI:OwnFrom w.heap.size I) (hIx:OwnFrom w.heap.size Ix) (hrd:∀s W,I s W->rd s W) (hdr:∀s W m,I s W->I s (W.drewN m))
  (hit:aBa F (n-1) P gf lb encs ok step rd s0 fin) (h0:I s0 w) (a₁:σ->Act)
  (hassign:∀(l:Nat) (s:σ) (W:World) (K:Act->World->Prop),K (a₁ s) W->
   assign.wpIn (F.inRound l) (n-1-1) P (Exit.then K (λ_ _ _=>False)) {tmps:=(ps.zip (encs s)).foldl (λt (p,v)=>t.setIfInBounds p v) a.tmps,defers:=[]} W)
  (hbody:∀(l:Nat) (s:σ) (W:World),I s W->ok s->body.wpIn (F.inRound l) (n-1-1) P (aF3 w.heap.size I Ix (step s) W) (a₁ s) W)
  (hdone:∀(D:Nat) (s:σ) (W:World),w.heap.size<=D->fin s->I s W->W.heap[D]?=some (.deferred (some []))->Q .normal {a with defers:={target:=.collected D,args:=#[]}::a.defers} W)
  (hstop:∀(D:Nat) (W:World),w.heap.size<=D->Ix .ret W->W.heap[D]?=some (.deferred (some []))->Code.ret.wpIn F n P Q {a with defers:={target:=.collected D,args:=#[]}::a.defers} W):
  (Code.rangeFunc g ps assign body).wpIn F n P Q a w:=by
 refine wpIn_rangeFunc λfn hfn=>?_;rw[hro];generalize hrec:(λst pe=>({state:=st,pending:=pe,fn,tmps:=a.tmps,params:=ps,assign,body,defers:=w.heap.size}:Loop))=rec;have hp:∀st pe,(rec st pe).params=ps:=λst pe=>by rw[<- hrec]
 generalize hV:(w.alloc (.deferred (some []))).alloc (.loop (rec .ready none))=V;have sV:V.heap.size=w.heap.size+2:=by rw[<- hV];simp
 have vl:V.heap[w.heap.size+1]?=some (.loop (rec .ready none)):=by
  have:=World.alloc_heap_new (w.alloc (.deferred (some []))) (.loop (rec .ready none));rw[World.size_alloc]at this;rw[<- hV];exact this
 have vd:V.heap[w.heap.size]?=some (.deferred (some [])):=by rw[<- hV];exact(Below.heap_alloc _ _ _ (by simp)).trans (World.alloc_heap_new w _)
 refine⟨w.heap.size+1,[{target:=.collected w.heap.size,args:=#[]}],V,{target:=.fn (.func gf) lb,args:=#[.func (.yield (w.heap.size+1)) #[] #[]]},V,gf,#[.func (.yield (w.heap.size+1)) #[] #[]]++lb,V,?_,?_,?_,?_,λ_=>h1,?_⟩;rw[<- hV,<- hrec];exact run_enterLoop_outer _ _ _ _ _;simp only[resolve,hg];simp[go_sem];intro f' hf';simp[Target.leads]at hf';subst hf';exact hF;simp[invoke,go_sem,eg];have put:∀{s:σ}{W:World}{o:Obj} (o':Obj),I s W->W.heap[w.heap.size+1]?=some o->o.isCells=false->I s (W.putObj (w.heap.size+1) o'):=λo' h1 h2 h3=>hI.putObj o' h1 (by omega) h2 h3;have putx:∀{W:World}{o:Obj} (o':Obj),Ix .ret W->W.heap[w.heap.size+1]?=some o->o.isCells=false->Ix .ret (W.putObj (w.heap.size+1) o'):=λo' h1 h2 h3=>hIx.putObj o' h1 (by omega) h2 h3;have same:∀{W:World}{o:Obj} (o':Obj),W.heap[w.heap.size+1]?=some o->(W.putObj (w.heap.size+1) o').heap[w.heap.size+1]?=some o':=λo' h=>World.putObj_heap_same (Array.getElem?_eq_some_iff.1 h).1;have keep:∀{W:World}{o:Obj} (o':Obj),W.heap[w.heap.size]?=some o->(W.putObj (w.heap.size+1) o').heap[w.heap.size]?=some o:=λo' h=>(World.putObj_heap_other (by omega)).trans h;have hIV:I s0 V:=by rw[<- hV];exact hI.alloc _ (hI.alloc _ h0)
 refine(hit (w.heap.size+1) (λs W=>I s W/\W.heap[w.heap.size+1]?=some (.loop (rec .ready none))/\W.heap[w.heap.size]?=some (.deferred (some [])))
  (λW=>Ix .ret W/\W.heap[w.heap.size+1]?=some (.loop (rec .done (some .ret)))/\W.heap[w.heap.size]?=some (.deferred (some []))) V (λs W h=>hrd s W h.1) (λs W m h=>⟨hdr s W m h.1,h.2.1,h.2.2⟩) ?_ ⟨hIV,vl,vd⟩).mono ?_
 rintro s W ⟨hi,hl,hd⟩ hok;have hy:=run_yield (P:=P) (args:=encs s) hl (by rw[hp];exact hps s);rw[<- hrec]at hy;refine⟨fn,_,assign,body,hy,roundIn_of_wpIn hfn (hassign _ s W _ ⟨_,run_beginRound hl (by rw[<- hrec]),?_⟩)⟩;have b1:=same (.loop {rec .ready none with state:=.busy}) hl;have b2:=keep (.loop {rec .ready none with state:=.busy}) hd;refine wpIn_mono (hbody _ s _ (put _ hi hl rfl) hok) ?_;rintro e a3 W3 hq;cases e with
 |normal=>
  have l3:=hq.1.same _ _ (by omega) b1 rfl;have d3:=hq.1.same _ _ (Nat.le_refl _) b2 rfl;have hr:=run_endRound (P:=P) none l3;rw[<- hrec]at hr l3;rw[<- hrec];exact⟨_,_,hr,.inl ⟨rfl,put _ hq.2 l3 rfl,same _ l3,keep _ d3⟩⟩
 |ret=>
  have l3:=hq.1.same _ _ (by omega) b1 rfl;have d3:=hq.1.same _ _ (Nat.le_refl _) b2 rfl;have hr:=run_endRound (P:=P) (some .ret) l3;rw[<- hrec]at hr l3;rw[<- hrec];exact⟨_,_,hr,.inr ⟨rfl,putx _ hq.2 l3 rfl,same _ l3,keep _ d3⟩⟩
 |exit id=>exact hq.elim|goto t=>exact hq.elim|panic ch=>exact hq.elim|outgrown=>exact hq.elim
 rintro e W2 ⟨⟨v,rfl⟩,⟨s,hf,hi,hl,hd⟩|⟨hi,hl,hd⟩⟩;have hr:=run_endLoop (P:=P) hl (by rw[<- hrec];simp);rw[<- hrec]at hr;exact⟨none,_,hr,hdone _ s _ (Nat.le_refl _) hf (put _ hi hl rfl) (keep _ hd)⟩;have hr:=run_endLoop (P:=P) hl (by rw[<- hrec];simp);rw[<- hrec]at hr;exact⟨some .ret,_,hr,hstop _ _ (Nat.le_refl _) (putx _ hi hl rfl) (keep _ hd)⟩
def qz{σ:Type}{g:Operand}{p q:Tmp}{assign body:Code}{Q:Exit->Act->World->Prop}{a:Act}{w:World}
  (hro:F.round=none) (h1:1<=n) {gf:Nat}{lb:Array Value} (hg:a.eval g=.func (.func gf) #[] lb) (hF:F.fn gf) (eg:∀args w,(callFunc gf args).run P w=.ok (.enter gf args) w)
  {enc:σ->Value}{ok:σ->Prop}{step:σ->σ}{rd:σ->World->Prop}{s0:σ}{fin:σ->Prop}
  (I:σ->World->Prop) (Ix:Code->World->Prop) (hI:OwnFrom w.heap.size I) (hIx:OwnFrom w.heap.size Ix) (hrd:∀s W,I s W->rd s W) (hdr:∀s W m,I s W->I s (W.drewN m))
  (hit:aBa F (n-1) P gf lb (λs=>#[enc s]) ok step rd s0 fin) (h0:I s0 w)
  (hassign:∀(l:Nat) (v:Value) (W:World) (K:Act->World->Prop),K {tmps:=(a.tmps.setIfInBounds p v).setIfInBounds q v,defers:=[]} W->
   assign.wpIn (F.inRound l) (n-1-1) P (Exit.then K (λ_ _ _=>False)) {tmps:=a.tmps.setIfInBounds p v,defers:=[]} W)
  (hbody:∀(l:Nat) (s:σ) (W:World),I s W->ok s->body.wpIn (F.inRound l) (n-1-1) P (aF3 w.heap.size I Ix (step s) W) {tmps:=(a.tmps.setIfInBounds p (enc s)).setIfInBounds q (enc s),defers:=[]} W)
  (hdone:∀(D:Nat) (s:σ) (W:World),w.heap.size<=D->fin s->I s W->W.heap[D]?=some (.deferred (some []))->Q .normal {a with defers:={target:=.collected D,args:=#[]}::a.defers} W)
  (hstop:∀(D:Nat) (W:World),w.heap.size<=D->Ix .ret W->W.heap[D]?=some (.deferred (some []))->Code.ret.wpIn F n P Q {a with defers:={target:=.collected D,args:=#[]}::a.defers} W):
  (Code.rangeFunc g #[p] assign body).wpIn F n P Q a w:=
 s9 hro h1 hg hF eg (λ_=>rfl) I Ix hI hIx hrd hdr hit h0 (λs=>{tmps:=(a.tmps.setIfInBounds p (enc s)).setIfInBounds q (enc s),defers:=[]}) (λl s W K hK=>by simpa using hassign l (enc s) W K hK) hbody hdone hstop
end Go
namespace Go.Eng.Top
open Go.Proofs Go.RowKit
variable {W W':World} {M p q b0:Nat} {ps:List ByteArray} {e:bZ} {lab:ByteArray->Bool}
def aBr(W:World)(h:Option Addr)(ds:List bZ):Prop:=∀(k:Nat) (e:bZ),ds[k]?=some e->∃b f,h=some ⟨b,f,none⟩/\b<W.heap.size/\∀(j:Nat) (u:Value),(aU e)[j]?=some u->W.cell? ⟨b,f+k*10+j,none⟩=some u
set_option maxRecDepth 100000 in
set_option maxHeartbeats 4000000 in
def aC6{n0 n1 n2:Value}{a3 a4 a5 ad:Option Addr}{l3 l4 l5 c3 c4 c5 cd:Nat}{ds:List bZ}(hd:ds.length<=120)(hD:aBr W ad ds)
  (hl:∀(W':World) (s:ByteArray),s.size<=1000->Calls Tryz.prog 99 #[.string s] W' λe w'=>e=.returned (.bool (lab s))/\Below W'.heap.size W' w') (hz:∀s,lab s=true->s.size<=1000) (hf:CP lab l3 l4 l5 [] 0 ds):
  Calls Tryz.prog 39 #[.agg #[n0,n1,n2,.slice a3 l3 c3,.slice a4 l4 c4,.slice a5 l5 c5],.slice ad ds.length cd] W λe w'=>e=.returned (.bool true)/\Below W.heap.size W w':=by
 have hmm:=@run_makeMap Tryz.prog;have h120:decide ((ds.length:Int)>120)=false:=qY Z;obtain⟨N,hN⟩:∃N,W.heap.size=N:=⟨_,rfl⟩;obtain⟨V1,hV1⟩:∃V1,W.alloc (.cells #[n0,n1,n2,.slice a3 l3 c3,.slice a4 l4 c4,.slice a5 l5 c5] 29)=V1:=⟨_,rfl⟩;obtain⟨V2,hV2⟩:∃V2,V1.alloc (.map #[] 0)=V2:=⟨_,rfl⟩;obtain⟨V3,hV3⟩:∃V3,V2.alloc (.cells #[.map (some (N+1))] 169)=V3:=⟨_,rfl⟩;obtain⟨V4,hV4⟩:∃V4,V3.alloc (.cells #[.func (.func 96) #[] #[]] 111)=V4:=⟨_,rfl⟩;obtain⟨V5,hV5⟩:∃V5,V4.alloc (.cells #[.func (.func 97) #[] #[.pointer (some ⟨N+1+1,0,none⟩)]] 170)=V5:=⟨_,rfl⟩;obtain⟨X,hV6⟩:∃X,V5.alloc (.map #[] 0)=X:=⟨_,rfl⟩;have z1:V1.heap.size=N+1:=by rw[<- hV1,qH,hN]
 have z2:V2.heap.size=N+1+1:=by rw[<- hV2,qH,z1]
 have z3:V3.heap.size=N+1+1+1:=by rw[<- hV3,qH,z2]
 have z4:V4.heap.size=N+1+1+1+1:=by rw[<- hV4,qH,z3]
 have z5:V5.heap.size=N+1+1+1+1+1:=by rw[<- hV5,qH,z4]
 have z6:X.heap.size=N+1+1+1+1+1+1:=by rw[<- hV6,qH,z5]
 have u5:Below (N+1+1+1+1+1) V5 X:=hV6▸(Below.refl _ _).alloc Z _;have u4:Below (N+1+1+1+1) V4 X:=Below.trans (hV5▸(Below.refl _ _).alloc Z _) (u5.mono Z);have u3:Below (N+1+1+1) V3 X:=Below.trans (hV4▸(Below.refl _ _).alloc Z _) (u4.mono Z);have u2:Below (N+1+1) V2 X:=Below.trans (hV3▸(Below.refl _ _).alloc Z _) (u3.mono Z);have u1:Below (N+1) V1 X:=Below.trans (hV2▸(Below.refl _ _).alloc Z _) (u2.mono Z);have u0:Below N W X:=Below.trans (hV1▸(Below.refl _ _).alloc Z _) (u1.mono Z);have k0:X.heap[N]?=some (.cells #[n0,n1,n2,.slice a3 l3 c3,.slice a4 l4 c4,.slice a5 l5 c5] 29 (0,0)):=(u1.block N Z).trans (by rw[<- hV1,<- hN];exact World.alloc_heap_new W _);have k2:X.heap[N+1+1]?=some (.cells #[.map (some (N+1))] 169 (0,0)):=(u3.block _ Z).trans (by rw[<- hV3,<- z2];exact World.alloc_heap_new V2 _);have k3:X.heap[N+1+1+1]?=some (.cells #[.func (.func 96) #[] #[]] 111 (0,0)):=(u4.block _ Z).trans (by rw[<- hV4,<- z3];exact World.alloc_heap_new V3 _);have k4:X.heap[N+1+1+1+1]?=some (.cells #[.func (.func 97) #[] #[.pointer (some ⟨N+1+1,0,none⟩)]] 170 (0,0)):=(u5.block _ Z).trans (by rw[<- hV5,<- z4];exact World.alloc_heap_new V4 _);have pm6:PM X (N+1) []:=by
  have h:PM V2 (N+1) []:=⟨.map [],by rw[<- hV2,<- z1];exact World.ownsMap_made _ _ _ _,⟨_,rfl⟩,λs=>rfl⟩;exact h.same (u2.block _ Z)
 have g0:X.ownsMap Tryz.prog 3 (fnR (XR (N+1+1) (N+1+1+1) (N+1+1+1+1) N)) (N+1+1+1+1+1) 0 (.map []):=by rw[<- hV6,<- z5];exact World.ownsMap_made _ _ _ _
 obtain⟨Y1,r1,g1,e1⟩:=lZ g0 Z (k:=1) rfl 98;obtain⟨Y2,r2,g2,e2⟩:=lZ g1 Z (k:=2) rfl 97;obtain⟨Y3,r3,g3,e3⟩:=lZ g2 Z (k:=3) rfl 97;obtain⟨Y4,r4,g4,e4⟩:=lZ g3 Z (k:=4) rfl 100;obtain⟨Y5,r5,g5,e5⟩:=lZ g4 Z (k:=5) rfl 101;have kp:∀{A B:World}{m:Nat}{D:DataW Unit}{R:Value->Option (DataW Unit×List MemPlace)}{b:Nat},A.ownsMap Tryz.prog 3 R b m D->A.grownBy B (some b)->∀{a:Addr}{v:Value},A.cell? a=some v->B.cell? a=some v:=by
  intro A B m D R b h hg a v hc;obtain⟨es,clock,hb,_⟩:=h;exact cell_kept hc hg (λr e=>by cases e;exact⟨_,hb,rfl⟩)
 have x0:X.cell? ⟨N+1+1+1+1,0,none⟩=some (.func (.func 97) #[] #[.pointer (some ⟨N+1+1,0,none⟩)]):=by simp[World.cell?,k4]
 have x1:=kp g0 e1 x0;have x2:=kp g1 e2 x1;have x3:=kp g2 e3 x2;have x4:=kp g3 e4 x3;have cY:Chg (·=N+1+1+1+1+1) X Y5:=by
  have st:∀{A B:World},Chg (·=N+1+1+1+1+1) X A->A.grownBy B (some (N+1+1+1+1+1))->Chg (·=N+1+1+1+1+1) X B:=λh g=>⟨g.os.trans h.os,g.tape.trans h.tape,g.output.trans h.output,vP h.size g.size,λb hb hno=>(g.block b (qK hb h.size) (λe=>hno (by cases e;rfl))).trans (h.block b hb hno)⟩;exact st (st (st (st (st (Chg.refl _ _) e1) e2) e3) e4) e5
 have c1:XR (N+1+1) (N+1+1+1) (N+1+1+1+1) N 98=#[.pointer (some ⟨N+1+1,0,none⟩),.pointer (some ⟨N+1+1+1,0,none⟩),.pointer (some ⟨N,0,none⟩)]:=rfl;have c2:XR (N+1+1) (N+1+1+1) (N+1+1+1+1) N 97=#[.pointer (some ⟨N+1+1,0,none⟩)]:=rfl;have c3':XR (N+1+1) (N+1+1+1) (N+1+1+1+1) N 100=#[.pointer (some ⟨N+1+1+1+1,0,none⟩),.pointer (some ⟨N+1+1,0,none⟩)]:=rfl;have c4':XR (N+1+1) (N+1+1+1) (N+1+1+1+1) N 101=#[.pointer (some ⟨N+1+1+1,0,none⟩),.pointer (some ⟨N,0,none⟩)]:=rfl;rw[c1]at r1;rw[c2]at r2 r3;rw[c3']at r4;rw[c4']at r5;clear u1 u2 u3 u4 u5;have hr5:Y5.ownsMap Tryz.prog 3 (fnR (XR (N+1+1) (N+1+1+1) (N+1+1+1+1) N)) (N+1+1+1+1+1) 5 FH:=g5;have s5:N+1+1+1+1+1+1<=Y5.heap.size:=by have:=cY.size;omega
 have b5:∀b,b<N+1+1+1+1+1->Y5.heap[b]?=X.heap[b]?:=λb hb=>cY.block b Z Z;have pm5:PM Y5 (N+1) []:=pm6.same (b5 _ Z);have fc:∀y:World,Chg (·=N+1) Y5 y->y.cell? ⟨N+1+1,0,none⟩=some (.map (some (N+1)))/\y.cell? ⟨N+1+1+1,0,none⟩=some (.func (.func 96) #[] #[])/\y.cell? ⟨N+1+1+1+1,0,none⟩=some (.func (.func 97) #[] #[.pointer (some ⟨N+1+1,0,none⟩)])/\
   y.cell? ⟨N,3,none⟩=some (.slice a3 l3 c3)/\y.cell? ⟨N,4,none⟩=some (.slice a4 l4 c4)/\y.cell? ⟨N,5,none⟩=some (.slice a5 l5 c5)/\y.ownsMap Tryz.prog 3 (fnR (XR (N+1+1) (N+1+1+1) (N+1+1+1+1) N)) (N+1+1+1+1+1) 5 FH/\∀b,b<N->y.heap[b]?=W.heap[b]?:=λy hw=>by
  have e0:=((hw.block N Z Z).trans (b5 _ Z)).trans k0;have e2:=((hw.block (N+1+1) Z Z).trans (b5 _ Z)).trans k2;have e3:=((hw.block (N+1+1+1) Z Z).trans (b5 _ Z)).trans k3;have e4:=((hw.block (N+1+1+1+1) Z Z).trans (b5 _ Z)).trans k4;exact⟨by simp[World.cell?,e2],by simp[World.cell?,e3],by simp[World.cell?,e4],by simp[World.cell?,e0],by simp[World.cell?,e0],by simp[World.cell?,e0],dw hr5 (hw.block _ Z Z),λb hb=>((hw.block b Z Z).trans (b5 b Z)).trans (u0.block b hb)⟩
 go_enter Tryz.func39,Tryz.ntmps39
 go_wp2
 clear k0 k2 k3 k4 pm6 g0 g1 g2 g3 g4 g5 r1 r2 r3 r4 r5 e1 e2 e3 e4 e5 x0 x1 x2 x3 x4 c1 c2 c3' c4' hV1 hV2 hV3 hV4 hV5 hV6 z1 z2 z3 z4 z5 kp
 go_loopw [28,9] (λu v y=>∃(k:Nat) (last:Int) (ps:List ByteArray),k<=ds.length/\u=.int .i64 k/\v=.int .i64 last/\CP lab l3 l4 l5 ps last (ds.drop k)/\(∀s∈ps,s.size<=1000)/\PM y (N+1) ps/\Chg (·=N+1) Y5 y)
  (λu _ _=>ds.length-(intOf u).toNat)
 case atStart=>exact⟨0,0,[],wK _,rfl,rfl,hf,(λs h=>by cases h),pm5,Chg.refl _ _⟩
 case round=>
  obtain⟨k,last,ps,hk,rfl,rfl,hfk,hzp,hm,hc⟩:=hrel;by_cases hlt:k<ds.length
  .obtain⟨e,he⟩:∃e,ds[k]?=some e:=⟨ds[k],qB hlt⟩;have ed:ds.drop k=e::ds.drop (k+1):=by rw[List.drop_eq_getElem_cons hlt];rw[qB hlt]at he;rw[wE he]
   rw[ed]at hfk;obtain⟨ok,hfk⟩:=hfk;obtain⟨b,f,rfl,hbW,hcell⟩:=hD k e he;have hbN:b<N:=Z;obtain⟨q0,q1,q2,q3,q4,q5,q6,q7⟩:=fc wr hc;have z:∀(j:Nat) (u:Value),(aU e)[j]?=some u->wr.cell? ⟨b,f+k*10+j,none⟩=some u:=λj u h=>by
    have:=hcell j u h;unfold World.cell? at this ⊢;rw[q7 b hbN];exact this
   obtain⟨L,hwq⟩:∃L,wr.alloc (.cells (aU e) 59)=L:=⟨_,rfl⟩;have Bq:Below wr.heap.size wr L:=hwq▸(Below.refl _ _).alloc (qL _) _;have cq:Chg (·=N+1) Y5 L:=hc.below Bq;obtain⟨p0,p1,p2,p3,p4,p5,p6,p7⟩:=fc L cq;have pmq:PM L (N+1) ps:=hm.same (Bq.block _ hm.lt);obtain⟨kk,hkk,kk1,kk2⟩:∃kk:Nat,e.1=kk/\1<=kk/\kk<=5:=⟨e.1.toNat,by
    obtain⟨_,_,ok⟩:=ok;omega⟩
   have hlk:=QT p6 kk1 kk2;have G:=aC1 p0 pmq p1 p2 p3 p4 p5 hl hz hzp ok hkk;have hd1:decide (e.2.1<last)=false:=qY (by have:=ok.1;omega);have hd2:decide (e.2.1>1000000)=false:=qY (by have:=ok.2.1;omega);have hen:∀args w,(callFunc (yh kk) args).run Tryz.prog w=.ok (.enter (yh kk) args) w:=by
    rcases(by omega:kk=1\/kk=2\/kk=3\/kk=4\/kk=5)with rfl|rfl|rfl|rfl|rfl
    exact enters_of Tryz.func98 (by kernel_rfl) rfl;exact enters_of Tryz.func97 (by kernel_rfl) rfl;exact enters_of Tryz.func97 (by kernel_rfl) rfl;exact enters_of Tryz.func100 (by kernel_rfl) rfl;exact enters_of Tryz.func101 (by kernel_rfl) rfl
   obtain⟨cf,hcf⟩:∃cf,yh kk=cf:=⟨_,rfl⟩;rw[hcf]at hlk G hen;obtain⟨cp,hcp⟩:∃cp,XR (N+1+1) (N+1+1+1) (N+1+1+1+1) N cf=cp:=⟨_,rfl⟩;rw[hcp]at hlk G;have nb:L.heap[wr.heap.size]?=some (.cells (aU e) 59 (0,0)):=by rw[<- hwq];exact World.alloc_heap_new wr _
   have hq0:(0:Int)<=k:=Z;have hq1:(k:Int)<ds.length:=Z;have fin:∀w':World,PM w' (N+1) (nxP ps e)/\Chg (·=N+1) L w'->w'.cell? ⟨wr.heap.size,1,none⟩=some (.int .i64 e.2.1)/\PM w' (N+1) (nxP ps e)/\Chg (·=N+1) Y5 w':=λw' ⟨h1,h2⟩=>by
    have hb2:w'.heap[wr.heap.size]?=L.heap[wr.heap.size]?:=h2.block _ (by have:=Bq.size;rw[<- hwq,qH];omega) (by have:=hc.size;omega);rw[nb]at hb2;exact⟨by simp[World.cell?,hb2,aU],h1,cq.trans' (h2.sub λb _ h=>.inl h)⟩
   have hzp':∀s∈nxP ps e,s.size<=1000:=λs hs=>by
    unfold nxP at hs;split at hs
    .rename_i h1;rcases qI.1 hs with h|h;exact hzp s h
     .obtain⟨_,_,ok⟩:=ok;rw[qX.1 h];rcases ok with⟨_,g,_⟩|⟨g,_⟩|⟨g,_⟩|⟨g,_⟩;exact hz _ g;all_goals omega
    exact hzp s hs
   clear q0 q1 q2 q3 q4 q5 q6 q7 p0 p1 p2 p3 p4 p5 p6 p7 hcell fc;obtain⟨k1,t1,⟨pl,pf,pt,pc,pa⟩,lb,ot,ln⟩:=e;have hkk:k1=(kk:Int):=hkk;subst hkk;have y0:wr.cell? ⟨b,f+k*10,none⟩=some (.int .i64 kk):=z 0 _ rfl;have y1:wr.cell? ⟨b,f+k*10+1,none⟩=some (.int .i64 t1):=z 1 _ rfl;have y2:wr.cell? ⟨b,f+k*10+2,none⟩=some (.string pl):=z 2 _ rfl;have y3:wr.cell? ⟨b,f+k*10+3,none⟩=some (.int .i64 pf):=z 3 _ rfl;have y4:wr.cell? ⟨b,f+k*10+4,none⟩=some (.int .i64 pt):=z 4 _ rfl;have y5:wr.cell? ⟨b,f+k*10+5,none⟩=some (.int .i64 pc):=z 5 _ rfl;have y6:wr.cell? ⟨b,f+k*10+6,none⟩=some (.int .i64 pa):=z 6 _ rfl;have y7:wr.cell? ⟨b,f+k*10+7,none⟩=some (.string lb):=z 7 _ rfl;have y8:wr.cell? ⟨b,f+k*10+8,none⟩=some (.string ot):=z 8 _ rfl;have y9:wr.cell? ⟨b,f+k*10+9,none⟩=some (.int .i64 ln):=z 9 _ rfl;have ld:∀(j:Nat) (u:Value),(aU ((kk:Int),t1,(pl,pf,pt,pc,pa),lb,ot,ln))[j]?=some u->L.cell? ⟨wr.heap.size,j,none⟩=some u:=λj u h=>by simp[World.cell?,nb,h]
   have m0:L.cell? ⟨wr.heap.size,0,none⟩=some (.int .i64 kk):=ld 0 _ rfl;have m1:L.cell? ⟨wr.heap.size,1,none⟩=some (.int .i64 t1):=ld 1 _ rfl;have m2:L.cell? ⟨wr.heap.size,2,none⟩=some (.string pl):=ld 2 _ rfl;have m3:L.cell? ⟨wr.heap.size,3,none⟩=some (.int .i64 pf):=ld 3 _ rfl;have m4:L.cell? ⟨wr.heap.size,4,none⟩=some (.int .i64 pt):=ld 4 _ rfl;have m5:L.cell? ⟨wr.heap.size,5,none⟩=some (.int .i64 pc):=ld 5 _ rfl;have m6:L.cell? ⟨wr.heap.size,6,none⟩=some (.int .i64 pa):=ld 6 _ rfl;have m7:L.cell? ⟨wr.heap.size,7,none⟩=some (.string lb):=ld 7 _ rfl;have m8:L.cell? ⟨wr.heap.size,8,none⟩=some (.string ot):=ld 8 _ rfl;have m9:L.cell? ⟨wr.heap.size,9,none⟩=some (.int .i64 ln):=ld 9 _ rfl;clear z ld nb;unfold aU at hwq G;dsimp only at hd1 hd2 hwq G fin
   go_wp2_with (refine G.mono ?_;rintro e w' ⟨rfl,hw⟩;obtain⟨hx,hp,hc'⟩:=fin _ hw)
   go_roundw
   case rel=>exact⟨k+1,t1,nxP ps _,Z,by simp,rfl,hfk,hzp',hp,hc'⟩
   case measure=>simp[intOf];omega
  obtain rfl:k=ds.length:=by omega
  go_wp2
  go_ret
  have s6:=u0.size;rw[hN];exact⟨rfl,hc.os.trans (cY.os.trans u0.os),hc.tape.trans (cY.tape.trans u0.tape),hc.output.trans (cY.output.trans u0.output),vP (vP s6 cY.size) hc.size,λb hb=>(hc.block b Z Z).trans ((cY.block b Z Z).trans (u0.block b hb))⟩
end Go.Eng.Top
namespace Go.Eng.Top
open Go.Proofs Go.RowKit
def Hist.start{W:World}{R:Nat}(hR:R<=W.heap.size)(c:HC)(z:c.nb=W.heap.size)(y:c.cb=W.heap.size+1)(u:c.hb=W.heap.size+2):
  Hist (((W.alloc (.map #[] 0)).alloc (.map #[] 0)).alloc (.cells (mN c (.slice none 0 0)) 101)) R (λb=>if b=W.heap.size then 2 else if b=W.heap.size+1 then 3 else if b=W.heap.size+2 then 1 else 0) c [] [] [] (.slice none 0 0):=by
 have X:(((W.alloc (.map #[] 0)).alloc (.map #[] 0)).alloc (.cells (mN c (.slice none 0 0)) 101)).heap[W.heap.size]?=(W.alloc (.map #[] 0)).heap[W.heap.size]? :=
  (Below.heap_alloc _ _ _ (by simp only[qH];omega)).trans (Below.heap_alloc _ _ _ (by simp only[qH];omega))
 have L:(((W.alloc (.map #[] 0)).alloc (.map #[] 0)).alloc (.cells (mN c (.slice none 0 0)) 101)).heap[W.heap.size+1]?=((W.alloc (.map #[] 0)).alloc (.map #[] 0)).heap[W.heap.size+1]? :=
  Below.heap_alloc _ _ _ (by simp only[qH];omega)
 have A:=World.alloc_heap_new ((W.alloc (.map #[] 0)).alloc (.map #[] 0)) (.cells (mN c (.slice none 0 0)) 101);rw[qH,qH]at A;have G:(W.alloc (.map #[] 0)).ownsMap Tryz.prog 9 aDJ W.heap.size 0 (.map []):=World.ownsMap_made W _ _ _;have h:((W.alloc (.map #[] 0)).alloc (.map #[] 0)).ownsMap Tryz.prog 3 (plainElem Tryz.prog 4) (W.alloc (.map #[] 0)).heap.size 0 (.map []:DataW Unit):=World.ownsMap_made _ _ _ _;rw[qH]at h;refine⟨λb j=>?_,λb j=>?_,?_,by rw[u];exact A,?_,?_,?_,eU.nil,rfl,λk g r f=>by simp at f,⟨.map [],by rw[z];exact dw G X,⟨_,rfl⟩,λk g r f=>by simp at f⟩,⟨.map [],by rw[y];exact dw h L,⟨_,rfl⟩,λl=>rfl⟩⟩;rw[qH,qH,qH]at j;rw[if_neg Z,if_neg Z,if_neg Z];rw[if_neg Z,if_neg Z,if_neg Z];rw[qH,qH,qH];omega;rw[u,if_neg Z,if_neg Z,if_pos rfl];rw[z,if_pos rfl];rw[y,if_neg Z,if_pos rfl]
variable {tg tg':Tag} {O:Nat->Prop} {W W':World} {R k k2:Nat} {g g2:Gh} {r r2:Raw} {c:HC} {rs:List Raw} {cc:Li} {gs:List Gh} {iv:Value}
set_option maxRecDepth 100000 in
def Hist.appL(H:Hist W R tg c rs cc gs iv)(hg:gs[k]?=some g)(X:rs[k]?=some r)(hl:r.la.length<100000){b0:Nat}{t:ByteArray}(hb:W.heap[b0]?=some (.cells #[.string t] 9 (0,0))):
  ∃b z G f,(Builtin.append_ #[23,23] 23 #[g.la,.slice (some ⟨b0,0,none⟩) 1 1]).run Tryz.prog W=.ok (.slice (some ⟨b,0,none⟩) (r.la.length+1) z) G/\Hist G R f c rs cc gs iv/\
   eU G R f (5*k+8) 9 1 (.slice (some ⟨b,0,none⟩) (r.la.length+1) z) (r.la.length+1) ((r.la++[t]).map Value.string)/\Frm tg (·=5*k+8) W G f:=by
 have y:=H.it k g r hg X;have RW:=H.RW;obtain⟨v',G,f,hap,hv,ho,A,h2⟩:=eU.app (P:=Tryz.prog) (T:=23) (ty:=23) Tryz.underlying23 info9 rfl rfl rfl rfl (by decide) H.new y.la ⟨b0,0,none⟩ 1 1 [.string t] rfl (one_cell hb) (λu hu=>by simp at hu;subst hu;rfl) Z (by decide) RW;obtain⟨b,z,rfl⟩:=h2 (by decide);have hI':jF G R f k g r:=by
  have L:=(qJ.1 y.cel).1;exact⟨(A.lo L (by rw[y.tb];omega)).trans y.cel,y.bR,(A.tag _ L).trans y.tb,y.st.fr A Z,y.si.fr A Z,ho,y.se.fr A Z⟩
 have H':=H.item hg X (A.sub λt h=>by rw[h];exact⟨Z,Z⟩) hI' rfl rfl;refine⟨b,z,G,f,hap,?_,by rw[zS];exact hv,A⟩;have e1:rs.set k r=rs:=by
  apply wQ;intro j;rw[vS];by_cases e:k=j;subst e;rw[if_pos rfl,X,if_pos (qC.1 X).1];rw[if_neg e]
 have e2:gs.set k g=gs:=by
  apply wQ;intro j;rw[vS];by_cases e:k=j;subst e;rw[if_pos rfl,hg,if_pos (qC.1 hg).1];rw[if_neg e]
 rw[e1,e2]at H';exact H'
set_option maxRecDepth 100000 in
def Hist.aDb(H:Hist W R tg c rs cc gs iv)(hg:gs[k]?=some g)(X:rs[k]?=some r)(hl:r.se.length<100000){b0:Nat}{t:ByteArray}(hb:W.heap[b0]?=some (.cells #[.string t] 9 (0,0))):
  ∃b z G f,(Builtin.append_ #[23,23] 23 #[g.se,.slice (some ⟨b0,0,none⟩) 1 1]).run Tryz.prog W=.ok (.slice (some ⟨b,0,none⟩) (r.se.length+1) z) G/\Hist G R f c rs cc gs iv/\
   eU G R f (5*k+9) 9 1 (.slice (some ⟨b,0,none⟩) (r.se.length+1) z) (r.se.length+1) ((r.se++[t]).map Value.string)/\Frm tg (·=5*k+9) W G f:=by
 have y:=H.it k g r hg X;have RW:=H.RW;obtain⟨v',G,f,hap,hv,ho,A,h2⟩:=eU.app (P:=Tryz.prog) (T:=23) (ty:=23) Tryz.underlying23 info9 rfl rfl rfl rfl (by decide) H.new y.se ⟨b0,0,none⟩ 1 1 [.string t] rfl (one_cell hb) (λu hu=>by simp at hu;subst hu;rfl) Z (by decide) RW;obtain⟨b,z,rfl⟩:=h2 (by decide);have hI':jF G R f k g r:=by
  have L:=(qJ.1 y.cel).1;exact⟨(A.lo L (by rw[y.tb];omega)).trans y.cel,y.bR,(A.tag _ L).trans y.tb,y.st.fr A Z,y.si.fr A Z,y.la.fr A Z,ho⟩
 have H':=H.item hg X (A.sub λt h=>by rw[h];exact⟨Z,Z⟩) hI' rfl rfl;refine⟨b,z,G,f,hap,?_,by rw[zS];exact hv,A⟩;have e1:rs.set k r=rs:=by
  apply wQ;intro j;rw[vS];by_cases e:k=j;subst e;rw[if_pos rfl,X,if_pos (qC.1 X).1];rw[if_neg e]
 have e2:gs.set k g=gs:=by
  apply wQ;intro j;rw[vS];by_cases e:k=j;subst e;rw[if_pos rfl,hg,if_pos (qC.1 hg).1];rw[if_neg e]
 rw[e1,e2]at H';exact H'
set_option maxRecDepth 100000 in
def Hist.appT(H:Hist W R tg c rs cc gs iv)(hg:gs[k]?=some g)(X:rs[k]?=some r)(hl:r.st.length<100000){b0:Nat}{t:Int×Int×Int×Int}(hb:W.heap[b0]?=some (.cells (kO t).toArray 61 (0,0))):
  ∃b z G f,(Builtin.append_ #[53,53] 53 #[g.st,.slice (some ⟨b0,0,none⟩) 1 1]).run Tryz.prog W=.ok (.slice (some ⟨b,0,none⟩) (r.st.length+1) z) G/\Hist G R f c rs cc gs iv/\
   eU G R f (5*k+6) 61 4 (.slice (some ⟨b,0,none⟩) (r.st.length+1) z) (r.st.length+1) ((r.st++[t]).flatMap kO)/\Frm tg (·=5*k+6) W G f:=by
 have y:=H.it k g r hg X;have RW:=H.RW;obtain⟨v',G,f,hap,hv,ho,A,h2⟩:=eU.app (P:=Tryz.prog) (T:=53) (ty:=53) Tryz.underlying53 aCH rfl rfl rfl rfl (by decide) H.new y.st ⟨b0,0,none⟩ 1 1 (kO t) rfl (λj u hj=>by
  have e:W.cell? ((⟨b0,0,none⟩:Addr).add j)=((kO t).toArray)[j]?:=by
   rw[show(⟨b0,0,none⟩:Addr).add j=⟨b0,j,none⟩ by(unfold Addr.add;by_cases h:j=0<;>simp[h])];simp[World.cell?,hb]
  rw[e];simpa using hj) (λu hu=>by
  simp only[kO,zK,List.not_mem_nil,or_false]at hu;rcases hu with rfl|rfl|rfl|rfl<;>rfl) Z (by decide) RW
 obtain⟨b,z,rfl⟩:=h2 (by decide);have hI':jF G R f k g r:=by
  have L:=(qJ.1 y.cel).1;exact⟨(A.lo L (by rw[y.tb];omega)).trans y.cel,y.bR,(A.tag _ L).trans y.tb,ho,y.si.fr A Z,y.la.fr A Z,y.se.fr A Z⟩
 have H':=H.item hg X (A.sub λt h=>by rw[h];exact⟨Z,Z⟩) hI' rfl rfl;refine⟨b,z,G,f,hap,?_,by rw[kX,show[t].flatMap kO=kO t by simp];exact hv,A⟩;have e1:rs.set k r=rs:=by
  apply wQ;intro j;rw[vS];by_cases e:k=j;subst e;rw[if_pos rfl,X,if_pos (qC.1 X).1];rw[if_neg e]
 have e2:gs.set k g=gs:=by
  apply wQ;intro j;rw[vS];by_cases e:k=j;subst e;rw[if_pos rfl,hg,if_pos (qC.1 hg).1];rw[if_neg e]
 rw[e1,e2]at H';exact H'
def Hist.stE(H:Hist W R tg c rs cc gs iv)(h:gs[k]?=some g)(f:rs[k]?=some r){v:Value}{t:ByteArray}(u:eU W R tg (5*k+9) 9 1 v (r.se.length+1) ((r.se++[t]).map Value.string)):
  Hist (W.setCell ⟨g.b,9,none⟩ v) R tg c (rs.set k {r with se:=r.se++[t]}) cc (gs.set k {g with se:=v}) iv/\Frm tg (itT k) W (W.setCell ⟨g.b,9,none⟩ v) tg:=by
 have y:=H.it k g r h f;obtain⟨z,j⟩:=jF.row (g':={g with se:=v}) (r':={r with se:=r.se++[t]}) (T:=5*k+9) (o:=9) (v:=v) Z y (Frm.refl H.new) rfl rfl (.inr ⟨Z,rfl,rfl⟩) (.inr ⟨Z,rfl,rfl⟩) (.inr ⟨Z,rfl,rfl⟩) (.inl ⟨rfl,by simpa using u⟩);exact⟨H.item h f j z rfl rfl,j⟩
def Hist.stT(H:Hist W R tg c rs cc gs iv)(h:gs[k]?=some g)(f:rs[k]?=some r){v:Value}{t:Int×Int×Int×Int}(u:eU W R tg (5*k+6) 61 4 v (r.st.length+1) ((r.st++[t]).flatMap kO)):
  Hist (W.setCell ⟨g.b,5,none⟩ v) R tg c (rs.set k {r with st:=r.st++[t]}) cc (gs.set k {g with st:=v}) iv/\Frm tg (itT k) W (W.setCell ⟨g.b,5,none⟩ v) tg:=by
 have y:=H.it k g r h f;obtain⟨z,j⟩:=jF.row (g':={g with st:=v}) (r':={r with st:=r.st++[t]}) (T:=5*k+6) (o:=5) (v:=v) Z y (Frm.refl H.new) rfl rfl (.inl ⟨rfl,by simpa using u⟩) (.inr ⟨Z,rfl,rfl⟩) (.inr ⟨Z,rfl,rfl⟩) (.inr ⟨Z,rfl,rfl⟩);exact⟨H.item h f j z rfl rfl,j⟩
def Hist.stS(H:Hist W R tg c rs cc gs iv)(h:gs[k]?=some g)(f:rs[k]?=some r){v:Value}{t:Int}(u:eU W R tg (5*k+7) 3 1 v (r.si.length+1) ((r.si++[t]).map (Value.int .i64))):
  Hist (W.setCell ⟨g.b,7,none⟩ v) R tg c (rs.set k {r with si:=r.si++[t]}) cc (gs.set k {g with si:=v}) iv/\Frm tg (itT k) W (W.setCell ⟨g.b,7,none⟩ v) tg:=by
 have y:=H.it k g r h f;obtain⟨z,j⟩:=jF.row (g':={g with si:=v}) (r':={r with si:=r.si++[t]}) (T:=5*k+7) (o:=7) (v:=v) Z y (Frm.refl H.new) rfl rfl (.inr ⟨Z,rfl,rfl⟩) (.inl ⟨rfl,by simpa using u⟩) (.inr ⟨Z,rfl,rfl⟩) (.inr ⟨Z,rfl,rfl⟩);exact⟨H.item h f j z rfl rfl,j⟩
def Hist.twoS(H:Hist W R tg c rs cc gs iv)(hg:gs[k]?=some g)(hr:rs[k]?=some r)(z:gs[k2]?=some g2)(y:rs[k2]?=some r2)(f:k≠k2){v u:Value}{t A:Int}(L:eU W R tg (5*k+7) 3 1 v (r.si.length+1) ((r.si++[t]).map (Value.int .i64)))
  (X:eU W R tg (5*k2+7) 3 1 u (r2.si.length+1) ((r2.si++[A]).map (Value.int .i64))):
  Hist ((W.setCell ⟨g.b,7,none⟩ v).setCell ⟨g2.b,7,none⟩ u) R tg c ((rs.set k {r with si:=r.si++[t]}).set k2 {r2 with si:=r2.si++[A]}) cc ((gs.set k {g with si:=v}).set k2 {g2 with si:=u}) iv/\
   Frm tg (λt=>itT k t\/itT k2 t) W ((W.setCell ⟨g.b,7,none⟩ v).setCell ⟨g2.b,7,none⟩ u) tg:=by
 obtain⟨h1,G⟩:=H.stS hg hr L;have j:=X.fr G (by unfold itT;omega);obtain⟨h2,f2⟩:=h1.stS (k:=k2) (g:=g2) (r:=r2) (by rw[zW f];exact z) (by rw[zW f];exact y) j;exact⟨h2,(G.sub λt h=>.inl h).trans (f2.sub λt h=>.inr h)⟩
def Hist.stL(H:Hist W R tg c rs cc gs iv)(h:gs[k]?=some g)(f:rs[k]?=some r){v:Value}{t:ByteArray}(u:eU W R tg (5*k+8) 9 1 v (r.la.length+1) ((r.la++[t]).map Value.string)):
  Hist (W.setCell ⟨g.b,8,none⟩ v) R tg c (rs.set k {r with la:=r.la++[t]}) cc (gs.set k {g with la:=v}) iv/\Frm tg (itT k) W (W.setCell ⟨g.b,8,none⟩ v) tg:=by
 have y:=H.it k g r h f;obtain⟨z,j⟩:=jF.row (g':={g with la:=v}) (r':={r with la:=r.la++[t]}) (T:=5*k+8) (o:=8) (v:=v) Z y (Frm.refl H.new) rfl rfl (.inr ⟨Z,rfl,rfl⟩) (.inr ⟨Z,rfl,rfl⟩) (.inl ⟨rfl,by simpa using u⟩) (.inr ⟨Z,rfl,rfl⟩);exact⟨H.item h f j z rfl rfl,j⟩
def Hist.twoL(H:Hist W R tg c rs cc gs iv)(hg:gs[k]?=some g)(hr:rs[k]?=some r)(z:gs[k2]?=some g2)(y:rs[k2]?=some r2)(f:k≠k2){v u:Value}{t A:ByteArray}(L:eU W R tg (5*k+8) 9 1 v (r.la.length+1) ((r.la++[t]).map Value.string))
  (X:eU W R tg (5*k2+8) 9 1 u (r2.la.length+1) ((r2.la++[A]).map Value.string)):
  Hist ((W.setCell ⟨g.b,8,none⟩ v).setCell ⟨g2.b,8,none⟩ u) R tg c ((rs.set k {r with la:=r.la++[t]}).set k2 {r2 with la:=r2.la++[A]}) cc ((gs.set k {g with la:=v}).set k2 {g2 with la:=u}) iv/\
   Frm tg (λt=>itT k t\/itT k2 t) W ((W.setCell ⟨g.b,8,none⟩ v).setCell ⟨g2.b,8,none⟩ u) tg:=by
 obtain⟨h1,G⟩:=H.stL hg hr L;have j:=X.fr G (by unfold itT;omega);obtain⟨h2,f2⟩:=h1.stL (k:=k2) (g:=g2) (r:=r2) (by rw[zW f];exact z) (by rw[zW f];exact y) j;exact⟨h2,(G.sub λt h=>.inl h).trans (f2.sub λt h=>.inr h)⟩
def Zm{α:Type}{l:List α}{x y f j:α}(h:k≠k2):(((l.set k x).set k2 y).set k f).set k2 j=(l.set k f).set k2 j:=by
 rw[List.set_comm y f (Ne.symm h),List.set_set,List.set_set]
variable {tg1:Tag}{V:World}{its:List Itm}{i i2:Itm}{N:Nat}{o:Obj}
def BZ{x y:Itm}:(((its.map Itm.raw).set k x.raw).set k2 y.raw)=((its.set k x).set k2 y).map Itm.raw:=by rw[List.map_set,List.map_set]
def KH{α:Type}{f:List α}{g A g' g2':α}(u:f[k]?=some g)(j:f[k2]?=some A)(h:k≠k2):((f.set k g').set k2 g2')[k]?=some g'/\((f.set k g').set k2 g2')[k2]?=some g2':=by
 have z:=(qC.1 u).1;have y:=(qC.1 j).1;exact⟨by rw[zW (Ne.symm h),zV z],by rw[zV (by rw[zX];exact y)]⟩
def swS{t A:Int}{v u:Value}(F:Frm tg (λt=>itT k t\/itT k2 t) W V tg1)(H:Hist V R tg1 c (its.map Itm.raw) cc gs iv)(G:gs[k]?=some g)(hi:its[k]?=some i)(y:gs[k2]?=some g2)(z:its[k2]?=some i2)(j:k≠k2)
  (L:eU V R tg1 (5*k+7) 3 1 v (i.raw.si.length+1) ((i.raw.si++[t]).map (Value.int .i64))) (X:eU V R tg1 (5*k2+7) 3 1 u (i2.raw.si.length+1) ((i2.raw.si++[A]).map (Value.int .i64)))
  (hN:V.heap[N]?=some o) (h1:N≠g.b) (h2:N≠g2.b):
  ∃h f g' g2',Frm tg (λt=>itT k t\/itT k2 t) W ((V.setCell ⟨g.b,7,none⟩ v).setCell ⟨g2.b,7,none⟩ u) h/\Hist ((V.setCell ⟨g.b,7,none⟩ v).setCell ⟨g2.b,7,none⟩ u) R h c (((its.set k {i with sL:=i.sL++[i.sn],sn:=t}).set k2 {i2 with sL:=i2.sL++[i2.sn],sn:=A}).map Itm.raw) cc f iv/\
   f[k]?=some g'/\g'.b=g.b/\f[k2]?=some g2'/\g2'.b=g2.b/\((V.setCell ⟨g.b,7,none⟩ v).setCell ⟨g2.b,7,none⟩ u).heap[N]?=some o:=by
 obtain⟨a,b⟩:=H.twoS G (aQ hi) y (aQ z) j L X;obtain⟨e1,e2⟩:=KH (g':={g with si:=v}) (g2':={g2 with si:=u}) G y j;rw[<- BZ];exact⟨_,_,_,_,F.trans b,a,e1,rfl,e2,rfl,(Below.heap_setCell _ _ _ _ h2).trans ((Below.heap_setCell _ _ _ _ h1).trans hN)⟩
def swL{t A:ByteArray}{v u:Value}(F:Frm tg (λt=>itT k t\/itT k2 t) W V tg1)(H:Hist V R tg1 c (its.map Itm.raw) cc gs iv)(G:gs[k]?=some g)(hi:its[k]?=some i)(y:gs[k2]?=some g2)(z:its[k2]?=some i2)(j:k≠k2)
  (L:eU V R tg1 (5*k+8) 9 1 v (i.raw.la.length+1) ((i.raw.la++[t]).map Value.string)) (X:eU V R tg1 (5*k2+8) 9 1 u (i2.raw.la.length+1) ((i2.raw.la++[A]).map Value.string))
  (hN:V.heap[N]?=some o) (h1:N≠g.b) (h2:N≠g2.b):
  ∃h f g' g2',Frm tg (λt=>itT k t\/itT k2 t) W ((V.setCell ⟨g.b,8,none⟩ v).setCell ⟨g2.b,8,none⟩ u) h/\Hist ((V.setCell ⟨g.b,8,none⟩ v).setCell ⟨g2.b,8,none⟩ u) R h c (((its.set k {i with bL:=i.bL++[i.lb],lb:=t}).set k2 {i2 with bL:=i2.bL++[i2.lb],lb:=A}).map Itm.raw) cc f iv/\
   f[k]?=some g'/\g'.b=g.b/\f[k2]?=some g2'/\g2'.b=g2.b/\((V.setCell ⟨g.b,8,none⟩ v).setCell ⟨g2.b,8,none⟩ u).heap[N]?=some o:=by
 obtain⟨a,b⟩:=H.twoL G (aQ hi) y (aQ z) j L X;obtain⟨e1,e2⟩:=KH (g':={g with la:=v}) (g2':={g2 with la:=u}) G y j;rw[<- BZ];exact⟨_,_,_,_,F.trans b,a,e1,rfl,e2,rfl,(Below.heap_setCell _ _ _ _ h2).trans ((Below.heap_setCell _ _ _ _ h1).trans hN)⟩
def Xp(l:List (Int×Int×Int×Int)):(l.flatMap kO).length=l.length*4:=by
 induction l with
 |nil=>rfl|cons x l f=>rw[kT,qG,f,wR];show 4+_=_;omega
def Xn(l:List (Int×Int×Int×Int))(a b u v x y:Int):((((l++[(a,b,u,v)]).flatMap kO).set (l.length*4+2) (.int .i64 x)).set (l.length*4+3) (.int .i64 y))=(l++[(a,b,x,y)]).flatMap kO:=by
 have e:=Xp l;rw[kX,kX,qBu _ _ Z,qBu _ _ Z,e];rw[show l.length*4+2-l.length*4=2 by omega,show l.length*4+3-l.length*4=3 by omega];rfl
def Hist.left{V:World}{o a u v x y:Int}{l:List (Int×Int×Int×Int)}{b n L:Nat}(H:Hist W R tg c rs cc gs iv)(hg:gs[k]?=some g)(hr:rs[k]?=some r)(hl:r.st=l++[(o,a,u,v)])(hs:g.st=.slice (some ⟨b,0,none⟩) n L)
  (hV:(W.setCell ⟨b,l.length*4+2,none⟩ (.int .i64 x)).setCell ⟨b,l.length*4+3,none⟩ (.int .i64 y)=V):
  Hist V R tg c (rs.set k {r with st:=l++[(o,a,x,y)]}) cc (gs.set k g) iv/\Frm tg (itT k) W V tg:=by
 have j:=H.it k g r hg hr;have G:=j.st;rw[hs,hl]at G;have e:n=(l++[(o,a,u,v)]).length:=by
  rcases G.own.2 with⟨e,_⟩|⟨_,_,_,e,_⟩;cases e;injection e
 subst e;obtain⟨r1,f1⟩:=G.set H.new (l.length*4+2) (.int .i64 x);obtain⟨X,f2⟩:=r1.set f1.new (l.length*4+3) (.int .i64 y);rw[Xn,hV]at X;rw[hV]at f2;have f:=f1.trans f2;have z:=j.lt;have A:jF V R tg k g {r with st:=l++[(o,a,x,y)]}:=
  ⟨(f.lo z (by rw[j.tb];omega)).trans j.cel,j.bR,j.tb,by rw[hs];simpa using X,j.si.fr f Z,j.la.fr f Z,j.se.fr f Z⟩
 have f':Frm tg (itT k) W V tg:=f.sub λt h=>by rw[h];exact⟨Z,Z⟩
 exact⟨H.item hg hr f' A rfl rfl,f'⟩
def OkI.within{d:Dat}{m:Nat}{l2:List Itm}(f:OkI d m its i)(h:∀u,(∃j∈its,j.post.1=u)->∃j∈l2,j.post.1=u):OkI d m l2 i:={f with to:=h _ f.to}
end Go.Eng.Top
namespace Go
section
variable {P:Program}{ops:Array Oper}{Q:Exit->Act->World->Prop}{md:Region.Mode}{S0 S:World->Prop}{lt:Nat->Bool}
def b7(P:Program)(md:Region.Mode)(ops:Array Oper)(Q:Exit->Act->World->Prop)(S0 S:World->Prop)(lt:Nat->Bool):Nat->Array Bool->Act->World->Prop
 |0,listed,a,w=>Region.ready md ops listed=[]/\Q .normal a w|fuel+1,listed,a,w=>(Region.ready md ops listed=[]->Q .normal a w)/\
  ∀i∈Region.ready md ops listed,wpOp P ops Q i (λa' w'=>(S0 w'/\(lt i=false->S w->S w'))/\b7 P md ops Q S0 S lt fuel (listed.setIfInBounds i true) a' w') a w
def qD:∀(fuel:Nat) (listed:Array Bool) (a:Act) (w:World),b7 P md ops Q S0 S lt fuel listed a w->wpAny P md ops Q fuel listed a w|0,_,_,_,h=>h|fuel+1,_,_,_,h=>⟨h.1,λi hi=>wpOp_mono (λa' w' h'=>qD fuel _ a' w' h'.2) (h.2 i hi)⟩
def RP(md:Region.Mode)(ops:Array Oper)(lt:Nat->Bool)(i:Nat):Bool:=(List.range ops.size).all λj=>!lt j||match ops[j]? with|some oj=>oj.after.any λe=>Region.binds md e&&e.on==i|none=>true
def WV{i j:Nat}{listed:Array Bool}(hl:RP md ops lt i=true)(hi:i∈Region.ready md ops listed)(hj:j∈Region.ready md ops listed):lt j=false:=by
 cases e:lt j with
 |false=>rfl|true=>
  obtain⟨_,oj,hoj,hall⟩:=mem_ready.1 hj;have:=List.all_eq_true.1 hl j (List.mem_range.2 (Array.getElem?_eq_some_iff.1 hoj).1);simp only[e,hoj,Bool.not_true,Bool.false_or]at this;obtain⟨x,hx,hb⟩:=Array.any_eq_true'.1 this;simp only[Bool.and_eq_true,beq_iff_eq]at hb;have h1:=hall x hx hb.1;have h0:=(mem_ready.1 hi).1;rw[hb.2]at h1;rcases Nat.lt_or_ge i listed.size with h'|h';simp[h']at h0 h1;rw[h0]at h1;cases h1;simp[Array.getElem?_eq_none h']at h1
def D4{i:Nat}{oi:Oper}{v:Value}(hi:ops[i]?=some oi)(hsel:∀(j:Nat) (o:Oper) cs b,ops[j]?=some o->o.op≠.select cs b)
  (hQ:∀c a w,Q (.panic c) (a.put oi.dst v) w->Q (.panic c) a w) (hl:RP md ops lt i=true):
  ∀(fuel:Nat) (listed:Array Bool) (a:Act) (w:World),
   (∀j oj,ops[j]?=some oj->j≠i->listed.getD j true=false->(∀e∈oj.after,Region.binds md e=true->e.on≠i)->oi.apart ops oj=true)->
   i∈Region.ready md ops listed->YieldsIf P ops S oi v a->S0 w->S w->
   b7 P md ops Q S0 S lt fuel (listed.setIfInBounds i true) (a.put oi.dst v) w->b7 P md ops Q S0 S lt (fuel+1) listed a w:=by
 intro fuel;induction fuel with
 |zero=>
  intro listed a w _ hr hy hT hS H;refine⟨λh=>(by rw[h]at hr;cases hr),λj hj=>?_⟩;by_cases hji:j=i;subst hji;exact hy.wpOp hi hS ⟨⟨hT,λ_ hS=>hS⟩,H⟩;have:=ready_mono hj hji;rw[H.1]at this;cases this
 |succ fuel ih=>
  intro listed a w hfree hr hy hT hS H;refine⟨λh=>(by rw[h]at hr;cases hr),λj hj=>?_⟩;by_cases hji:j=i;subst hji;exact hy.wpOp hi hS ⟨⟨hT,λ_ hS=>hS⟩,H⟩;have g1:=H.2 j (ready_mono hj hji);have gl:lt j=false:=WV hl hr hj;obtain⟨un,oj,hoj,hall⟩:=mem_ready.1 hj;have wait:∀e∈oj.after,Region.binds md e=true->e.on≠i:=λe he hb heq=>by
   have h1:=hall e he hb;have h0:=(mem_ready.1 hr).1;rw[heq]at h1;rcases Nat.lt_or_ge i listed.size with h'|h';simp[h']at h0 h1;rw[h0]at h1;cases h1;simp[Array.getElem?_eq_none h']at h1
  have g2:=wpOp_putIf hoj (hfree j oj hoj hji un wait) (λcs b=>hsel i oi cs b hi) (λcs b=>hsel j oj cs b hoj) hQ hy g1;refine wpOp_mono (λa' w' q=>⟨⟨q.2.1.1,λ_=>q.2.1.2 gl⟩,ih (listed.setIfInBounds j true) a' w' (λk ok hk hki hun hno=>?_) (ready_mono hr (Ne.symm hji)) q.1 q.2.1.1 (q.2.1.2 gl hS) ?_⟩) g2;refine hfree k ok hk hki ?_ hno;by_cases hjk:j=k;subst hjk;exact un;rw[getD_set_ne true hjk]at hun;exact hun;rw[Array.setIfInBounds_comm _ _ hji];exact q.2.2
def Bm{i:Nat}{oi:Oper}{v:Value}(hi:ops[i]?=some oi)(hsel:∀(j:Nat) (o:Oper) cs b,ops[j]?=some o->o.op≠.select cs b)
  (hQ:∀c a w,Q (.panic c) (a.put oi.dst v) w->Q (.panic c) a w):
  ∀(fuel:Nat) (listed:Array Bool) (a:Act) (w:World),
   (∀j oj,ops[j]?=some oj->j≠i->listed.getD j true=false->(∀e∈oj.after,Region.binds md e=true->e.on≠i)->oi.apart ops oj=true)->
   i∈Region.ready md ops listed->YieldsIf P ops S0 oi v a->S0 w->
   b7 P md ops Q S0 S lt fuel (listed.setIfInBounds i true) (a.put oi.dst v) w->b7 P md ops Q S0 S lt (fuel+1) listed a w:=by
 intro fuel;induction fuel with
 |zero=>
  intro listed a w _ hr hy hT H;refine⟨λh=>(by rw[h]at hr;cases hr),λj hj=>?_⟩;by_cases hji:j=i;subst hji;exact hy.wpOp hi hT ⟨⟨hT,λ_ hS=>hS⟩,H⟩;have:=ready_mono hj hji;rw[H.1]at this;cases this
 |succ fuel ih=>
  intro listed a w hfree hr hy hT H;refine⟨λh=>(by rw[h]at hr;cases hr),λj hj=>?_⟩;by_cases hji:j=i;subst hji;exact hy.wpOp hi hT ⟨⟨hT,λ_ hS=>hS⟩,H⟩;have g1:=H.2 j (ready_mono hj hji);obtain⟨un,oj,hoj,hall⟩:=mem_ready.1 hj;have wait:∀e∈oj.after,Region.binds md e=true->e.on≠i:=λe he hb heq=>by
   have h1:=hall e he hb;have h0:=(mem_ready.1 hr).1;rw[heq]at h1;rcases Nat.lt_or_ge i listed.size with h'|h';simp[h']at h0 h1;rw[h0]at h1;cases h1;simp[Array.getElem?_eq_none h']at h1
  have g2:=wpOp_putIf hoj (hfree j oj hoj hji un wait) (λcs b=>hsel i oi cs b hi) (λcs b=>hsel j oj cs b hoj) hQ hy g1;refine wpOp_mono (λa' w' q=>⟨⟨q.2.1.1,q.2.1.2⟩,ih (listed.setIfInBounds j true) a' w' (λk ok hk hki hun hno=>?_) (ready_mono hr (Ne.symm hji)) q.1 q.2.1.1 ?_⟩) g2;refine hfree k ok hk hki ?_ hno;by_cases hjk:j=k;subst hjk;exact un;rw[getD_set_ne true hjk]at hun;exact hun;rw[Array.setIfInBounds_comm _ _ hji];exact q.2.2
def I2{i:Nat}{oi:Oper}{v:Value}{fuel:Nat}{listed:Array Bool}{a:Act}{w:World}(hi:ops[i]?=some oi)(hs:Region.noSelect ops=true)(hf:Region.free md ops listed i=true)(hr:(Region.ready md ops listed).contains i=true)
  (hl:RP md ops lt i=true) (hQ:∀c a w,Q (.panic c) (a.put oi.dst v) w->Q (.panic c) a w) (hy:YieldsIf P ops S oi v a) (hT:S0 w) (hS:S w)
  (h:b7 P md ops Q S0 S lt fuel (listed.setIfInBounds i true) (a.put oi.dst v) w):b7 P md ops Q S0 S lt (fuel+1) listed a w:=
 D4 hi (Region.noSelect_spec hs) hQ hl fuel listed a w (Region.free_spec hi hf) (by simpa using hr) hy hT hS h
def DZ{i:Nat}{oi:Oper}{v:Value}{fuel:Nat}{listed:Array Bool}{a:Act}{w:World}(hi:ops[i]?=some oi)(hs:Region.noSelect ops=true)(hf:Region.free md ops listed i=true)(hr:(Region.ready md ops listed).contains i=true)
  (hQ:∀c a w,Q (.panic c) (a.put oi.dst v) w->Q (.panic c) a w) (hy:YieldsIf P ops S0 oi v a) (hT:S0 w)
  (h:b7 P md ops Q S0 S lt fuel (listed.setIfInBounds i true) (a.put oi.dst v) w):b7 P md ops Q S0 S lt (fuel+1) listed a w:=
 Bm hi (Region.noSelect_spec hs) hQ fuel listed a w (Region.free_spec hi hf) (by simpa using hr) hy hT h
def PI{d i:Nat}{oi:Oper}{v:Value}{fuel:Nat}{listed:Array Bool}{a:Act}{w:World}(hi:ops[i]?=some oi)(hd:oi.dst=some d)(hg:oi.guard=none)(hs:Region.noSelect ops=true)(hf:Region.free md ops listed i=true)(hr:(Region.ready md ops listed).contains i=true)
  (hQ:∀c a w,Q (.panic c) (a.put oi.dst v) w->Q (.panic c) a w) (hT:S0 w) (hy:∀w,S0 w->(execOp a.eval oi).run P w=.ok (.value v) w)
  (h:b7 P md ops Q S0 S lt fuel (listed.setIfInBounds i true) (a.put (some d) v) w):b7 P md ops Q S0 S lt (fuel+1) listed a w:=
 DZ hi hs hf hr hQ (.inl ⟨by simp[Region.wanted,hg],hy⟩) hT (hd▸h)
def PH{d i:Nat}{oi:Oper}{v:Value}{fuel:Nat}{listed:Array Bool}{a:Act}{w:World}(hi:ops[i]?=some oi)(hd:oi.dst=some d)(hg:oi.guard=none)(hs:Region.noSelect ops=true)(hf:Region.free md ops listed i=true)(hr:(Region.ready md ops listed).contains i=true)
  (hl:RP md ops lt i=true) (hQ:∀c a w,Q (.panic c) (a.put oi.dst v) w->Q (.panic c) a w) (hT:S0 w) (hS:S w) (hy:∀w,S w->(execOp a.eval oi).run P w=.ok (.value v) w)
  (h:b7 P md ops Q S0 S lt fuel (listed.setIfInBounds i true) (a.put (some d) v) w):b7 P md ops Q S0 S lt (fuel+1) listed a w:=
 I2 hi hs hf hr hl hQ (.inl ⟨by simp[Region.wanted,hg],hy⟩) hT hS (hd▸h)
def zc{rs:List Nat}{fuel:Nat}{listed:Array Bool}{a:Act}{w:World}(hr:Region.ready md ops listed=rs)(hne:rs≠[])
  (h:∀i∈rs,wpOp P ops Q i (λa' w'=>(S0 w'/\(lt i=false->S w->S w'))/\b7 P md ops Q S0 S lt fuel (listed.setIfInBounds i true) a' w') a w):b7 P md ops Q S0 S lt (fuel+1) listed a w:=
 ⟨λh0=>absurd (hr▸h0) hne,hr▸h⟩
def zb{i:Nat}{o:Oper}{fuel:Nat}{listed:Array Bool}{a:Act}{w:World}(hr:Region.ready md ops listed=[i])(ho:ops[i]?=some o)(hg:o.guard=none)
  (h:∀K:Act->World->Prop,(∀a' w',(S0 w'/\(lt i=false->S w->S w'))/\b7 P md ops Q S0 S lt fuel (listed.setIfInBounds i true) a' w'->K a' w')->Oper.wp P o a w K Q):b7 P md ops Q S0 S lt (fuel+1) listed a w:=by
 refine zc hr (by simp) λj hj=>?_;obtain rfl:=List.mem_singleton.1 hj;unfold wpOp;simp only[ho];have hw:Region.wanted o (yielded ops a.tmps)=true:=by simp[Region.wanted,hg]
 rw[if_pos hw];exact .inl (h _ λ_ _ h=>h)
def mV{i j:Nat}{o o':Oper}{fuel:Nat}{listed:Array Bool}{a:Act}{w:World}(hr:Region.ready md ops listed=[i,j])(ho:ops[i]?=some o)(ho':ops[j]?=some o')(hg:o.guard=none)(hg':o'.guard=none)
  (h:∀K:Act->World->Prop,(∀a' w',(S0 w'/\(lt i=false->S w->S w'))/\b7 P md ops Q S0 S lt fuel (listed.setIfInBounds i true) a' w'->K a' w')->Oper.wp P o a w K Q)
  (h':∀K:Act->World->Prop,(∀a' w',(S0 w'/\(lt j=false->S w->S w'))/\b7 P md ops Q S0 S lt fuel (listed.setIfInBounds j true) a' w'->K a' w')->Oper.wp P o' a w K Q):b7 P md ops Q S0 S lt (fuel+1) listed a w:=by
 refine zc hr (by simp) λq hq=>?_;rcases List.mem_cons.1 hq with rfl|hq;unfold wpOp;simp only[ho];have hw:Region.wanted o (yielded ops a.tmps)=true:=by simp[Region.wanted,hg]
 rw[if_pos hw];exact .inl (h _ λ_ _ h=>h);obtain rfl:=List.mem_singleton.1 hq;unfold wpOp;simp only[ho'];have hw:Region.wanted o' (yielded ops a.tmps)=true:=by simp[Region.wanted,hg']
 rw[if_pos hw];exact .inl (h' _ λ_ _ h=>h)
def cU{listed:Array Bool}{a:Act}{w:World}(hr:Region.ready md ops listed=[])(h:Q .normal a w):∀fuel,b7 P md ops Q S0 S lt fuel listed a w|0=>⟨hr,h⟩|_+1=>⟨λ_=>h,by rw[hr];simp⟩
def nJ(S0 S:World->Prop)(lt:Nat->Bool){id:Nat}{a:Act}{w:World}(hm:P.follows .mixedOrders=true)(h:b7 P .any ops Q S0 S lt ops.size (Array.replicate ops.size false) a w.drew):(Code.region id ops true).wp P Q a w:=
 wp_region_any hm (qD _ _ _ _ h)
end
end Go
namespace Go
section
variable {P:Program}{ops:Array Oper}{Q:Exit->Act->World->Prop}{md:Region.Mode}{S0 S:World->Prop}{lt:Nat->Bool}
def aX(i:Nat){d fuel:Nat}{oi:Oper}{v:Value}{listed L:Array Bool}{a A:Act}{w:World}(h:b7 P md ops Q S0 S lt fuel L A w)
  (hi:ops[i]?=some oi:=by rfl) (hd:oi.dst=some d:=by rfl) (hg:oi.guard=none:=by rfl) (hs:Region.noSelect ops=true:=by kernel_rfl) (hf:Region.free md ops listed i=true:=by kernel_rfl) (hr:(Region.ready md ops listed).contains i=true:=by kernel_rfl)
  (hQ:∀c a w,Q (.panic c) (a.put oi.dst v) w->Q (.panic c) a w:=by exact λ_ _ _ h=>h) (hT:S0 w:=by first|assumption|exact trivial|exact oP (by assumption)|(go_simp;done))
  (hy:∀w,S0 w->(execOp a.eval oi).run P w=.ok (.value v) w:=by intro w hSw;(try dsimp only at hSw);(repeat (obtain⟨_,hSw⟩:=hSw));go_simp;(try with_reducible rfl))
  (eL:listed.setIfInBounds i true=L:=by conv=>lhs;simp only[List.setIfInBounds_toArray,List.set_cons_zero,List.set_cons_succ]) (eA:a.put (some d) v=A:=by conv=>lhs;simp only[Act.put,List.setIfInBounds_toArray,List.set_cons_zero,List.set_cons_succ]):b7 P md ops Q S0 S lt (fuel+1) listed a w:=
 PI hi hd hg hs hf hr hQ hT hy (by rw[eL,eA];exact h)
def lU(i:Nat){d fuel:Nat}{oi:Oper}{v:Value}{listed L:Array Bool}{a A:Act}{w:World}(h:b7 P md ops Q S0 S lt fuel L A w)
  (hi:ops[i]?=some oi:=by rfl) (hd:oi.dst=some d:=by rfl) (hg:oi.guard=none:=by rfl) (hs:Region.noSelect ops=true:=by kernel_rfl) (hf:Region.free md ops listed i=true:=by kernel_rfl) (hr:(Region.ready md ops listed).contains i=true:=by kernel_rfl) (hl:RP md ops lt i=true:=by kernel_rfl)
  (hQ:∀c a w,Q (.panic c) (a.put oi.dst v) w->Q (.panic c) a w:=by exact λ_ _ _ h=>h) (hT:S0 w:=by first|assumption|exact trivial|exact oP (by assumption)|(go_simp;done)) (hS:S w:=by(try dsimp only);(repeat' apply And.intro)<;>first|assumption|exact trivial|exact oP (by assumption)|(go_simp;done))
  (hy:∀w,S w->(execOp a.eval oi).run P w=.ok (.value v) w:=by intro w hSw;(try dsimp only at hSw);(repeat (obtain⟨_,hSw⟩:=hSw));go_simp;(try with_reducible rfl))
  (eL:listed.setIfInBounds i true=L:=by conv=>lhs;simp only[List.setIfInBounds_toArray,List.set_cons_zero,List.set_cons_succ]) (eA:a.put (some d) v=A:=by conv=>lhs;simp only[Act.put,List.setIfInBounds_toArray,List.set_cons_zero,List.set_cons_succ]):b7 P md ops Q S0 S lt (fuel+1) listed a w:=
 PH hi hd hg hs hf hr hl hQ hT hS hy (by rw[eL,eA];exact h)
def bA(i:Nat){fuel:Nat}{o:Oper}{listed L:Array Bool}{a A A':Act}{w w':World}(h:b7 P md ops Q S0 S lt fuel L A' w')
  (hr:Region.ready md ops listed=[i]:=by kernel_rfl) (ho:ops[i]?=some o:=by rfl) (hg:o.guard=none:=by rfl)
  (hz:∀K:Act->World->Prop,K A w'->Oper.wp P o a w K Q:=by intro K hK;go_simp;exact hK) (hT:S0 w':=by first|assumption|exact trivial|exact oP (by assumption)|(go_simp;done))
  (hS:lt i=false->S w->S w':=by first|exact λh=>absurd h (by decide)|(intro _ _;(try dsimp only);(repeat' apply And.intro)<;>first|assumption|exact trivial|exact oP (by assumption)|(go_simp;done)))
  (eL:listed.setIfInBounds i true=L:=by conv=>lhs;simp only[List.setIfInBounds_toArray,List.set_cons_zero,List.set_cons_succ]) (eA:A=A':=by conv=>lhs;(try simp only[Act.put,List.setIfInBounds_toArray,List.set_cons_zero,List.set_cons_succ])):b7 P md ops Q S0 S lt (fuel+1) listed a w:=
 zb hr ho hg λK hK=>hz K (hK _ _ ⟨⟨hT,hS⟩,by rw[eL,eA];exact h⟩)
def pq(i:Nat){o:Oper}{fuel:Nat}{listed:Array Bool}{a:Act}{w:World}(h:∀K:Act->World->Prop,(∀a' w',(S0 w'/\(lt i=false->S w->S w'))/\b7 P md ops Q S0 S lt fuel (listed.setIfInBounds i true) a' w'->K a' w')->Oper.wp P o a w K Q)
  (hr:Region.ready md ops listed=[i]:=by kernel_rfl) (ho:ops[i]?=some o:=by rfl) (hg:o.guard=none:=by rfl):b7 P md ops Q S0 S lt (fuel+1) listed a w:=
 zb hr ho hg h
def ji{X Z:World->Prop}{c:Bool}{Y p:Prop}{R K:Act->World->Prop}{A:Act}{W:World}(hK:∀a' w',(X w'/\(c=false->Y->Z w'))/\R a' w'->K a' w')(h:p)
  (hT:X W:=by first|assumption|exact trivial|exact oP (by assumption)|(go_simp;done)) (hS:c=false->Y->Z W:=by first|exact λh=>absurd h (by decide)|(intro _ _;(try dsimp only);(repeat' apply And.intro)<;>first|assumption|exact trivial|exact oP (by assumption)|(go_simp;done)))
  (e:R A W=p:=by conv=>lhs;(try simp only[Act.put,List.setIfInBounds_toArray,List.set_cons_zero,List.set_cons_succ])):K A W:=
 hK _ _ ⟨⟨hT,hS⟩,e▸h⟩
end
end Go
namespace Go.Eng.Top
open Go.Proofs Go.RowKit
variable {tg tg' tg1 tg2:Tag} {Op:Nat->Prop} {w0 W W' W1 W2:World} {R k k2 m:Nat} {g g2:Gh} {r r':Raw} {c:HC} {d:Dat} {its:List Itm} {i i2:Itm} {rs:List Raw} {cc:Li} {gs:List Gh} {iv v':Value}
set_option maxRecDepth 100000 in
set_option maxHeartbeats 4000000 in
def aC0(E:Env w0 R c d)(H:Hist W R tg c (its.map Itm.raw) cc gs iv)(hB:Below R w0 W)(hg:gs[k]?=some g)(hi:its[k]?=some i)(hg2:gs[k2]?=some g2)(A:its[k2]?=some i2)(hne:k≠k2)(ok:OkI d m its i)(L:OkI d m its i2)(hm:m<900)(hz:∀j∈its,j.post.1.size<=1000/\0<=j.post.2.2.1/\j.post.2.2.1<d.N)
  (e:bZ) (he:e.2.2.2.1=i.post.1) (he2:e.2.2.2.2.1=i2.post.1) (ht:0<=e.2.1/\e.2.1<=1000000):
  Calls Tryz.prog 105 #[.pointer (some ⟨c.hb,0,none⟩),.agg (aU e)] W λe' w'=>e'=.returned (.tuple #[])/\∃tg' gs',
   Frm tg (λt=>itT k t\/itT k2 t) W w' tg'/\Hist w' R tg' c ((if i.off≠i2.off\/e.2.1<i.arr\/e.2.1<i2.arr then its
    else(its.set k (jj d cc (iy its i2.lb) (G9 i i2.lb e.2.1))).set k2 (jj d cc (iy its i.lb) (G9 i2 i.lb e.2.1))).map Itm.raw) cc gs' iv:=by
 obtain⟨k1,f,⟨pl,pf,pt,pc,pa⟩,lb,ot,ln⟩:=e;have he:lb=i.post.1:=he;subst he;have he2:ot=i2.post.1:=he2;subst he2;dsimp only at ht ⊢;have hlow:=H.low;have hRW:=H.RW;obtain⟨N,hN⟩:∃N,W.heap.size=N:=⟨_,rfl⟩;obtain⟨W1,hW1⟩:∃W1,W.alloc (.cells (aU (k1,f,(pl,pf,pt,pc,pa),i.post.1,i2.post.1,ln)) 59)=W1:=⟨_,rfl⟩
 have b1:W1.heap[N]?=some (.cells (aU (k1,f,(pl,pf,pt,pc,pa),i.post.1,i2.post.1,ln)) 59 (0,0)):=by rw[<- hW1,<- hN];exact World.alloc_heap_new W _
 have H1:Hist W1 R tg c (its.map Itm.raw) cc gs iv:=hW1▸H.alloc _;have F1:Frm tg (λt=>itT k t\/itT k2 t) W W1 tg:=hW1▸Frm.alloc H.new _;have l1:W1.cell? ⟨N,7,none⟩=some (.string i.post.1):=by simp[World.cell?,b1,aU]
 have l2:W1.cell? ⟨N,8,none⟩=some (.string i2.post.1):=by simp[World.cell?,b1,aU]
 have h8:W1.cell? ⟨c.hb,8,none⟩=some (.map (some c.nb)):=H1.cell (j:=8) rfl;have hlk:∀m,(Instr.lookup 97 (.map (some c.nb)) (.string i.post.1) false).run Tryz.prog (W1.drewN m)=.ok (.pointer (some ⟨g.b,0,none⟩)) (W1.drewN m):=λm=>(H1.drewN m).look hg (aQ hi) (by unfold maxLen;have:=ok.lz;show i.post.1.size<=_;omega)
 have hlk2:∀m,(Instr.lookup 97 (.map (some c.nb)) (.string i2.post.1) false).run Tryz.prog (W1.drewN m)=.ok (.pointer (some ⟨g2.b,0,none⟩)) (W1.drewN m):=λm=>(H1.drewN m).look hg2 (aQ A) (by unfold maxLen;have:=L.lz;show i2.post.1.size<=_;omega)
 unfold aU;unfold aU at hW1
 go_enter Tryz.func105,Tryz.ntmps105
 go_wp2
 go_quiet (fail)
 generalize hW2:W1.drewN nq=W2;have H2:Hist W2 R tg c (its.map Itm.raw) cc gs iv:=hW2▸H1.drewN nq;have F2:Frm tg (λt=>itT k t\/itT k2 t) W W2 tg:=hW2▸F1.drewN nq;have b2:W2.heap[N]?=W1.heap[N]?:=by rw[<- hW2];rfl
 rw[b1]at b2;clear l1 l2 h8 hlk hlk2 b1;have nb1:N≠g.b:=by have:=(H.it k g _ hg (aQ hi)).lt;omega
 have nb2:N≠g2.b:=by have:=(H.it k2 g2 _ hg2 (aQ A)).lt;omega
 have hI:=H2.it k g _ hg (aQ hi);have hJ:=H2.it k2 g2 _ hg2 (aQ A);have t2:W2.cell? ⟨N,1,none⟩=some (.int .i64 f):=by simp[World.cell?,b2,aU]
 obtain⟨ba,ca,hsa,_⟩:=hI.st.pos (by show 0<(i.done++_).length;simp);obtain⟨bb,cb,hsb,_⟩:=hJ.st.pos (by show 0<(i2.done++_).length;simp);have e1:i.raw.st.length=i.done.length+1:=by show(i.done++_).length=_;simp
 have e2:i2.raw.st.length=i2.done.length+1:=by show(i2.done++_).length=_;simp
 have hsa':=hsa;have hsb':=hsb;rw[e1]at hsa';rw[e2]at hsb';have s0:W2.cell? ⟨ba,i.done.length*4,none⟩=some (.int .i64 i.off):=ff (hsa▸hI.st) (ss:=i.done) rfl (i:=0) rfl;have s1:W2.cell? ⟨ba,i.done.length*4+1,none⟩=some (.int .i64 i.arr):=ff (hsa▸hI.st) (ss:=i.done) rfl (i:=1) rfl;have s2:W2.cell? ⟨bb,i2.done.length*4,none⟩=some (.int .i64 i2.off):=ff (hsb▸hJ.st) (ss:=i2.done) rfl (i:=0) rfl
 have s3:W2.cell? ⟨bb,i2.done.length*4+1,none⟩=some (.int .i64 i2.arr):=ff (hsb▸hJ.st) (ss:=i2.done) rfl (i:=1) rfl;have cla:∀n,Calls Tryz.prog 108 #[.pointer (some ⟨g.b,0,none⟩)] (W2.drewN n) λe w'=>e=.returned (.pointer (some ⟨ba,i.done.length*4,none⟩))/\∃q,w'=(W2.drewN n).drewN q:=λn=>(Nq (hI.drewN n) (ss:=i.done) rfl (by have:=ok.dl;omega)).mono (by
  rintro e w' ⟨⟨b,cap,hb,rfl⟩,q,rfl⟩;rw[hsa']at hb;cases hb;exact⟨rfl,q,rfl⟩)
 have clb:∀n,Calls Tryz.prog 108 #[.pointer (some ⟨g2.b,0,none⟩)] (W2.drewN n) λe w'=>e=.returned (.pointer (some ⟨bb,i2.done.length*4,none⟩))/\∃q,w'=(W2.drewN n).drewN q:=λn=>(Nq (hJ.drewN n) (ss:=i2.done) rfl (by have:=L.dl;omega)).mono (by
  rintro e w' ⟨⟨b,cap,hb,rfl⟩,q,rfl⟩;rw[hsb']at hb;cases hb;exact⟨rfl,q,rfl⟩)
 by_cases h1:i.off=i2.off
 case neg=>
  have h1':(i.off != i2.off)=true:=by simpa using h1
  go_wp2
  go_quiet (first | (go_at_call_of 108 (Value.pointer (some ⟨g.b,0,none⟩));exact Calls.quiet_of (cla _)) | (go_at_call_of 108 (Value.pointer (some ⟨g2.b,0,none⟩));exact Calls.quiet_of (clb _)))
  go_wp2
  refine bodyPost_ret (results_none rfl _ _ _) rfl ⟨rfl,tg,F2.drewN nq,gs,?_⟩;exact H2.drewN nq
 have h1':(i.off != i2.off)=false:=by simpa using h1
 by_cases h3:f<i.arr
 .have h3':decide (i.arr>f)=true:=by simpa using h3
  go_wp2
  go_quiet (first | (go_at_call_of 108 (Value.pointer (some ⟨g.b,0,none⟩));exact Calls.quiet_of (cla _)) | (go_at_call_of 108 (Value.pointer (some ⟨g2.b,0,none⟩));exact Calls.quiet_of (clb _)))
  go_wp2
  refine bodyPost_ret (results_none rfl _ _ _) rfl ⟨rfl,tg,F2.drewN nq,gs,?_⟩;exact H2.drewN nq
 have h3':decide (i.arr>f)=false:=by simpa using h3
 by_cases h4:f<i2.arr
 .have h4':decide (i2.arr>f)=true:=by simpa using h4
  go_wp2
  go_quiet (first | (go_at_call_of 108 (Value.pointer (some ⟨g.b,0,none⟩));exact Calls.quiet_of (cla _)) | (go_at_call_of 108 (Value.pointer (some ⟨g2.b,0,none⟩));exact Calls.quiet_of (clb _)))
  go_wp2
  refine bodyPost_ret (results_none rfl _ _ _) rfl ⟨rfl,tg,F2.drewN nq,gs,?_⟩;exact H2.drewN nq
 have h4':decide (i2.arr>f)=false:=by simpa using h4
 go_wp2
 go_quiet (first | (go_at_call_of 108 (Value.pointer (some ⟨g.b,0,none⟩));exact Calls.quiet_of (cla _)) | (go_at_call_of 108 (Value.pointer (some ⟨g2.b,0,none⟩));exact Calls.quiet_of (clb _)))
 generalize hW3:W2.drewN nq=W3;have H3:Hist W3 R tg c (its.map Itm.raw) cc gs iv:=hW3▸H2.drewN nq;have F3:Frm tg (λt=>itT k t\/itT k2 t) W W3 tg:=hW3▸F2.drewN nq;have b3:W3.heap[N]?=W2.heap[N]?:=by rw[<- hW3];rfl
 rw[b2]at b3;clear t2 s0 s1 s2 s3 cla clb;have caa:=λn=>xu ((H3.it k g _ hg (aQ hi)).drewN n) (ls:=i.bL) (lb:=i.lb) rfl (by have:=ok.bl;omega)
 have cab:=λn=>xu ((H3.it k2 g2 _ hg2 (aQ A)).drewN n) (ls:=i2.bL) (lb:=i2.lb) rfl (by have:=L.bl;omega)
 have ca0:=caa 0;rw[show W3.drewN 0=W3 from rfl]at ca0
 go_wp2_with (first
  | (go_at_call_of 161 (Value.pointer (some ⟨g.b,0,none⟩));refine ca0.mono ?_;rintro e w' ⟨rfl,q1,rfl⟩)
  | (go_at_call_of 161 (Value.pointer (some ⟨g2.b,0,none⟩));refine(cab _).mono ?_;rintro e w' ⟨rfl,q2,rfl⟩))
 generalize hW4:W3.drewN (q1+q2)=G;have H4:Hist G R tg c (its.map Itm.raw) cc gs iv:=hW4▸H3.drewN (q1+q2);have F4:Frm tg (λt=>itT k t\/itT k2 t) W G tg:=hW4▸F3.drewN (q1+q2);have b4:G.heap[N]?=some (.cells (aU (k1,f,(pl,pf,pt,pc,pa),i.post.1,i2.post.1,ln)) 59 (0,0)):=by rw[<- hW4];exact b3
 clear caa cab ca0
 go_cut []from 57 to 82 (λwx=>∃tg' gs' g' g2',Frm tg (λt=>itT k t\/itT k2 t) W wx tg'/\Hist wx R tg' c (((its.set k {i with sL:=i.sL++[i.sn],sn:=f}).set k2 {i2 with sL:=i2.sL++[i2.sn],sn:=f}).map Itm.raw) cc gs' iv/\
  gs'[k]?=some g'/\g'.b=g.b/\gs'[k2]?=some g2'/\g2'.b=g2.b/\wx.heap[N]?=some (.cells (aU (k1,f,(pl,pf,pt,pc,pa),i.post.1,i2.post.1,ln)) 59 (0,0)))
 case first=>
  obtain⟨X,hX⟩:∃X,G.heap.size=X:=⟨_,rfl⟩;have hI4:=H4.it k g _ hg (aQ hi);have hJ4:=H4.it k2 g2 _ hg2 (aQ A);obtain⟨bi,ci,hsi,_⟩:=hI4.si.pos (by show 0<(i.sL++[i.sn]).length;simp);obtain⟨bj,cj,hsj,_⟩:=hJ4.si.pos (by show 0<(i2.sL++[i2.sn]).length;simp)
  have c7:∀(V:World) (tv:Tag),Hist V R tv c (its.map Itm.raw) cc gs iv->V.cell? ⟨g.b,7,none⟩=some (.slice (some ⟨bi,0,none⟩) i.raw.si.length ci)/\V.cell? ⟨g2.b,7,none⟩=some (.slice (some ⟨bj,0,none⟩) i2.raw.si.length cj)/\V.frozen? ⟨g.b,7,none⟩=false/\V.frozen? ⟨g2.b,7,none⟩=false:=λV tv h=>
   ⟨hsi▸(h.it k g _ hg (aQ hi)).cell (j:=7) rfl,hsj▸(h.it k2 g2 _ hg2 (aQ A)).cell (j:=7) rfl,(h.it k g _ hg (aQ hi)).free 7,(h.it k2 g2 _ hg2 (aQ A)).free 7⟩
  have b41:∀(V:World),V.heap[N]?=G.heap[N]?->V.cell? ⟨N,1,none⟩=some (.int .i64 f):=λV h=>by simp[World.cell?,h,b4,aU]
  have hl1:i.raw.si.length<100000:=by show(i.sL++[i.sn]).length<_;have:=ok.sl;simp;omega
  have hl2:i2.raw.si.length<100000:=by show(i2.sL++[i2.sn]).length<_;have:=L.sl;simp;omega
  have z:∀o:Obj,(G.alloc o).heap.size=X+1:=λo=>by rw[qH,hX]
  have P1:=(H4.alloc (.cells #[.int .i64 f] 3)).drewN 1;have P2:=((H4.alloc (.cells #[.int .i64 f] 3)).alloc (.cells #[.int .i64 f] 3)).drewN 1;have x1:((G.alloc (.cells #[.int .i64 f] 3)).drewN 1).heap[X]?=some (.cells #[.int .i64 f] 3 (0,0)):=by rw[<- hX];exact World.alloc_heap_new G _
  have x2:(((G.alloc (.cells #[.int .i64 f] 3)).alloc (.cells #[.int .i64 f] 3)).drewN 1).heap[X]?=some (.cells #[.int .i64 f] 3 (0,0)):=(Below.heap_alloc _ _ _ (by rw[z];omega)).trans x1;have x3:(((G.alloc (.cells #[.int .i64 f] 3)).alloc (.cells #[.int .i64 f] 3)).drewN 1).heap[X+1]?=some (.cells #[.int .i64 f] 3 (0,0)):=by rw[<- z (.cells #[.int .i64 f] 3)];exact World.alloc_heap_new _ _
  obtain⟨a1,d1,U1,u1,p1,K1,r1,f1⟩:=P1.appS hg (aQ hi) hl1 x1;obtain⟨a2,d2,U2,u2,p2,K2,r2,f2⟩:=P2.appS hg (aQ hi) hl1 x2;obtain⟨a3,d3,U3,u3,p3,K3,r3,f3⟩:=P2.appS hg (aQ hi) hl1 x3;have y1:(U1.alloc (.cells #[.int .i64 f] 3)).heap[U1.heap.size]?=some (.cells #[.int .i64 f] 3 (0,0)):=World.alloc_heap_new U1 _;have nt:∀b,X<=b->tg b≠5*k+7:=λb h=>by rw[H4.new b Z];omega
  have y2:U2.heap[X+1]?=some (.cells #[.int .i64 f] 3 (0,0)):=(f2.lo (by show _<((G.alloc _).alloc _).heap.size;rw[qH,z];omega) (nt _ Z)).trans x3;have y3:U3.heap[X]?=some (.cells #[.int .i64 f] 3 (0,0)):=(f3.lo (by show _<((G.alloc _).alloc _).heap.size;rw[qH,z];omega) (nt _ Z)).trans x2;obtain⟨e1,h1,V1,v1,q1,L1,s1,n1⟩:=(K1.alloc (.cells #[.int .i64 f] 3)).appS hg2 (aQ A) hl2 y1
  obtain⟨e2,h2,V2,v2,q2,L2,s2,n2⟩:=K2.appS hg2 (aQ A) hl2 y2;obtain⟨e3,h3,V3,v3,q3,L3,s3,n3⟩:=K3.appS hg2 (aQ A) hl2 y3;rw[hsi]at p1 p2 p3;rw[hsj]at q1 q2 q3;obtain⟨ca1,ca2,_,_⟩:=c7 G _ H4;obtain⟨cb1,cb2,_,_⟩:=c7 U1 _ K1;obtain⟨cc1,cc2,_,_⟩:=c7 U2 _ K2;obtain⟨cd1,cd2,_,_⟩:=c7 U3 _ K3;obtain⟨ce1,ce2,ce3,ce4⟩:=c7 V1 _ L1;obtain⟨cf1,cf2,cf3,cf4⟩:=c7 V2 _ L2;obtain⟨cg1,cg2,cg3,cg4⟩:=c7 V3 _ L3
  have tN:tg N=0:=H.new N Z;have hNX:N<X:=by have:=F4.chg.size;rw[<- hX];exact(qJ.1 b4).1
  have dn1:U1.heap[N]?=G.heap[N]?:=(f1.lo (by show _<(G.alloc _).heap.size;rw[z];omega) (by rw[tN];omega)).trans (Below.heap_alloc _ _ _ Z);have dn2:U2.heap[N]?=G.heap[N]?:=(f2.lo (by show _<((G.alloc _).alloc _).heap.size;rw[qH,z];omega) (by rw[tN];omega)).trans ((Below.heap_alloc _ _ _ (by rw[z];omega)).trans (Below.heap_alloc _ _ _ Z))
  have dn3:U3.heap[N]?=G.heap[N]?:=(f3.lo (by show _<((G.alloc _).alloc _).heap.size;rw[qH,z];omega) (by rw[tN];omega)).trans ((Below.heap_alloc _ _ _ (by rw[z];omega)).trans (Below.heap_alloc _ _ _ Z));have de0:=b41 G rfl;have de1:=b41 U1 dn1;have de2:=b41 U2 dn2;have de3:=b41 U3 dn3;have hgX:g.b<X:=by rw[<- hX];exact hI4.lt
  have hjX:g2.b<X:=by rw[<- hX];exact hJ4.lt
  have ne1:X≠N:=Z;have ne2:X≠g.b:=Z;have ne3:X≠g2.b:=Z;have ne4:X+1≠N:=Z;have ne5:X+1≠g.b:=Z;have ne6:X+1≠g2.b:=Z;have su1:X+1<=U1.heap.size:=by have:=f1.chg.size;rw[show((G.alloc (.cells #[.int .i64 f] 3)).drewN 1).heap.size=X+1 from z _]at this;exact this
  have ne7:U1.heap.size≠N:=Z;have ne8:U1.heap.size≠g.b:=Z;have ne9:U1.heap.size≠g2.b:=Z;have hbb:g.b≠g2.b:=λe=>by have h1:=hI4.tb;rw[e,hJ4.tb]at h1;omega
  have hbb':g2.b≠g.b:=λe=>hbb e.symm
  change (Builtin.append_ #[30,30] 30 #[.slice (some ⟨bi,0,none⟩) i.raw.si.length ci,.slice (some ⟨X,0,none⟩) 1 1]).run Tryz.prog (G.alloc (.cells #[.int .i64 f] 3)).drew=_ at p1
  change (Builtin.append_ #[30,30] 30 #[.slice (some ⟨bi,0,none⟩) i.raw.si.length ci,.slice (some ⟨X,0,none⟩) 1 1]).run Tryz.prog ((G.alloc (.cells #[.int .i64 f] 3)).alloc (.cells #[.int .i64 f] 3)).drew=_ at p2
  change (Builtin.append_ #[30,30] 30 #[.slice (some ⟨bi,0,none⟩) i.raw.si.length ci,.slice (some ⟨X+1,0,none⟩) 1 1]).run Tryz.prog ((G.alloc (.cells #[.int .i64 f] 3)).alloc (.cells #[.int .i64 f] 3)).drew=_ at p3
  have tU1:u1 N=0:=(f1.tag N (by show _<(G.alloc _).heap.size;rw[z];omega)).trans tN;have tU2:u2 N=0:=(f2.tag N (by show _<((G.alloc _).alloc _).heap.size;rw[qH,z];omega)).trans tN;have tU3:u3 N=0:=(f3.tag N (by show _<((G.alloc _).alloc _).heap.size;rw[qH,z];omega)).trans tN
  have su2:X+1<=U2.heap.size:=by have:=f2.chg.size;rw[show(((G.alloc (.cells #[.int .i64 f] 3)).alloc (.cells #[.int .i64 f] 3)).drewN 1).heap.size=X+1+1 from by show((G.alloc _).alloc _).heap.size=_;rw[qH,z]]at this;omega
  have su3:X+1<=U3.heap.size:=by have:=f3.chg.size;rw[show(((G.alloc (.cells #[.int .i64 f] 3)).alloc (.cells #[.int .i64 f] 3)).drewN 1).heap.size=X+1+1 from by show((G.alloc _).alloc _).heap.size=_;rw[qH,z]]at this;omega
  have dv1:V1.heap[N]?=G.heap[N]?:=(n1.lo (by rw[qH];omega) (by rw[tU1];omega)).trans ((Below.heap_alloc _ _ _ Z).trans dn1);have dv2:V2.heap[N]?=G.heap[N]?:=(n2.lo Z (by rw[tU2];omega)).trans dn2;have dv3:V3.heap[N]?=G.heap[N]?:=(n3.lo Z (by rw[tU3];omega)).trans dn3;have dw1:=b41 V1 dv1;have dw2:=b41 V2 dv2;have dw3:=b41 V3 dv3;have oo:∀t,t=5*k+7->itT k t\/itT k2 t:=λt h=>.inl ⟨Z,Z⟩
  have oo2:∀t,t=5*k2+7->itT k t\/itT k2 t:=λt h=>.inr ⟨Z,Z⟩
  have T1:=swS ((((F4.trans (Frm.alloc H4.new (.cells #[.int .i64 f] 3))).drewN 1).trans (f1.sub oo)).trans ((Frm.alloc K1.new (.cells #[.int .i64 f] 3)).trans (n1.sub oo2))) L1 hg hi hg2 A hne ((r1.fr (Frm.alloc (O:=λ_=>False) K1.new (.cells #[.int .i64 f] 3)) (λh=>h)).fr n1 Z) s1 (dv1.trans b4) nb1 nb2
  have T2:=swS (((((F4.trans (Frm.alloc H4.new (.cells #[.int .i64 f] 3))).trans (Frm.alloc (H4.alloc _).new (.cells #[.int .i64 f] 3))).drewN 1).trans (f2.sub oo)).trans (n2.sub oo2)) L2 hg hi hg2 A hne (r2.fr n2 Z) s2 (dv2.trans b4) nb1 nb2
  have T3:=swS (((((F4.trans (Frm.alloc H4.new (.cells #[.int .i64 f] 3))).trans (Frm.alloc (H4.alloc _).new (.cells #[.int .i64 f] 3))).drewN 1).trans (f3.sub oo)).trans (n3.sub oo2)) L3 hg hi hg2 A hne (r3.fr n3 Z) s3 (dv3.trans b4) nb1 nb2;obtain⟨ch1,ch2,_,_⟩:=c7 (U1.alloc (.cells #[.int .i64 f] 3)) _ (K1.alloc _)
  have ch3:=b41 (U1.alloc (.cells #[.int .i64 f] 3)) ((Below.heap_alloc _ _ _ Z).trans dn1);have nb1':=nb1.symm;have nb2':=nb2.symm;generalize i.raw.si.length=z1 at p1 p2 p3 ca1 cb1 cc1 cd1 ce1 cf1 cg1 ch1 T1 T2 T3;generalize i2.raw.si.length=z2 at q1 q2 q3 ca2 cb2 cc2 cd2 ce2 cf2 cg2 ch2 T1 T2 T3
  clear oo oo2 tU1 tU2 tU3 dv1 dv2 dv3 c7 b41 z P1 P2 x1 x2 x3 y1 y2 y3 nt dn1 dn2 dn3 H1 H2 H3 F1 F2 F3 hI hJ hsa hsb hsa' hsb' hW1 hW2 hW3 hW4
--R4
  have hT:G.drew.cell? ⟨N,1,none⟩=some (.int .i64 f):=de0;have hS:G.drew.cell? ⟨g.b,7,none⟩=some (.slice (some ⟨bi,0,none⟩) z1 ci)/\G.drew.cell? ⟨g2.b,7,none⟩=some (.slice (some ⟨bj,0,none⟩) z2 cj):=⟨ca1,ca2⟩
  refine nJ (λw=>w.cell? ⟨N,1,none⟩=some (.int .i64 f)) (λw=>w.cell? ⟨g.b,7,none⟩=some (.slice (some ⟨bi,0,none⟩) z1 ci)/\w.cell? ⟨g2.b,7,none⟩=some (.slice (some ⟨bj,0,none⟩) z2 cj)) (λi=>decide (20<=i)) (by kernel_rfl) ?_;refine aX 0 ?_;refine aX 1 ?_;refine aX 2 ?_;refine aX 3 ?_;refine aX 4 ?_;refine aX 5 ?_;refine lU 6 ?_;refine aX 7 ?_;refine aX 8 ?_;refine aX 11 ?_;refine aX 12 ?_
  refine aX 13 ?_;refine aX 14 ?_;refine lU 15 ?_;refine aX 16 ?_;refine aX 17 ?_;refine mV (i:=9) (j:=18) (by kernel_rfl) rfl rfl (by rfl) (by rfl) (λK u=>?_) (λK u=>?_)
  .go_simp
   refine ji u ?_;clear u K;refine mV (i:=10) (j:=18) (by kernel_rfl) rfl rfl (by rfl) (by rfl) (λK u=>?_) (λK u=>?_)
   .refine Lib.wp_append_run _ (.tmp 63) (.tmp 66) 30 30 (by rfl) _ _ rfl rfl _ _ p1 ?_;refine ji u ?_;clear u K;refine bA 18 ?_;refine pq 19 λK u=>?_
    refine Lib.wp_append_run _ (.tmp 72) (.tmp 75) 30 30 (by rfl) _ _ rfl rfl _ _ q1 ?_;refine ji u ?_;clear u K;refine bA 20 ?_;refine bA 21 ?_;refine bA 22 ?_;refine bA 23 ?_;refine bA 24 ?_;refine bA 25 ?_;refine bA 26 ?_;refine bA 27 ?_;refine cU (by kernel_rfl) ?_ _
    go_wp2_with fail
    go_meet
    case rel=>exact T1
   .go_simp
    refine ji u ?_;clear u K;refine pq 10 λK u=>?_
    refine Lib.wp_append_run _ (.tmp 63) (.tmp 66) 30 30 (by rfl) _ _ rfl rfl _ _ p2 ?_;refine ji u ?_;clear u K;refine pq 19 λK u=>?_
    refine Lib.wp_append_run _ (.tmp 72) (.tmp 75) 30 30 (by rfl) _ _ rfl rfl _ _ q2 ?_;refine ji u ?_;clear u K;refine bA 20 ?_;refine bA 21 ?_;refine bA 22 ?_;refine bA 23 ?_;refine bA 24 ?_;refine bA 25 ?_;refine bA 26 ?_;refine bA 27 ?_;refine cU (by kernel_rfl) ?_ _
    go_wp2_with fail
    go_meet
    case rel=>exact T2
  .go_simp
   refine ji u ?_;clear u K;refine bA 9 ?_;refine pq 10 λK u=>?_
   refine Lib.wp_append_run _ (.tmp 63) (.tmp 66) 30 30 (by rfl) _ _ rfl rfl _ _ p3 ?_;refine ji u ?_;clear u K;refine pq 19 λK u=>?_
   refine Lib.wp_append_run _ (.tmp 72) (.tmp 75) 30 30 (by rfl) _ _ rfl rfl _ _ q3 ?_;refine ji u ?_;clear u K;refine bA 20 ?_;refine bA 21 ?_;refine bA 22 ?_;refine bA 23 ?_;refine bA 24 ?_;refine bA 25 ?_;refine bA 26 ?_;refine bA 27 ?_;refine cU (by kernel_rfl) ?_ _
   go_wp2_with fail
   go_meet
   case rel=>exact T3
--E4
 case rest=>
 obtain⟨tg5,gs5,g5,j5,F5,H5,hg5,eg5,hj5,ej5,_⟩:=hcut;have hi5:((its.set k {i with sL:=i.sL++[i.sn],sn:=f}).set k2 {i2 with sL:=i2.sL++[i2.sn],sn:=f})[k]?=some {i with sL:=i.sL++[i.sn],sn:=f}:=(KH hi A hne).1;have hj5':((its.set k {i with sL:=i.sL++[i.sn],sn:=f}).set k2 {i2 with sL:=i2.sL++[i2.sn],sn:=f})[k2]?=some {i2 with sL:=i2.sL++[i2.sn],sn:=f}:=(KH hi A hne).2
 clear H H1 H2 H3 H4 F1 F2 F3 F4 hI hJ hsa hsb hsa' hsb' b2 b3 b4 hW1 hW2 hW3 hW4
 go_wp2_with fail
 go_cut []from 83 to 106 (λwx=>∃tg' gs' g' g2',Frm tg (λt=>itT k t\/itT k2 t) W wx tg'/\Hist wx R tg' c (((its.set k (G9 i i2.lb f)).set k2 (G9 i2 i.lb f)).map Itm.raw) cc gs' iv/\
  gs'[k]?=some g'/\g'.b=g.b/\gs'[k2]?=some g2'/\g2'.b=g2.b)
 case first=>
  obtain⟨X,hX⟩:∃X,wc.heap.size=X:=⟨_,rfl⟩;have hI4:=H5.it k g5 _ hg5 (aQ hi5);have hJ4:=H5.it k2 j5 _ hj5 (aQ hj5');obtain⟨bi,ci,hsi,_⟩:=hI4.la.pos (by show 0<(i.bL++[i.lb]).length;simp);obtain⟨bj,cj,hsj,_⟩:=hJ4.la.pos (by show 0<(i2.bL++[i2.lb]).length;simp)
  have c7:∀(V:World) (tv:Tag),Hist V R tv c (((its.set k {i with sL:=i.sL++[i.sn],sn:=f}).set k2 {i2 with sL:=i2.sL++[i2.sn],sn:=f}).map Itm.raw) cc gs5 iv->V.cell? ⟨g.b,8,none⟩=some (.slice (some ⟨bi,0,none⟩) i.raw.la.length ci)/\V.cell? ⟨g2.b,8,none⟩=some (.slice (some ⟨bj,0,none⟩) i2.raw.la.length cj)/\V.frozen? ⟨g.b,8,none⟩=false/\V.frozen? ⟨g2.b,8,none⟩=false:=λV tv h=>
   eg5▸ej5▸⟨hsi▸(h.it k g5 _ hg5 (aQ hi5)).cell (j:=8) rfl,hsj▸(h.it k2 j5 _ hj5 (aQ hj5')).cell (j:=8) rfl,(h.it k g5 _ hg5 (aQ hi5)).free 8,(h.it k2 j5 _ hj5 (aQ hj5')).free 8⟩
  have hl1:i.raw.la.length<100000:=by show(i.bL++[i.lb]).length<_;have:=ok.bl;simp;omega
  have hl2:i2.raw.la.length<100000:=by show(i2.bL++[i2.lb]).length<_;have:=L.bl;simp;omega
  have z:∀o:Obj,(wc.alloc o).heap.size=X+1:=λo=>by rw[qH,hX]
  have P1:=(H5.alloc (.cells #[.string i2.lb] 9)).drewN 1;have P2:=((H5.alloc (.cells #[.string i2.lb] 9)).alloc (.cells #[.string i.lb] 9)).drewN 1;have P3:=((H5.alloc (.cells #[.string i.lb] 9)).alloc (.cells #[.string i2.lb] 9)).drewN 1;have x1:((wc.alloc (.cells #[.string i2.lb] 9)).drewN 1).heap[X]?=some (.cells #[.string i2.lb] 9 (0,0)):=by rw[<- hX];exact World.alloc_heap_new wc _
  have x2:(((wc.alloc (.cells #[.string i2.lb] 9)).alloc (.cells #[.string i.lb] 9)).drewN 1).heap[X]?=some (.cells #[.string i2.lb] 9 (0,0)):=(Below.heap_alloc _ _ _ (by rw[z];omega)).trans x1
  have x3:(((wc.alloc (.cells #[.string i.lb] 9)).alloc (.cells #[.string i2.lb] 9)).drewN 1).heap[X+1]?=some (.cells #[.string i2.lb] 9 (0,0)):=by rw[<- z (.cells #[.string i.lb] 9)];exact World.alloc_heap_new _ _
  have x2':(((wc.alloc (.cells #[.string i2.lb] 9)).alloc (.cells #[.string i.lb] 9)).drewN 1).heap[X+1]?=some (.cells #[.string i.lb] 9 (0,0)):=by rw[<- z (.cells #[.string i2.lb] 9)];exact World.alloc_heap_new _ _
  have x3':(((wc.alloc (.cells #[.string i.lb] 9)).alloc (.cells #[.string i2.lb] 9)).drewN 1).heap[X]?=some (.cells #[.string i.lb] 9 (0,0)):=(Below.heap_alloc _ _ _ (by rw[z];omega)).trans (by rw[<- hX];exact World.alloc_heap_new wc _);obtain⟨a1,d1,U1,u1,p1,K1,r1,f1⟩:=P1.appL hg5 (aQ hi5) hl1 x1;obtain⟨a2,d2,U2,u2,p2,K2,r2,f2⟩:=P2.appL hg5 (aQ hi5) hl1 x2
  obtain⟨a3,d3,U3,u3,p3,K3,r3,f3⟩:=P3.appL hg5 (aQ hi5) hl1 x3;have y1:(U1.alloc (.cells #[.string i.lb] 9)).heap[U1.heap.size]?=some (.cells #[.string i.lb] 9 (0,0)):=World.alloc_heap_new U1 _;have nt:∀b,X<=b->tg5 b≠5*k+8:=λb h=>by rw[H5.new b Z];omega
  have y2:U2.heap[X+1]?=some (.cells #[.string i.lb] 9 (0,0)):=(f2.lo (by show _<((wc.alloc _).alloc _).heap.size;rw[qH,z];omega) (nt _ Z)).trans x2';have y3:U3.heap[X]?=some (.cells #[.string i.lb] 9 (0,0)):=(f3.lo (by show _<((wc.alloc _).alloc _).heap.size;rw[qH,z];omega) (nt _ Z)).trans x3';obtain⟨e1,h1,V1,v1,q1,L1,s1,n1⟩:=(K1.alloc (.cells #[.string i.lb] 9)).appL hj5 (aQ hj5') hl2 y1
  obtain⟨e2,h2,V2,v2,q2,L2,s2,n2⟩:=K2.appL hj5 (aQ hj5') hl2 y2;obtain⟨e3,h3,V3,v3,q3,L3,s3,n3⟩:=K3.appL hj5 (aQ hj5') hl2 y3;rw[hsi]at p1 p2 p3;rw[hsj]at q1 q2 q3;obtain⟨ca1,ca2,_,_⟩:=c7 wc _ H5;obtain⟨cb1,cb2,_,_⟩:=c7 U1 _ K1;obtain⟨cc1,cc2,_,_⟩:=c7 U2 _ K2;obtain⟨cd1,cd2,_,_⟩:=c7 U3 _ K3;obtain⟨ce1,ce2,ce3,ce4⟩:=c7 V1 _ L1;obtain⟨cf1,cf2,cf3,cf4⟩:=c7 V2 _ L2;obtain⟨cg1,cg2,cg3,cg4⟩:=c7 V3 _ L3
  obtain⟨ch1,ch2,_,_⟩:=c7 (U1.alloc (.cells #[.string i.lb] 9)) _ (K1.alloc _);have hgX:g.b<X:=by rw[<- hX,<- eg5];exact hI4.lt
  have hjX:g2.b<X:=by rw[<- hX,<- ej5];exact hJ4.lt
  have ne2:X≠g.b:=Z;have ne3:X≠g2.b:=Z;have ne5:X+1≠g.b:=Z;have ne6:X+1≠g2.b:=Z;have hbb:g.b≠g2.b:=λe=>by have h1:=hI4.tb;rw[eg5,e,<- ej5,hJ4.tb]at h1;omega
  have hbb':g2.b≠g.b:=λe=>hbb e.symm
  change (Builtin.append_ #[23,23] 23 #[.slice (some ⟨bi,0,none⟩) i.raw.la.length ci,.slice (some ⟨X,0,none⟩) 1 1]).run Tryz.prog (wc.alloc (.cells #[.string i2.lb] 9)).drew=.ok (.slice (some ⟨a1,0,none⟩) (i.raw.la.length+1) d1) U1 at p1
  change (Builtin.append_ #[23,23] 23 #[.slice (some ⟨bi,0,none⟩) i.raw.la.length ci,.slice (some ⟨X,0,none⟩) 1 1]).run Tryz.prog ((wc.alloc (.cells #[.string i2.lb] 9)).alloc (.cells #[.string i.lb] 9)).drew=.ok (.slice (some ⟨a2,0,none⟩) (i.raw.la.length+1) d2) U2 at p2
  change (Builtin.append_ #[23,23] 23 #[.slice (some ⟨bi,0,none⟩) i.raw.la.length ci,.slice (some ⟨X+1,0,none⟩) 1 1]).run Tryz.prog ((wc.alloc (.cells #[.string i.lb] 9)).alloc (.cells #[.string i2.lb] 9)).drew=.ok (.slice (some ⟨a3,0,none⟩) (i.raw.la.length+1) d3) U3 at p3
  change (Builtin.append_ #[23,23] 23 #[.slice (some ⟨bj,0,none⟩) i2.raw.la.length cj,.slice (some ⟨U1.heap.size,0,none⟩) 1 1]).run Tryz.prog (U1.alloc (.cells #[.string i.lb] 9))=.ok (.slice (some ⟨e1,0,none⟩) (i2.raw.la.length+1) h1) V1 at q1
  change (Builtin.append_ #[23,23] 23 #[.slice (some ⟨bj,0,none⟩) i2.raw.la.length cj,.slice (some ⟨X+1,0,none⟩) 1 1]).run Tryz.prog U2=.ok (.slice (some ⟨e2,0,none⟩) (i2.raw.la.length+1) h2) V2 at q2
  change (Builtin.append_ #[23,23] 23 #[.slice (some ⟨bj,0,none⟩) i2.raw.la.length cj,.slice (some ⟨X,0,none⟩) 1 1]).run Tryz.prog U3=.ok (.slice (some ⟨e3,0,none⟩) (i2.raw.la.length+1) h3) V3 at q3
  have oo:∀t,t=5*k+8->itT k t\/itT k2 t:=λt h=>.inl ⟨Z,Z⟩
  have oo2:∀t,t=5*k2+8->itT k t\/itT k2 t:=λt h=>.inr ⟨Z,Z⟩
  have fin:∀(V:World) (tv:Tag) (va vb:Value),Frm tg (λt=>itT k t\/itT k2 t) W V tv->Hist V R tv c (((its.set k {i with sL:=i.sL++[i.sn],sn:=f}).set k2 {i2 with sL:=i2.sL++[i2.sn],sn:=f}).map Itm.raw) cc gs5 iv->eU V R tv (5*k+8) 9 1 va (i.raw.la.length+1) ((i.raw.la++[i2.lb]).map Value.string)->eU V R tv (5*k2+8) 9 1 vb (i2.raw.la.length+1) ((i2.raw.la++[i.lb]).map Value.string)->
    ∃tg' gs' g' g2',Frm tg (λt=>itT k t\/itT k2 t) W ((V.setCell ⟨g.b,8,none⟩ va).setCell ⟨g2.b,8,none⟩ vb) tg'/\Hist ((V.setCell ⟨g.b,8,none⟩ va).setCell ⟨g2.b,8,none⟩ vb) R tg' c (((its.set k (G9 i i2.lb f)).set k2 (G9 i2 i.lb f)).map Itm.raw) cc gs' iv/\gs'[k]?=some g'/\g'.b=g.b/\gs'[k2]?=some g2'/\g2'.b=g2.b:=by
   intro V tv va vb F Hv ra rb;obtain⟨tg',gs',g',g2',F',H',z1,z2,z3,z4,_⟩:=swL F Hv hg5 hi5 hj5 hj5' hne ra rb Hv.hc (λe=>by have:=Hv.th;rw[e,(Hv.it k g5 _ hg5 (aQ hi5)).tb]at this;omega) (λe=>by have:=Hv.th;rw[e,(Hv.it k2 j5 _ hj5 (aQ hj5')).tb]at this;omega);rw[Zm hne]at H';rw[eg5,ej5]at F' H';exact⟨tg',gs',g',g2',F',H',z1,z2.trans eg5,z3,z4.trans ej5⟩
  have T1:=fin V1 _ (.slice (some ⟨a1,0,none⟩) (i.raw.la.length+1) d1) (.slice (some ⟨e1,0,none⟩) (i2.raw.la.length+1) h1) ((((F5.trans (Frm.alloc H5.new (.cells #[.string i2.lb] 9))).drewN 1).trans (f1.sub oo)).trans ((Frm.alloc K1.new (.cells #[.string i.lb] 9)).trans (n1.sub oo2))) L1 ((r1.fr (Frm.alloc (O:=λ_=>False) K1.new (.cells #[.string i.lb] 9)) (λh=>h)).fr n1 Z) s1
  have T2:=fin V2 _ (.slice (some ⟨a2,0,none⟩) (i.raw.la.length+1) d2) (.slice (some ⟨e2,0,none⟩) (i2.raw.la.length+1) h2) (((((F5.trans (Frm.alloc H5.new (.cells #[.string i2.lb] 9))).trans (Frm.alloc (H5.alloc _).new (.cells #[.string i.lb] 9))).drewN 1).trans (f2.sub oo)).trans (n2.sub oo2)) L2 (r2.fr n2 Z) s2
  have T3:=fin V3 _ (.slice (some ⟨a3,0,none⟩) (i.raw.la.length+1) d3) (.slice (some ⟨e3,0,none⟩) (i2.raw.la.length+1) h3) (((((F5.trans (Frm.alloc H5.new (.cells #[.string i.lb] 9))).trans (Frm.alloc (H5.alloc _).new (.cells #[.string i2.lb] 9))).drewN 1).trans (f3.sub oo)).trans (n3.sub oo2)) L3 (r3.fr n3 Z) s3;generalize i.raw.la.length=z1 at p1 p2 p3 ca1 cb1 cc1 cd1 ce1 cf1 cg1 ch1 T1 T2 T3
  generalize i2.raw.la.length=z2 at q1 q2 q3 ca2 cb2 cc2 cd2 ce2 cf2 cg2 ch2 T1 T2 T3;clear fin oo oo2 c7 z P1 P2 P3 x1 x2 x3 x2' x3' y1 y2 y3 nt;have hT:True:=trivial;have hS:wc.drew.cell? ⟨g.b,8,none⟩=some (.slice (some ⟨bi,0,none⟩) z1 ci)/\wc.drew.cell? ⟨g2.b,8,none⟩=some (.slice (some ⟨bj,0,none⟩) z2 cj):=⟨ca1,ca2⟩
  refine nJ (λ_=>True) (λw=>w.cell? ⟨g.b,8,none⟩=some (.slice (some ⟨bi,0,none⟩) z1 ci)/\w.cell? ⟨g2.b,8,none⟩=some (.slice (some ⟨bj,0,none⟩) z2 cj)) (λi=>decide (18<=i)) (by kernel_rfl) ?_
--R5
  refine aX 0 ?_;refine aX 1 ?_;refine aX 2 ?_;refine aX 3 ?_;refine aX 4 ?_;refine aX 5 ?_;refine lU 6 ?_;refine aX 7 ?_;refine aX 10 ?_;refine aX 11 ?_;refine aX 12 ?_;refine aX 13 ?_;refine lU 14 ?_;refine aX 15 ?_;refine mV (i:=8) (j:=16) (by kernel_rfl) rfl rfl (by rfl) (by rfl) (λK u=>?_) (λK u=>?_)
  .go_simp
   refine ji u ?_;clear u K;refine mV (i:=9) (j:=16) (by kernel_rfl) rfl rfl (by rfl) (by rfl) (λK u=>?_) (λK u=>?_)
   .refine Lib.wp_append_run _ (.tmp 89) (.tmp 91) 23 23 (by rfl) _ _ rfl rfl _ _ p1 ?_;refine ji u ?_;clear u K;refine bA 16 ?_;refine pq 17 λK u=>?_
    refine Lib.wp_append_run _ (.tmp 97) (.tmp 99) 23 23 (by rfl) _ _ rfl rfl _ _ q1 ?_;refine ji u ?_;clear u K;refine bA 18 ?_;refine bA 19 ?_;refine bA 20 ?_;refine bA 21 ?_;refine bA 22 ?_;refine bA 23 ?_;refine bA 24 ?_;refine bA 25 ?_;refine cU (by kernel_rfl) ?_ _
    go_wp2_with fail
    go_meet
    case rel=>exact T1
   .go_simp
    refine ji u ?_;clear u K;refine pq 9 λK u=>?_
    refine Lib.wp_append_run _ (.tmp 89) (.tmp 91) 23 23 (by rfl) _ _ rfl rfl _ _ p2 ?_;refine ji u ?_;clear u K;refine pq 17 λK u=>?_
    refine Lib.wp_append_run _ (.tmp 97) (.tmp 99) 23 23 (by rfl) _ _ rfl rfl _ _ q2 ?_;refine ji u ?_;clear u K;refine bA 18 ?_;refine bA 19 ?_;refine bA 20 ?_;refine bA 21 ?_;refine bA 22 ?_;refine bA 23 ?_;refine bA 24 ?_;refine bA 25 ?_;refine cU (by kernel_rfl) ?_ _
    go_wp2_with fail
    go_meet
    case rel=>exact T2
  .go_simp
   refine ji u ?_;clear u K;refine bA 8 ?_;refine pq 9 λK u=>?_
   refine Lib.wp_append_run _ (.tmp 89) (.tmp 91) 23 23 (by rfl) _ _ rfl rfl _ _ p3 ?_;refine ji u ?_;clear u K;refine pq 17 λK u=>?_
   refine Lib.wp_append_run _ (.tmp 97) (.tmp 99) 23 23 (by rfl) _ _ rfl rfl _ _ q3 ?_;refine ji u ?_;clear u K;refine bA 18 ?_;refine bA 19 ?_;refine bA 20 ?_;refine bA 21 ?_;refine bA 22 ?_;refine bA 23 ?_;refine bA 24 ?_;refine bA 25 ?_;refine cU (by kernel_rfl) ?_ _
   go_wp2_with fail
   go_meet
   case rel=>exact T3
--E5
 case rest=>
 obtain⟨tg6,gs6,g6,j6,F6,H6,hg6,eg6,hj6,ej6⟩:=hcut;obtain⟨x,hx⟩:∃x,G9 i i2.lb f=x:=⟨_,rfl⟩;obtain⟨y,hy⟩:∃y,G9 i2 i.lb f=y:=⟨_,rfl⟩;have xp:x.post=i.post:=by rw[<- hx];rfl
 have yp:y.post=i2.post:=by rw[<- hy];rfl
 have xl:x.lb=i2.lb:=by rw[<- hx];rfl
 have yl:y.lb=i.lb:=by rw[<- hy];rfl
 have okx:OkI d (m+1) its x:=by
  rw[<- hx];exact⟨ok.off,ok.arr,ht,⟨ok.hd.1,by have:=ok.hd.2;show i.holds<=_;omega⟩,ok.dl,by show(i.sL++[i.sn]).length<=_;have:=ok.sl;simp;omega,by show(i.bL++[i.lb]).length<=_;have:=ok.bl;simp;omega,ok.el,L.to,ok.po,ok.lz⟩
 have oky:OkI d (m+1) its y:=by
  rw[<- hy];exact⟨L.off,L.arr,ht,⟨L.hd.1,by have:=L.hd.2;show i2.holds<=_;omega⟩,L.dl,by show(i2.sL++[i2.sn]).length<=_;have:=L.sl;simp;omega,by show(i2.bL++[i2.lb]).length<=_;have:=L.bl;simp;omega,L.el,ok.to,L.po,L.lz⟩
 rw[hx,hy,List.set_comm _ _ hne]at H6;have hi6:(its.set k2 y)[k]?=some i:=by rw[zW (Ne.symm hne)];exact hi
 have B6:=cT hlow hRW hB F6 (by unfold itT;omega);have hd1:=Nr E H6 B6 hg6 hi6 xp (okx.within λ_ h=>nN A yp h) Z (Zh A yp hz);rw[eg6,tG A yp,xl,List.set_comm _ _ (Ne.symm hne)]at hd1;obtain⟨x',hx'⟩:∃x',jj d cc (iy its i2.lb) x=x':=⟨_,rfl⟩;have xp':x'.post=i.post:=by
  rw[<- hx',<- xp];unfold jj
  (repeat' split)<;>rfl
 rw[hx']at hd1;have hj6':(its.set k x')[k2]?=some i2:=by rw[zW hne];exact A
 have hd2:∀w',Frm tg6 (itT k) wc w' tg6->Hist w' R tg6 c (((its.set k x').set k2 y).map Itm.raw) cc gs6 iv->_:=λw' F7 H7=>Nr E H7 (cT hlow hRW hB (F6.trans (F7.sub λt h=>.inl h)) (by unfold itT;omega)) hj6 hj6' yp (oky.within λ_ h=>nN hi xp' h) Z (Zh hi xp' hz)
 rw[ej6,tG hi xp',yl]at hd2
 go_wp2_with (first
  | (go_at_call_of 109 (Value.pointer (some ⟨g.b,0,none⟩));refine hd1.mono ?_;rintro e w' ⟨rfl,F7,H7⟩)
  | (go_at_call_of 109 (Value.pointer (some ⟨g2.b,0,none⟩));refine(hd2 _ F7 H7).mono ?_;rintro e w' ⟨rfl,F8,H8⟩))
 go_end0
 refine⟨rfl,_,(F6.trans (F7.sub λt h=>.inl h)).trans (F8.sub λt h=>.inr h),gs6,?_⟩;rw[BZ];exact H8
end Go.Eng.Top
namespace Go
variable {P:Program} {ops:Array Oper} {Q:Exit->Act->World->Prop} {md:Region.Mode} {l n:Nat}
def Oper.wpIn_of_wp{o:Oper}{a:Act}{w:World}{K:Act->World->Prop}(hd:∀c,o.op≠.defer c)(h:o.wp P a w K Q):o.wpIn (Fence.wide.inRound l) n P a w K Q:=by
 refine⟨λ_ _=>trivial,?_⟩;rw[Oper.semAt_eq _ _ _ hd];unfold Oper.wp at h;revert h;generalize (execOp a.eval o).run P w=r;intro h;unfold Oper.upon at h;unfold Oper.uponIn;split at h;exact h;exact h;exact h;exact⟨λe=>(by cases e),CallsIn.inRound l (callsIn_wide.2 h)⟩;exact⟨λe=>(by cases e),λc cs _=>by
  obtain⟨v,w',r,s⟩:=h c cs;exact⟨v,w',r,stepsIn_wide.2 s⟩⟩
 exact h;exact h.elim
def DY{i:Nat}{a:Act}{w:World}{K:Act->World->Prop}(hd:∀(i:Nat) (o:Oper) c,ops[i]?=some o->o.op≠.defer c)(hq:¬LetsOut Q)(h:wpOp P ops Q i K a w):wpOpIn (Fence.wide.inRound l) n P ops Q i K a w:=by
 unfold wpOp at h;unfold wpOpIn;cases e:ops[i]? with
 |none=>rw[e]at h;exact h|some o=>
  rw[e]at h;dsimp only at h ⊢;split;rename_i hw;rw[if_pos hw]at h;rcases h with h|h;exact Oper.wpIn_of_wp (λc=>hd i o c e) h;exact absurd h.2 hq;rename_i hw;rw[if_neg hw]at h;exact⟨λ_ _=>trivial,h⟩
def oZ(hd:∀(i:Nat) (o:Oper) c,ops[i]?=some o->o.op≠.defer c)(hq:¬LetsOut Q):∀(fuel:Nat) (listed:Array Bool) (a:Act) (w:World),wpAny P md ops Q fuel listed a w->wpAnyIn (Fence.wide.inRound l) n P md ops Q fuel listed a w|0,_,_,_,h=>h|fuel+1,listed,a,w,h=>⟨h.1,λi hi=>wpOpIn_mono (λa' w' h'=>oZ hd hq fuel _ a' w' h') (DY hd hq (h.2 i hi))⟩
def oB(ops:Array Oper):Bool:=ops.all λo=>match o.op with|.defer _=>false|_=>true
def fw(S0 S:World->Prop)(lt:Nat->Bool){id:Nat}{a:Act}{w:World}(hm:P.follows .mixedOrders=true)(hd:oB ops=true)(hq:¬LetsOut Q)
  (h:b7 P .any ops Q S0 S lt ops.size (Array.replicate ops.size false) a w.drew):(Code.region id ops true).wpIn (Fence.wide.inRound l) n P Q a w:=
 wpIn_region_any hm (oZ (λi o c e hc=>by
  have:=Array.all_eq_true'.1 hd o (Array.mem_of_getElem? e);rw[hc]at this;cases this) hq _ _ _ _ (qD _ _ _ _ h))
def oP{W:World}{a:Addr}{v:Value}{o:Obj}(h:W.cell? a=some v):(W.alloc o).cell? a=some v:=cell_kept h (World.grownBy_alloc W o none) (λr e=>by cases e)
end Go
namespace Go.Eng.Top
open Go.Proofs Go.RowKit
attribute [local go_sem] Oper.semAt_some
def due(T:Int)(i:Itm):Prop:=0<=i.line/\i.leave<T
instance (T:Int) (i:Itm):Decidable (due T i):=by unfold due;infer_instance
def gu(T:Int)(s:List Itm):Nat:=s.findIdx λi=>decide (due T i)
def aBZ(d:Dat)(cc:Li)(sb:Int->Int->ByteArray)(T:Int)(s:List Itm):List Itm:=match s[gu T s]? with|some i=>s.set (gu T s) (tR d cc sb (iy s i.lb) i)|none=>s
def fst_eq{T:Int}{s:List Itm}{k:Nat}{i:Itm}(h:s[k]?=some i)(hd:due T i)(z:∀q,q<k->∀j,s[q]?=some j->¬due T j):gu T s=k:=by
 unfold gu;have f:=(qC.1 h);rw[List.findIdx_eq f.1];refine⟨by rw[f.2];exact qR hd,λj y=>?_⟩;have u:j<s.length:=by have:=f.1;omega
 exact qY (z j y _ (qB u))
def Xg{T:Int}{s:List Itm}(f:∀q,q<s.length->∀j,s[q]?=some j->¬due T j):¬gu T s<s.length:=λh=>by
 have u:=List.findIdx_getElem (p:=λi=>decide (due T i)) (w:=h);exact f _ h _ (qB h) (vO u)
def tQ(d:Dat)(cc:Li)(sb:Int->Int->ByteArray)(to:Int)(i:Itm):(tR d cc sb to i).done.length=i.done.length+1:=by
 unfold tR jj
 (repeat' split)<;>simp
def rdD(R:Nat)(c:HC)(cc:Li)(iv:Value)(bs:List Nat)(j h:Nat)(T:Int)(s:List Itm)(W:World):Prop:=
 ∃tg f,Hist W R tg c (s.map Itm.raw) cc f iv/\f.map Gh.b=bs/\W.cell? ⟨j,0,none⟩=some (.pointer (some ⟨c.hb,0,none⟩))/\W.cell? ⟨h,0,none⟩=some (.int .i64 T)/\∀i∈s,i.done.length<=19
set_option maxRecDepth 100000 in
set_option maxHeartbeats 4000000 in
def XC{R:Nat}{c:HC}{cc:Li}{iv:Value}{bs:List Nat}{B0 B1 n:Nat}{T:Int}{d:Dat}{sb:Int->Int->ByteArray}{s0:List Itm}(hl:s0.length<1000)(hn:1<=n):
  aBa Fence.wide n Tryz.prog 162 #[.pointer (some ⟨B0,0,none⟩),.pointer (some ⟨B1,0,none⟩)] (λs=>#[.pointer (some ⟨bs.getD (gu T s) 0,0,none⟩)]) (λs=>gu T s<s.length) (aBZ d cc sb T) (rdD R c cc iv bs B0 B1 T) s0 (λs=>¬gu T s<s.length):=by
 intro l J Jx W L hdr hY h0;obtain⟨tg,gs,H,hbs,c0,c1,hdl⟩:=L _ _ h0;obtain⟨av,cv,hiv⟩:=H.rows.sl;have hlen:gs.length=s0.length:=by have:=H.len;rw[vX]at this;exact this
 rw[hlen]at hiv;have c7:W.cell? ⟨c.hb,7,none⟩=some (.slice av s0.length cv):=hiv▸H.cell (j:=7) rfl;refine callsIn_of_wp Tryz.func162 rfl trivial ?_ rfl;simp only[Tryz.ntmps162,xB,wR,yZ,Nat.reduceAdd,Nat.reduceSub,Array.replicate_succ,Array.replicate_zero,List.push_toArray,List.append_toArray,xU,qCx]
 gi_wp2
 gi_loopg [11] (s0.length) (λg p wr=>∃(k:Nat) (s:List Itm),p=.int .i64 k/\k<=s.length/\J s wr/\(∀q,q<k->∀i,s[q]?=some i->¬due T i)/\s.length=s0.length/\g=s0.length-k)
 case atStart=>exact⟨0,s0,rfl,wK _,h0,λq h=>absurd h (Nat.not_lt_zero _),rfl,rfl⟩
 case round=>
  obtain⟨k,s,rfl,hk,hJ,hno,hsl,rfl⟩:=hrel;by_cases hlt:k<s0.length
  .have hk':((k:Int)<(s0.length:Int)):=by omega
   have hk0:(0:Int)<=(k:Int):=Z;obtain⟨tg1,gs1,H1,X,c01,c11,hdl1⟩:=L _ _ hJ;have hlen1:gs1.length=s0.length:=by have:=H1.len;rw[vX]at this;omega
   obtain⟨bk,f⟩:∃b,bs[k]?=some b:=⟨_,qB (by rw[<- X,vX];omega)⟩;obtain⟨ib,ic,hib,_⟩:=H1.rows.pos Z;obtain⟨rfl,rfl⟩:av=some ⟨ib,0,none⟩/\cv=ic:=by
    rw[hiv]at hib;injection hib with h1 _ h3
    exact⟨h1,h3⟩
   have hcel:wr.cell? ⟨ib,k,none⟩=some (.pointer (some ⟨bk,0,none⟩)):=by
    refine(hib▸H1.rows).cell ?_;rw[<- X,qQ]at f;rw[qQ];cases e:gs1[k]? with
    |none=>rw[e]at f;cases f
    |some g=>rw[e]at f;cases f;rfl
   gi_wp2
   obtain⟨i0,hi0⟩:∃i,s[k]?=some i:=⟨_,qB Z⟩
   gi_loopg [] (20-i0.done.length) (λg wx=>∃(s:List Itm),J s wx/\(∀q,q<k->∀i,s[q]?=some i->¬due T i)/\s.length=s0.length/\∃i,s[k]?=some i/\g=20-i.done.length)
   case atStart=>exact⟨s,hJ,hno,hsl,i0,hi0,rfl⟩
   case round=>
    obtain⟨u,hJ2,A,y,i,hi,rfl⟩:=hrel;obtain⟨tg2,gs2,H2,hbs2,c02,c12,hdl2⟩:=L _ _ hJ2;obtain⟨g,hg,hI⟩:=H2.get (aQ hi);have hgb:g.b=bk:=by
     rw[<- hbs2,qQ,hg]at f;exact(wE f)
    have l1:wr.cell? ⟨bk,11,none⟩=some (.int .i64 i.line):=hgb▸hI.cell (j:=11) rfl;have l2:wr.cell? ⟨bk,12,none⟩=some (.int .i64 i.leave):=hgb▸hI.cell (j:=12) rfl;have G:∀m,¬due T i->J u (wr.drewN m)/\∀q,q<k+1->∀j,u[q]?=some j->¬due T j:=λm hd=>⟨hdr _ _ m hJ2,λq hq j hj=>by
     rcases wW q k with h|h;exact A q h j hj;obtain rfl:q=k:=by omega
     rw[hi]at hj;obtain rfl:=wE hj;exact hd⟩
    by_cases h1:0<=i.line;case neg=>
     have h1':decide (i.line≥0)=false:=qY h1
     gi_wp2
     refine wpIn_wide.2 ?_
     go_quiet (fail)
     gi_wp2
     gi_roundg (s0.length-(k+1))
     case measure=>omega
     case rel=>exact⟨k+1,u,by go_num,Z,(G nq (λh=>absurd h.1 Z)).1,(G nq (λh=>absurd h.1 Z)).2,y,rfl⟩
    case pos=>
    have h1':decide (i.line≥0)=true:=qR h1;by_cases h2:i.leave<T;case neg=>
     have h2':decide (i.leave<T)=false:=qY h2
     gi_wp2
     refine wpIn_wide.2 ?_
     go_quiet (fail)
     gi_wp2
     gi_roundg (s0.length-(k+1))
     case measure=>omega
     case rel=>exact⟨k+1,u,by go_num,Z,(G nq (λh=>absurd h.2 Z)).1,(G nq (λh=>absurd h.2 Z)).2,y,rfl⟩
    case pos=>
    have h2':decide (i.leave<T)=true:=qR h2;have hf:gu T u=k:=fst_eq hi ⟨h1,h2⟩ A;have hy0:=λm=>hY u (wr.drewN m) (hdr _ _ m hJ2) (by rw[hf];omega);rw[hf,show bs.getD k 0=bk by simp[f]]at hy0
    gi_wp2
    refine wpIn_wide.2 ?_
    go_quiet (fail)
    obtain⟨fn,tmps,assign,body,hy,hR⟩:=hy0 nq
    gi_wp2
    have hst:aBZ d cc sb T u=u.set k (tR d cc sb (iy u i.lb) i):=by unfold aBZ;rw[hf,hi]
    rw[hst]at hR;have hkl:k<u.length:=Z;refine hR.mono ?_;rintro e W3 (⟨rfl,hJ3⟩|⟨rfl,hJx3⟩)
    .have z:(u.set k (tR d cc sb (iy u i.lb) i))[k]?=some (tR d cc sb (iy u i.lb) i):=zV hkl;have hm:i.done.length+1<=19:=by
      obtain⟨_,_,_,_,_,_,h5⟩:=L _ _ hJ3;have:=h5 _ (qZ z);rw[tQ]at this;exact this
     gi_wp2
     gi_roundg (20-(i.done.length+1))
     case measure=>omega
     case rel=>exact⟨_,hJ3,λq hq j hj=>A q hq j (by rw[zW Z]at hj;exact hj),by rw[zX];exact y,_,z,by rw[tQ]⟩
    .gi_wp2
     refine bodyPost_ret (results_none rfl _ _ _) rfl ?_;exact⟨⟨_,rfl⟩,.inr hJx3⟩
  have hk':¬((k:Int)<(s0.length:Int)):=by omega
  gi_wp2
  go_end0
  exact⟨⟨_,rfl⟩,.inl ⟨s,Nat.le_of_not_lt (Xg (λq hq=>hno q Z)),hJ⟩⟩
variable {tg tg' tg1:Tag} {O:Nat->Prop} {W W' V V' w0:World} {R k m:Nat} {g:Gh} {r:Raw} {c:HC} {rs:List Raw} {cc:Li} {gs:List Gh} {iv:Value} {d:Dat} {l:List Itm} {x:Itm}
def aBz(E:Env w0 R c d){f:Int}(y:d.lin f)(n:Nat):∀(lv t:Int),0<=lv/\lv<=2200000->0<=t->0<=(Bt d f n lv t).2/\(Bt d f n lv t).2<=2200000:=by
 induction n with
 |zero=>intro lv t h _;exact h
 |succ n j=>
  intro lv t h u;rw[Bt];by_cases e:d.dE f t=0;rw[if_pos e];have:=E.depb f t y u e;exact j _ _ ⟨Z,this.2⟩ Z;rw[if_neg e];exact h
def Iq(E:Env w0 R c d)(f:OkI d m l x)(u:0<=x.leave/\x.leave<=2200000){tz:Int}(ht:0<=tz/\tz<d.N):OkI d m l (jj d cc tz x)/\OkL d (jj d cc tz x):=by
 have ho:=f.off;obtain⟨a,A⟩:∃a:Nat,x.off=a:=⟨x.off.toNat,Z⟩;obtain⟨b,hb⟩:∃b:Nat,tz=b:=⟨tz.toNat,Z⟩;have h1:=(E.nxb a b Z Z).2;obtain⟨p1,p2,G,p4⟩:=E.offb a Z;have hm:0<=d.ps a*d.mn a:=qAc p1 G;unfold jj;split;exact⟨⟨f.off,f.arr,f.sn,f.hd,f.dl,f.sl,f.bl,f.el,f.to,f.po,f.lz⟩,⟨.inl (by show(-1:Int)<0;omega),u,by show(-1:Int)<=-1;omega⟩⟩;split;exact⟨⟨f.off,f.arr,f.sn,f.hd,f.dl,f.sl,f.bl,f.el,f.to,f.po,f.lz⟩,⟨.inl (by show(-1:Int)<0;omega),u,by show(-1:Int)<=-1;omega⟩⟩;rename_i L;have z:0<=d.nx x.off tz:=by
  rcases qCz (d.nx x.off tz) 0 with h|h;exact absurd (.inl h) L;exact h
 have j:d.lin (d.nx x.off tz):=by rw[A,hb]at z ⊢;exact h1 z
 have X:=f.arr;have y:=aBz E j (x.holds+1).toNat x.leave (max (x.arr+d.ps x.off*d.mn x.off) x.sn) u (by rw[A];omega);refine⟨⟨f.off,f.arr,f.sn,f.hd,f.dl,f.sl,f.bl,f.el,f.to,f.po,f.lz⟩,⟨?_,y,?_⟩⟩;dsimp only;split;exact .inr j;exact .inl Z;dsimp only;split<;>omega
open Classical in
def Hist.clean{B:Nat}(H:Hist W R tg c rs cc gs iv)(hn:c.nb<B)(hc:c.cb<B):∃f,Hist W R f c rs cc gs iv/\(∀b,b<B->f b=tg b)/\(∀(b:Nat) (o:Obj),B<=b->W.heap[b]?=some o->o.isCells=false->f b=0)/\∀b,tg b=0->f b=0:=by
 obtain⟨f,G⟩:∃f:Tag,∀b,f b=if B<=b/\∃o:Obj,W.heap[b]?=some o/\o.isCells=false then 0 else tg b:=⟨_,λb=>rfl⟩;have y:∀b,b<B->f b=tg b:=λb u=>by rw[G,if_neg Z]
 have z:∀(b:Nat) (o:Obj),W.heap[b]?=some o->o.isCells=true->f b=tg b:=λb o u ho=>by
  rw[G,if_neg];rintro⟨_,o',L,A⟩;rw[u]at L;cases L;rw[ho]at A;cases A
 have X:∀b,tg b=0->f b=0:=λb u=>by rw[G];split;rfl;exact u
 have j:∀{t E sz n:Nat}{v:Value}{xs:Lv},eU W R tg t E sz v n xs->eU W R f t E sz v n xs:=λh=>⟨h.own,λb u=>by
  rcases h.own.2 with⟨rfl,_⟩|⟨q,cap,cur,rfl,_,h5,_⟩;cases u;cases u;exact(z _ _ h5 rfl).trans (h.tag _ rfl)⟩
 refine⟨f,⟨λb u=>X b (H.new b u),λb u=>X b (H.low b u),H.RW,H.hc,(z _ _ H.hc rfl).trans H.th,(y _ hn).trans H.tn,(y _ hc).trans H.tc,j H.rows,H.len,λk g r hg hr=>?_,H.nm,H.ca⟩,y,λb o u L A=>by rw[G,if_pos ⟨u,o,L,A⟩],X⟩;have h:=H.it k g r hg hr;exact⟨h.cel,h.bR,(z _ _ h.cel rfl).trans h.tb,j h.st,j h.si,j h.la,j h.se⟩
end Go.Eng.Top
namespace Go.Eng.Top
open Go.Proofs Go.RowKit
attribute [local go_sem] Oper.semAt_some
variable {tg tg' tg1:Tag} {O:Nat->Prop} {W W' V V':World} {R k:Nat} {g:Gh} {r:Raw} {c:HC} {rs:List Raw} {cc:Li} {gs:List Gh} {iv:Value}
def _root_.Go.Eng.Frm.grow{row:Option Nat}(f:Frm tg O W V tg1)(h:V.grownBy V' row)(z:∀r,row=some r->W.heap.size<=r):Frm tg O W V' tg1:=by
 obtain⟨X,L,G,y,A⟩:=h;refine⟨⟨X.trans f.chg.os,L.trans f.chg.tape,G.trans f.chg.output,vP f.chg.size y,λb j u=>?_⟩,f.tag,λb j=>f.new b (vP y j)⟩;refine(A b (qK j f.chg.size) λe=>?_).trans (f.chg.block b j u);have:=z b e.symm;omega
def Put(h j:Nat)(W f:World):Prop:=W.heap.size<=f.heap.size/\∀b o,W.heap[b]?=some o->(o.isCells=true\/b=h\/b=j)->f.heap[b]?=some o
def _root_.Go.Eng.eU.put{j A t E sz n:Nat}{v:Value}{xs:Lv}(h:eU W R tg t E sz v n xs)(p:Put j A W W'):eU W' R tg t E sz v n xs:=
 ⟨⟨h.own.1,by
  rcases h.own.2 with g|⟨g,cap,f,rfl,z,y,u⟩;exact .inl g;exact .inr ⟨g,cap,f,rfl,z,p.2 _ _ y (.inl rfl),u⟩⟩,h.tag⟩
def jF.put{f j:Nat}(h:jF W R tg k g r)(p:Put f j W W'):jF W' R tg k g r:=
 ⟨p.2 _ _ h.cel (.inl rfl),h.bR,h.tb,h.st.put p,h.si.put p,h.la.put p,h.se.put p⟩
def Hist.put(h:Hist W R tg c rs cc gs iv)(p:Put c.nb c.cb W W'):Hist W' R tg c rs cc gs iv:=by
 obtain⟨l1,l2,u⟩:=h.lt;refine⟨λb A=>h.new b (vP p.1 A),h.low,vP h.RW p.1,p.2 _ _ h.hc (.inl rfl),h.th,h.tn,h.tc,h.rows.put p,h.len,λk g r z y=>(h.it k g r z y).put p,?_,?_⟩;obtain⟨D,j,f⟩:=h.nm;exact⟨D,dw j ((p.2 _ _ (wP l2) (.inr (.inl rfl))).trans (wP l2).symm),f⟩;obtain⟨D,j,f⟩:=h.ca;exact⟨D,dw j ((p.2 _ _ (wP u) (.inr (.inr rfl))).trans (wP u).symm),f⟩
def FX{y z B:Nat}{row:Option Nat}(h:W.grownBy W' row)(hn:y<B)(hc:z<B)(G:∀r,row=some r->B<=r/\∃o:Obj,W.heap[r]?=some o/\o.isCells=false):Put y z W W':=by
 obtain⟨h1,h2,h3,X,L⟩:=h;refine⟨X,λb o j f=>(L b (qJ.1 j).1 λe=>?_).trans j⟩;obtain⟨q1,o',u,A⟩:=G b e.symm;rw[j]at u;cases u;rcases f with f|f|f;rw[A]at f;cases f;omega;omega
def IB(w:World)(a:Addr)(T:Int):Calls Tryz.prog 107 #[.pointer (some a),.int .i64 T] w λe f=>e=.returned (.func (.func 162) #[] #[.pointer (some ⟨w.heap.size,0,none⟩),.pointer (some ⟨w.heap.size+1,0,none⟩)])/\f=(w.alloc (.cells #[.pointer (some a)] 96)).alloc (.cells #[.int .i64 T] 3):=by
 go_enter Tryz.func107,Tryz.ntmps107
 go_wp2
 go_ret
 exact⟨rfl,rfl⟩
def sbD(d:Dat)(l t:Int):ByteArray:=((⟨#[67]⟩:ByteArray)++d.ia l++⟨#[46]⟩)++d.ia t
def OkS(d:Dat)(m:Nat)(s:List Itm):Prop:=∀i∈s,OkI d m s i/\OkL d i
def Mid(d:Dat)(m:Nat)(T:Int)(R:Nat)(tg:Tag)(c:HC)(cc:Li)(iv:Value)(bs:List Nat)(V:World)(p0:Option (List Itm))(s:List Itm)(W:World):Prop:=
 ∃f h,Frm tg (λt=>4<t) V W f/\Hist W R f c (s.map Itm.raw) cc h iv/\(∀(b:Nat) (o:Obj),V.heap.size<=b->W.heap[b]?=some o->o.isCells=false->f b=0)/\h.map Gh.b=bs/\OkS d m s/\DT d (sbD d) T (s,cc)=p0
def _root_.Go.Eng.Frm.setNew{a:Addr}{u:Value}(f:Frm tg O W V tg1)(y:W.heap.size<=a.block):Frm tg O W (V.setCell a u) tg1:=
 ⟨⟨f.chg.os,f.chg.tape,f.chg.output,by simpa[World.setCell]using f.chg.size,λb j h=>(Below.heap_setCell _ _ _ _ Z).trans (f.chg.block b j h)⟩,f.tag,λb j=>f.new b (by simpa[World.setCell]using j)⟩
def gS{d:Dat}{sb:Int->Int->ByteArray}{T:Int}{cc:Li}{s:List Itm}(h:¬gu T s<s.length):DT d sb T (s,cc)=some s:=by
 have:∀l:List Itm,(∀i∈l,¬due T i)->l.mapM (λi=>FY d cc sb (iy s i.lb) T 21 i)=some l:=by
  intro l;induction l with
  |nil=>intro _;rfl
  |cons i l y=>
   intro f;rw[xG,y λj z=>f j (wX _ z)];have e:FY d cc sb (iy s i.lb) T 21 i=some i:=by
    unfold FY;exact if_neg (f i (wL ..))
   rw[e];rfl
 exact this s λi u hd=>by
  obtain⟨k,A⟩:=List.getElem?_of_mem u;apply h;unfold gu;rw[List.findIdx_lt_length];exact⟨i,u,qR hd⟩
def VW{d:Dat}{sb:Int->Int->ByteArray}{to T:Int}{cc:Li}(a:Nat):∀(b:Nat) (i:Itm),20-i.done.length<=a->20-i.done.length<=b->1<=a->1<=b->FY d cc sb to T a i=FY d cc sb to T b i:=by
 induction a with
 |zero=>intro b i _ _ h;omega
 |succ a j=>
  intro b i y u _ z;cases b with
  |zero=>omega|succ b=>
   rw[FY,FY];by_cases hd:0<=i.line/\i.leave<T
   .rw[if_pos hd,if_pos hd];by_cases f:19<=i.done.length;rw[if_pos f,if_pos f];rw[if_neg f,if_neg f];have:=tQ d cc sb to i;exact j b _ Z Z Z Z
   rw[if_neg hd,if_neg hd]
def mapM_none{α β:Type}{f:α->Option β}{l:List α}{k:Nat}{x:α}(h:l[k]?=some x)(u:f x=none):l.mapM f=none:=by
 induction l generalizing k with
 |nil=>cases h
 |cons y l j=>
  rw[xG];cases k with
  |zero=>cases h;rw[u];rfl
  |succ k=>rw[j h];cases f y<;>rfl
def WL{α β:Type}{f:α->Option β}{l:List α}{k:Nat}{x y:α}(h:l[k]?=some x)(u:f y=f x):(l.set k y).mapM f=l.mapM f:=by
 induction l generalizing k with
 |nil=>cases h
 |cons z l j=>
  cases k with
  |zero=>cases h;rw[List.set_cons_zero,xG,xG,u]
  |succ k=>rw[List.set_cons_succ,xG,xG,j h]
def VV{d:Dat}{sb:Int->Int->ByteArray}{T:Int}{cc:Li}{s:List Itm}{i:Itm}(h:s[k]?=some i)(hd:due T i)(f:19<=i.done.length):DT d sb T (s,cc)=none:=by
 refine mapM_none h ?_;rw[FY];exact(if_pos hd).trans (if_pos f)
def BY{d:Dat}{sb:Int->Int->ByteArray}{to:Int}{cc:Li}(i:Itm):(tR d cc sb to i).post=i.post/\(tR d cc sb to i).lb=i.lb:=by
 unfold tR jj
 (repeat' split)<;>exact⟨rfl,rfl⟩
def VU{d:Dat}{sb:Int->Int->ByteArray}{T:Int}{cc:Li}{s:List Itm}{i:Itm}(h:s[k]?=some i)(hd:due T i)(j:i.done.length<19):DT d sb T (s.set k (tR d cc sb (iy s i.lb) i),cc)=DT d sb T (s,cc):=by
 have f:=BY (d:=d) (sb:=sb) (to:=iy s i.lb) (cc:=cc) i;unfold DT;simp only[tG h f.1];refine WL h ?_;rw[f.2];have e:FY d cc sb (iy s i.lb) T 21 i=FY d cc sb (iy s i.lb) T 20 (tR d cc sb (iy s i.lb) i):=by
  conv=>lhs;rw[FY]
  exact(if_pos hd).trans (if_neg Z)
 rw[e];have:=tQ d cc sb (iy s i.lb) i;exact VW 21 20 _ Z Z Z Z
set_option maxRecDepth 100000 in
set_option maxHeartbeats 4000000 in
def IA{w0:World}{d:Dat}{m:Nat}{T:Int}{its:List Itm}(E:Env w0 R c d)(H:Hist W R tg c (its.map Itm.raw) cc gs iv)(hB:Below R w0 W)(hN:its.length<1000)(oks:OkS d m its)(hm:m<=900):
  Calls Tryz.prog 41 #[.pointer (some ⟨c.hb,0,none⟩),.int .i64 T] W λe w'=>(∃its',DT d (sbD d) T (its,cc)=some its'/\e=.returned (.bool true)/\∃tg' gs',Frm tg (λt=>4<t) W w' tg'/\Hist w' R tg' c (its'.map Itm.raw) cc gs' iv/\OkS d m its') \/
   (DT d (sbD d) T (its,cc)=none/\e=.returned (.bool false)/\∃tg',Frm tg (λt=>4<t) W w' tg'):=by
 refine callsIn_wide (n:=9).1 ?_;refine callsIn_of_wp_marks Tryz.func41 rfl trivial ?_;simp only[Tryz.ntmps41,xB,wR,yZ,Nat.reduceAdd,Nat.reduceSub,Array.replicate_succ,Array.replicate_zero,List.push_toArray,List.append_toArray,xU,qCx];obtain⟨N,hW⟩:∃N,W.heap.size=N:=⟨_,rfl⟩;obtain⟨V,hV⟩:∃V,(W.alloc (.cells #[.pointer (some ⟨c.hb,0,none⟩)] 96)).alloc (.cells #[.bool false] 4)=V:=⟨_,rfl⟩
 have sV:V.heap.size=N+2:=by rw[<- hV,qH,qH,hW]
 have vN:V.heap[N]?=some (.cells #[.pointer (some ⟨c.hb,0,none⟩)] 96 (0,0)):=by
  rw[<- hV];exact(Below.heap_alloc _ _ _ (by rw[qH];omega)).trans (by rw[<- hW];exact World.alloc_heap_new W _)
 have vM:V.heap[N+1]?=some (.cells #[.bool false] 4 (0,0)):=by
  have:=World.alloc_heap_new (W.alloc (.cells #[.pointer (some ⟨c.hb,0,none⟩)] 96)) (.cells #[.bool false] 4);rw[qH,hW]at this;rw[<- hV];exact this
 have v0:V.cell? ⟨N,0,none⟩=some (.pointer (some ⟨c.hb,0,none⟩)):=by simp[World.cell?,vN]
 have hd:=IB V ⟨c.hb,0,none⟩ T;obtain⟨U,hU⟩:∃U,(V.alloc (.cells #[.pointer (some ⟨c.hb,0,none⟩)] 96)).alloc (.cells #[.int .i64 T] 3)=U:=⟨_,rfl⟩;rw[sV,hU]at hd;have sU:U.heap.size=N+4:=by rw[<- hU,qH,qH,sV]
 have lo:∀b,b<N+2->U.heap[b]?=V.heap[b]?:=λb hb=>by
  rw[<- hU];exact(Below.heap_alloc _ _ _ (by rw[qH];omega)).trans (Below.heap_alloc _ _ _ Z)
 have uN:=(lo N Z).trans vN;have uM:=(lo (N+1) Z).trans vM;have u0:U.cell? ⟨N+2,0,none⟩=some (.pointer (some ⟨c.hb,0,none⟩)):=by
  have:=World.alloc_heap_new V (.cells #[.pointer (some ⟨c.hb,0,none⟩)] 96);rw[sV]at this;have h2:U.heap[N+2]?=some (.cells #[.pointer (some ⟨c.hb,0,none⟩)] 96 (0,0)):=by rw[<- hU];exact(Below.heap_alloc _ _ _ (by rw[qH];omega)).trans this
  simp[World.cell?,h2]
 have u1:U.cell? ⟨N+3,0,none⟩=some (.int .i64 T):=by
  have:=World.alloc_heap_new (V.alloc (.cells #[.pointer (some ⟨c.hb,0,none⟩)] 96)) (.cells #[.int .i64 T] 3);rw[qH,sV,hU]at this;simp[World.cell?,this]
 have HV:Hist V R tg c (its.map Itm.raw) cc gs iv:=hV▸(H.alloc _).alloc _;have HU:Hist U R tg c (its.map Itm.raw) cc gs iv:=hU▸(HV.alloc _).alloc _;have FU:Frm tg (λt=>4<t) W U tg:=by
  rw[<- hU,<- hV];exact(((Frm.alloc H.new _).trans (Frm.alloc (H.alloc _).new _)).trans (Frm.alloc ((H.alloc _).alloc _).new _)).trans (Frm.alloc (((H.alloc _).alloc _).alloc _).new _)
 have tN:∀b,N<=b->tg b=0:=λb hb=>H.new b Z
 obtain⟨lh,ln,lc⟩:=H.lt;clear vN vM
 gi_wp2_with (refine⟨trivial,?_⟩;gi_at_call 107;refine(callsIn_wide.2 hd).mono ?_;rintro e w' ⟨rfl,hw⟩;have hw:=hw.symm;subst hw)
 refine qz (n:=9) (q:=5) rfl (by decide) (gf:=162) (lb:=#[.pointer (some ⟨N+2,0,none⟩),.pointer (some ⟨N+3,0,none⟩)]) rfl trivial (enters_of Tryz.func162 (by kernel_rfl) rfl)
  (Mid d m T R tg c cc iv (gs.map Gh.b) U (DT d (sbD d) T (its,cc))) (λ_ W'=>W'.cell? ⟨N+1,0,none⟩=some (.bool false)/\DT d (sbD d) T (its,cc)=none/\∃tg',Frm tg (λt=>4<t) W W' tg') ?hI ?hIx ?hrd ?hdr
  (XC (R:=R) (c:=c) (cc:=cc) (iv:=iv) (bs:=gs.map Gh.b) (T:=T) (d:=d) (sb:=sbD d) (s0:=its) hN (by decide)) ?h0 ?assign ?body ?done ?stop
 case assign=>
  intro l v W K hK;simp only[List.setIfInBounds_toArray,List.set_cons_zero,List.set_cons_succ]at hK ⊢
  gi_wp2
  exact hK
 case hdr=>rintro s W' q ⟨tg',gs',f,h,r⟩;exact⟨tg',gs',f.drewN q,h.drewN q,r⟩
 case h0=>exact⟨tg,gs,Frm.refl HU.new,HU,λb _ hb _ _=>HU.new b hb,rfl,oks,rfl⟩
 case hrd=>
  rintro s W' ⟨tg',gs',f,h,_,hb,ok,_⟩;have e2:=f.lo (b:=N+2) Z (by rw[tN _ Z];omega);have e3:=f.lo (b:=N+3) Z (by rw[tN _ Z];omega);exact⟨tg',gs',h,hb,by simp only[World.cell?,e2];exact u0,by simp only[World.cell?,e3];exact u1,λi hi=>(ok i hi).1.dl⟩
 case hI=>
  rintro s A B row ⟨tg',gs',f,h,nc,r⟩ hg hr;refine⟨tg',gs',f.grow hg (λr e=>(hr r e).1),h.put (FX hg Z Z hr),λb o hb ho hc=>?_,r⟩;rcases wW b A.heap.size with hl | hl
  .by_cases e:row=some b
   .obtain⟨_,o',h1,h2⟩:=hr b e;exact nc b o' hb h1 h2
   .exact nc b o hb ((hg.block b hl (λh=>e h.symm)).symm.trans ho) hc
  .exact h.new b hl
 case hIx=>exact λs A B row hs hg hr=>⟨cell_kept hs.1 hg (λr e=>(hr r e).2),hs.2.1,hs.2.2.imp λ_ f=>f.grow hg (λr e=>by have:=(hr r e).1;omega)⟩
 case stop=>
  rintro D W' hD ⟨hc,hp,tF,fF⟩ hK
  gi_wp2
  refine⟨by simp,.inl ⟨_,_,rfl,run_takeDeferred hK,?_⟩⟩;have hc5:=cell_kept hc (grownBy_putObj' _ D (.deferred none)) (λr e=>by cases e;exact⟨_,hK,rfl⟩);refine⟨.bool false,?_,.inr ⟨hp,rfl,tF,fF.grow (grownBy_putObj' _ D (.deferred none)) (λr e=>by cases e;omega)⟩⟩;simp[results,Tryz.f41,go_sem,hc5]
 case done=>
  rintro D s W' hD hf ⟨tg',gs',f,h,_,hb,ok,hp⟩ hK;have eM:=(f.lo (b:=N+1) Z (by rw[tN _ Z];omega)).trans uM;have cM:W'.cell? ⟨N+1,0,none⟩=some (.bool false):=by simp[World.cell?,eM]
  have fM:W'.frozen? ⟨N+1,0,none⟩=false:=by simp[World.frozen?,eM]
  gi_wp2
  have hK':(W'.setCell ⟨N+1,0,none⟩ (.bool true)).heap[D]?=some (.deferred (some [])):=(KeepsOthers.setCell ..).same D _ hK rfl;refine⟨by simp,.inl ⟨_,_,rfl,run_takeDeferred hK',?_⟩⟩;have hg5:=grownBy_putObj' (W'.setCell ⟨N+1,0,none⟩ (.bool true)) D (.deferred none);have hc5:=cell_kept (World.cell?_setCell_same' W' ⟨N+1,0,none⟩ (.bool true) (by rw[cM];rfl)) hg5 (λr e=>by cases e;exact⟨_,hK',rfl⟩)
  have tM:tg' (N+1)=0:=(f.tag _ Z).trans (tN _ Z);have h2:Hist (W'.setCell ⟨N+1,0,none⟩ (.bool true)) R tg' c (s.map Itm.raw) cc gs' iv:=h.fr (Frm.set (O:=(·=0)) h.new tM _) (λt h e=>Z)
  refine⟨.bool true,?_,.inl ⟨s,(hp.symm.trans (gS hf)),rfl,tg',gs',((FU.trans f).setNew (by show _<=N+1;omega)).grow hg5 (λr e=>by cases e;omega),h2.put (FX (B:=N+4) hg5 Z Z (λr e=>by cases e;exact⟨Z,_,hK',rfl⟩)),ok⟩⟩;simp[results,Tryz.f41,go_sem,hc5]
 case body=>
  rintro l s W3 ⟨z,gs3,F3,H3,nc3,hb3,ok3,hp3⟩ hf;obtain⟨k,hk⟩:∃k,gu T s=k:=⟨_,rfl⟩;have hfw:=hf;rw[hk]at hf;obtain⟨i,hi⟩:∃i,s[k]?=some i:=⟨_,qB hf⟩;have hdue:due T i:=by
   have h1:=List.findIdx_getElem (p:=λi=>decide (due T i)) (w:=hfw);have h2:s[gu T s]?=some i:=by rw[hk];exact hi
   rw[qB hfw]at h2;rw[<- wE h2];exact vO h1
  obtain⟨g,hg,hI⟩:=H3.get (aQ hi);have hgb:(gs.map Gh.b).getD k 0=g.b:=by rw[<- hb3];simp[hg]
  rw[hk,hgb];simp only[List.setIfInBounds_toArray,List.set_cons_zero,List.set_cons_succ];obtain⟨bS,cS,hS,_⟩:=hI.st.pos (by show 0<(i.done++_).length;simp);obtain⟨n,hn⟩:∃n,i.raw.st.length=n:=⟨_,rfl⟩;have hn':i.done.length+1=n:=by rw[<- hn];show _=(i.done++_).length;simp
  rw[hn]at hS;have c5:W3.cell? ⟨g.b,5,none⟩=some (.slice (some ⟨bS,0,none⟩) n cS):=hS▸hI.cell (j:=5) rfl;have eM:=(F3.lo (b:=N+1) Z (by rw[tN _ Z];omega)).trans uM;have cM:W3.cell? ⟨N+1,0,none⟩=some (.bool false):=by simp[World.cell?,eM]
  have fM:W3.frozen? ⟨N+1,0,none⟩=false:=by simp[World.frozen?,eM]
  by_cases h20:n=20
  .have h20':decide ((n:Int)≥20)=true:=qR Z
   gi_wp2
   exact⟨(KeepsOthers.setCell ..).from _,World.cell?_setCell_same' W3 ⟨N+1,0,none⟩ (.bool false) (by rw[cM];rfl),hp3.symm.trans (VV hi hdue Z),z,(FU.trans F3).setNew (by show _<=N+1;omega)⟩
  have h20':decide ((n:Int)≥20)=false:=qY (by have:=(ok3 i (qZ hi)).1.dl;omega)
  gi_wp2
  have oki:=(ok3 i (qZ hi)).1;have okl:=(ok3 i (qZ hi)).2;have hlin:d.lin i.line:=okl.ln.resolve_left (by have:=hdue.1;omega);obtain⟨lb0,lb1,lb2,lb3,lb4,lb5⟩:=E.lnb _ hlin;obtain⟨L,hL⟩:∃L:Nat,i.line=L:=⟨i.line.toNat,Z⟩;obtain⟨bl,fl,nl,cl,v0,v1,v3,v5,e4,hLn,blR,q0,q1,q2,q3,q4,q5⟩:=E.lns L (hL▸hlin);have B3:Below R w0 W3:=cT H.low H.RW hB (FU.trans F3) Z
  have c0:W3.cell? ⟨N,0,none⟩=some (.pointer (some ⟨c.hb,0,none⟩)):=by
   have e:=(F3.lo (b:=N) Z (by rw[tN _ Z];omega)).trans uN;simp[World.cell?,e]
  have c4:W3.cell? ⟨c.hb,4,none⟩=some (.slice (some ⟨bl,fl,none⟩) nl cl):=e4▸H3.cell (j:=4) rfl;have c11:W3.cell? ⟨g.b,11,none⟩=some (.int .i64 L):=hL▸hI.cell (j:=11) rfl;have q0:=(B3.cell (p:=⟨bl,fl+L*6,none⟩) blR).trans q0;have q1:=(B3.cell (p:=⟨bl,fl+L*6+1,none⟩) blR).trans q1;have q2:=(B3.cell (p:=⟨bl,fl+L*6+2,none⟩) blR).trans q2;have q3:=(B3.cell (p:=⟨bl,fl+L*6+3,none⟩) blR).trans q3
  have q4:=(B3.cell (p:=⟨bl,fl+L*6+4,none⟩) blR).trans q4;have q5:=(B3.cell (p:=⟨bl,fl+L*6+5,none⟩) blR).trans q5;have hL0:(0:Int)<=(L:Int):=Z;obtain⟨X,hX⟩:∃X,W3.heap.size=X:=⟨_,rfl⟩
--R5
  refine fw (λ_=>True) (λw=>w.cell? ⟨N,0,none⟩=some (.pointer (some ⟨c.hb,0,none⟩))/\w.cell? ⟨c.hb,4,none⟩=some (.slice (some ⟨bl,fl,none⟩) nl cl)/\w.cell? ⟨g.b,11,none⟩=some (.int .i64 L)/\w.cell? ⟨bl,fl+L*6,none⟩=some (.string v0)/\w.cell? ⟨bl,fl+L*6+1,none⟩=some (.int .i64 v1)/\w.cell? ⟨bl,fl+L*6+2,none⟩=some (.int .i64 (d.lto L))/\w.cell? ⟨bl,fl+L*6+3,none⟩=some (.int .i64 v3)/\w.cell? ⟨bl,fl+L*6+4,none⟩=some (.int .i64 (d.ltr L))/\w.cell? ⟨bl,fl+L*6+5,none⟩=some (.int .i64 v5)) (λi=>decide (12<=i)) (by kernel_rfl) (by kernel_rfl) (λh=>by obtain⟨_,_,h⟩:=h;exact h) ?_
  refine lU 0 ?_;refine aX 1 ?_;refine aX 2 ?_;refine aX 3 ?_;refine lU 4 ?_;refine aX 5 ?_;refine aX 6 ?_;refine aX 7 ?_;refine lU 8 ?_;refine aX 9 ?_;refine lU 10 ?_;refine bA 11 ?_;refine bA 12 ?_;refine cU (by kernel_rfl) ?_ _
--E5
  obtain⟨W4,hW4⟩:∃W4,(W3.alloc (.cells #[.string v0,.int .i64 v1,.int .i64 (d.lto L),.int .i64 v3,.int .i64 (d.ltr L),.int .i64 v5] 139)).drew=W4:=⟨_,rfl⟩;have H4:Hist W4 R z c (s.map Itm.raw) cc gs3 iv:=by rw[<- hW4];exact(H3.alloc _).drewN 1
  have F4:Frm z (itT k) W3 W4 z:=by rw[<- hW4];exact(Frm.alloc H3.new _).drewN 1
  have x4:W4.heap[X]?=some (.cells #[.string v0,.int .i64 v1,.int .i64 (d.lto L),.int .i64 v3,.int .i64 (d.ltr L),.int .i64 v5] 139 (0,0)):=by rw[<- hW4,<- hX];exact World.alloc_heap_new W3 _
  rw[hW4];have hI4:=H4.it k g _ hg (aQ hi);have hla:Calls Tryz.prog 108 #[.pointer (some ⟨g.b,0,none⟩)] W4 λe w'=>e=.returned (.pointer (some ⟨bS,i.done.length*4,none⟩))/\∃m,w'=W4.drewN m:=(Nq hI4 (ss:=i.done) rfl (by have:=oki.dl;omega)).mono (by
   rintro e w' ⟨⟨b,cap,hb,rfl⟩,q,rfl⟩;rw[hS]at hb;cases hb;exact⟨rfl,q,rfl⟩)
  clear q0 q1 q2 q3 q4 q5 c0 c4 c11 hW4
  gi_wp2_with (refine⟨trivial,?_⟩;gi_at_call 108;refine(CallsIn.inRound l (callsIn_wide.2 hla)).mono ?_;rintro e w' ⟨rfl,q,rfl⟩)
  generalize hW5:W4.drewN q=W5;have H5:Hist W5 R z c (s.map Itm.raw) cc gs3 iv:=hW5▸H4.drewN q;have F5:Frm z (itT k) W3 W5 z:=hW5▸F4.drewN q;have x5:W5.heap[X]?=some (.cells #[.string v0,.int .i64 v1,.int .i64 (d.lto L),.int .i64 v3,.int .i64 (d.ltr L),.int .i64 v5] 139 (0,0)):=by rw[<- hW5];exact x4
  have hI5:=H5.it k g _ hg (aQ hi);have y1:W5.cell? ⟨g.b,11,none⟩=some (.int .i64 L):=hL▸hI5.cell (j:=11) rfl;have y2:W5.cell? ⟨g.b,12,none⟩=some (.int .i64 i.leave):=hI5.cell (j:=12) rfl;have y3:W5.cell? ⟨bS,i.done.length*4+2,none⟩=some (.int .i64 (-1)):=ff (hS▸hI5.st) (ss:=i.done) rfl (i:=2) rfl
  have y4:W5.cell? ⟨bS,i.done.length*4+3,none⟩=some (.int .i64 (-1)):=ff (hS▸hI5.st) (ss:=i.done) rfl (i:=3) rfl;have ho5:=hI5.st;rw[hS,hn]at ho5;have y5:W5.frozen? ⟨bS,i.done.length*4+2,none⟩=false:=ho5.free _;have y6:W5.frozen? ⟨bS,i.done.length*4+3,none⟩=false:=ho5.free _
--R7
  refine fw (λ_=>True) (λw=>w.cell? ⟨g.b,11,none⟩=some (.int .i64 L)/\w.cell? ⟨g.b,12,none⟩=some (.int .i64 i.leave)) (λi=>decide (12<=i)) (by kernel_rfl) (by kernel_rfl) (λh=>by obtain⟨_,_,h⟩:=h;exact h) ?_;refine aX 0 ?_;refine aX 1 ?_;refine aX 2 ?_;refine aX 3 ?_;refine aX 4 ?_;refine lU 5 ?_;refine aX 6 ?_;refine aX 7 ?_;refine aX 8 ?_;refine lU 9 ?_;refine aX 10 ?_;refine aX 11 ?_
  refine bA 12 ?_;refine aX 13 ?_;refine aX 14 ?_;refine bA 15 ?_;refine cU (by kernel_rfl) ?_ _
--E7
  obtain⟨W6,hW6⟩:∃W6,((W5.setCell ⟨bS,i.done.length*4+2,none⟩ (.int .i64 i.leave)).setCell ⟨bS,i.done.length*4+3,none⟩ (.int .i64 L)).drew=W6:=⟨_,rfl⟩;rw[hW6];obtain⟨h6,f6⟩:=H5.left hg (aQ hi) (l:=i.done) rfl hS rfl (x:=i.leave) (y:=L);obtain⟨r6,hr6⟩:∃r,{i.raw with st:=i.done++[(i.off,i.arr,i.leave,(L:Int))]}=r:=⟨_,rfl⟩;rw[hr6]at h6;have rse:r6.se=i.seals:=by rw[<- hr6];rfl
  have rln:r6.ln=L:=by rw[<- hr6,<- hL];rfl
  have rlv:r6.lv=i.leave:=by rw[<- hr6];rfl
  obtain⟨G,hG⟩:∃G,gs3.set k g=G:=⟨_,rfl⟩;obtain⟨S6,hS6⟩:∃S,(s.map Itm.raw).set k r6=S:=⟨_,rfl⟩;have hgG:G[k]?=some g:=by rw[<- hG];exact zV (qC.1 hg).1
  have hrS:S6[k]?=some r6:=by rw[<- hS6];exact zV (by rw[vX];exact hf)
  have H6:Hist W6 R z c S6 cc G iv:=by rw[<- hW6,<- hS6,<- hG];exact h6.drewN 1
  have F6:Frm z (itT k) W3 W6 z:=F5.trans (by rw[<- hW6];exact f6.drewN 1);have tX:z X=0:=H3.new X Z;have x6:W6.heap[X]?=some (.cells #[.string v0,.int .i64 v1,.int .i64 (d.lto L),.int .i64 v3,.int .i64 (d.ltr L),.int .i64 v5] 139 (0,0)):=by
   rw[<- hW6];exact(f6.lo (qJ.1 x5).1 (by rw[tX];unfold itT;omega)).trans x5
  have tlow:∀b,b<R->z b=0:=H3.low;have hbel:∀{Wn:World} {tn:Tag},Frm z (itT k) W3 Wn tn->Below R w0 Wn:=λf=>cT H3.low H3.RW B3 f (by unfold itT;omega)
  clear hW5 hW6 y1 y2 y3 y4 y5 y6 ho5;have hI6:=H6.it k g _ hgG hrS;have z1:W6.cell? ⟨g.b,9,none⟩=some g.se:=hI6.cell (j:=9) rfl;have z2:W6.cell? ⟨g.b,11,none⟩=some (.int .i64 L):=rln▸hI6.cell (j:=11) rfl;have z3:W6.cell? ⟨g.b,12,none⟩=some (.int .i64 i.leave):=rlv▸hI6.cell (j:=12) rfl;have hc1:=E.ita W6.drew L (hbel (F6.drewN 1)) Z Z;have lv:=okl.lv;have ia1:=E.iab L;have ia2:=E.iab i.leave
  have n1:¬9223372036854775807<1+(d.ia L).size:=Z;have n2:¬9223372036854775807<1+(d.ia L).size+1:=Z;have n3:¬9223372036854775807<1+(d.ia L).size+1+(d.ia i.leave).size:=Z
  gi_wp2
--R8
  refine fw (λ_=>True) (λw=>w.cell? ⟨g.b,9,none⟩=some g.se/\w.cell? ⟨g.b,11,none⟩=some (.int .i64 L)/\w.cell? ⟨g.b,12,none⟩=some (.int .i64 i.leave)) (λi=>decide (21<=i)) (by kernel_rfl) (by kernel_rfl) (λh=>by obtain⟨_,_,h⟩:=h;exact h) ?_;refine aX 0 ?_;refine aX 1 ?_;refine aX 2 ?_;refine aX 3 ?_;refine aX 4 ?_;refine lU 5 ?_;refine aX 6 ?_;refine aX 7 ?_;refine aX 8 ?_;refine lU 9 ?_
  refine aX 13 ?_;refine aX 14 ?_;refine aX 15 ?_;refine lU 16 ?_;refine pq 10 λK hK=>?_
  go_simp
  refine hc1.mono ?_;rintro e WA ⟨rfl,hbA⟩;have FA0:Frm z (λ_=>False) W6.drew WA z:=Frm.below (H6.drewN 1).new hbA;have HA:Hist WA R z c S6 cc G iv:=(H6.drewN 1).fr FA0 (λ_ _ h=>h);have FA:Frm z (itT k) W3 WA z:=(F6.drewN 1).trans (FA0.sub λ_ h=>h.elim);have hc2:=E.ita WA i.leave (hbel FA) lv.1 Z;have z1:WA.cell? ⟨g.b,9,none⟩=some g.se:=(HA.it k g _ hgG hrS).cell (j:=9) rfl
  have z2:WA.cell? ⟨g.b,11,none⟩=some (.int .i64 L):=rln▸(HA.it k g _ hgG hrS).cell (j:=11) rfl;have z3:WA.cell? ⟨g.b,12,none⟩=some (.int .i64 i.leave):=rlv▸(HA.it k g _ hgG hrS).cell (j:=12) rfl
  go_simp
  refine ji hK ?_;clear hK K;refine aX 11 ?_;refine aX 12 ?_;refine pq 17 λK hK=>?_
  go_simp
  refine hc2.mono ?_;rintro e WB ⟨rfl,hbB⟩;have FB0:Frm z (λ_=>False) WA WB z:=Frm.below HA.new hbB;have HB:Hist WB R z c S6 cc G iv:=HA.fr FB0 (λ_ _ h=>h);have FB:Frm z (itT k) W3 WB z:=FA.trans (FB0.sub λ_ h=>h.elim)
  obtain⟨be,ce,WC,uC,pC,KC,rC,fC⟩:=(HB.alloc (.cells #[.string (sbD d L i.leave)] 9)).aDb hgG hrS (by rw[rse];have:=oki.el;have:=oki.dl;omega) (t:=sbD d L i.leave) (World.alloc_heap_new WB _);have z1:WB.cell? ⟨g.b,9,none⟩=some g.se:=(HB.it k g _ hgG hrS).cell (j:=9) rfl;have z2:WB.cell? ⟨g.b,11,none⟩=some (.int .i64 L):=rln▸(HB.it k g _ hgG hrS).cell (j:=11) rfl
  have z3:WB.cell? ⟨g.b,12,none⟩=some (.int .i64 i.leave):=rlv▸(HB.it k g _ hgG hrS).cell (j:=12) rfl
  go_simp
  refine ji hK ?_;clear hK K;refine aX 18 ?_;refine bA 19 ?_;refine pq 20 λK hK=>?_
  have z1:WC.cell? ⟨g.b,9,none⟩=some g.se:=(KC.it k g _ hgG hrS).cell (j:=9) rfl;have z2:WC.cell? ⟨g.b,11,none⟩=some (.int .i64 L):=rln▸(KC.it k g _ hgG hrS).cell (j:=11) rfl;have z3:WC.cell? ⟨g.b,12,none⟩=some (.int .i64 i.leave):=rlv▸(KC.it k g _ hgG hrS).cell (j:=12) rfl;have z4:WC.frozen? ⟨g.b,9,none⟩=false:=(KC.it k g _ hgG hrS).free 9
  refine Lib.wp_append_run _ (.tmp 51) (.tmp 65) 23 23 (by rfl) _ _ rfl rfl _ _ pC ?_;refine ji hK ?_;clear hK K;refine aX 21 ?_;refine aX 22 ?_;refine aX 23 ?_;refine bA 24 ?_;refine cU (by kernel_rfl) ?_ _
--E8
  obtain⟨W8,hW8⟩:∃W8,WC.setCell ⟨g.b,9,none⟩ (.slice (some ⟨be,0,none⟩) (i.seals.length+1) ce)=W8:=⟨_,rfl⟩;rw[hW8];rw[rse]at rC;obtain⟨h8,f8⟩:=KC.stE hgG hrS (v:=.slice (some ⟨be,0,none⟩) (i.seals.length+1) ce) (t:=sbD d L i.leave) (by rw[rse];exact rC);rw[hW8]at h8 f8;have F6B:Frm z (itT k) W6 WB z:=(((Frm.refl H6.new).drewN 1).trans (FA0.sub λ_ h=>h.elim)).trans (FB0.sub λ_ h=>h.elim)
  have F68:Frm z (itT k) W6 W8 uC:=((F6B.trans (Frm.alloc HB.new _)).trans (fC.sub λt h=>by rw[h];exact⟨Z,Z⟩)).trans f8;obtain⟨g8,hg8⟩:∃q,{g with se:=.slice (some ⟨be,0,none⟩) (i.seals.length+1) ce}=q:=⟨_,rfl⟩;obtain⟨r8,hr8⟩:∃q,{r6 with se:=r6.se++[sbD d L i.leave]}=q:=⟨_,rfl⟩;rw[hg8,hr8]at h8;obtain⟨G8,hG8⟩:∃q,G.set k g8=q:=⟨_,rfl⟩;obtain⟨S8,hS8⟩:∃q,S6.set k r8=q:=⟨_,rfl⟩
  have hgG8:G8[k]?=some g8:=by rw[<- hG8];exact zV (qC.1 hgG).1
  have hrS8:S8[k]?=some r8:=by rw[<- hS8];exact zV (qC.1 hrS).1
  have H8:Hist W8 R uC c S8 cc G8 iv:=by rw[<- hS8,<- hG8];exact h8
  have hb8:g8.b=g.b:=by rw[<- hg8]
  have r8v:r8.lv=i.leave:=by rw[<- hr8];exact rlv
  have r8t:r8.st=i.done++[(i.off,i.arr,i.leave,(L:Int))]:=by rw[<- hr8,<- hr6]
  have x8:W8.heap[X]?=some (.cells #[.string v0,.int .i64 v1,.int .i64 (d.lto L),.int .i64 v3,.int .i64 (d.ltr L),.int .i64 v5] 139 (0,0)):=
   (F68.lo (qJ.1 x6).1 (by rw[tX];unfold itT;omega)).trans x6
  have m1:W8.cell? ⟨g.b,5,none⟩=some g8.st:=hb8▸(H8.it k g8 _ hgG8 hrS8).cell (j:=5) rfl;have m2:W8.cell? ⟨g.b,12,none⟩=some (.int .i64 i.leave):=hb8▸r8v▸(H8.it k g8 _ hgG8 hrS8).cell (j:=12) rfl;have m3:W8.cell? ⟨X,2,none⟩=some (.int .i64 (d.lto L)):=by simp[World.cell?,x8]
  have m4:W8.cell? ⟨X,4,none⟩=some (.int .i64 (d.ltr L)):=by simp[World.cell?,x8]
  have lt4:0<=d.ltr L:=hL▸lb4;have lt5:d.ltr L<=100000:=hL▸lb5;have nw:IntKind.i64.wrap (i.leave+d.ltr L)=i.leave+d.ltr L:=IntWalk.i64_in _ Z;obtain⟨Y,hY⟩:∃Y,W8.heap.size=Y:=⟨_,rfl⟩
  obtain⟨bt,ct,WD,uD,pD,KD,rD,fD⟩:=((H8.drewN 1).alloc (.cells (kO (d.lto L,i.leave+d.ltr L,-1,-1)).toArray 61)).appT hgG8 hrS8 (by rw[r8t];have:=oki.dl;simp;omega) (b0:=Y) (t:=(d.lto L,i.leave+d.ltr L,-1,-1)) (by rw[<- hY];exact World.alloc_heap_new (W8.drewN 1) _);have m5:WD.cell? ⟨g.b,5,none⟩=some g8.st:=hb8▸(KD.it k g8 _ hgG8 hrS8).cell (j:=5) rfl
  have m6:WD.frozen? ⟨g.b,5,none⟩=false:=hb8▸(KD.it k g8 _ hgG8 hrS8).free 5;have m7:WD.cell? ⟨g.b,12,none⟩=some (.int .i64 i.leave):=hb8▸r8v▸(KD.it k g8 _ hgG8 hrS8).cell (j:=12) rfl;have xD:WD.heap[X]?=W8.heap[X]?:=by
   have hlt:=(qJ.1 x8).1;exact(fD.lo (by rw[qH];exact Nat.lt_succ_of_lt hlt) (by rw[F68.tag X (qJ.1 x6).1,tX];omega)).trans (Below.heap_alloc _ _ _ hlt)
  rw[x8]at xD;have m8:WD.cell? ⟨X,2,none⟩=some (.int .i64 (d.lto L)):=by simp[World.cell?,xD]
  have m9:WD.cell? ⟨X,4,none⟩=some (.int .i64 (d.ltr L)):=by simp[World.cell?,xD]
  clear z1 z2 z3 hW8
  gi_wp2
--R9
  refine fw (λ_=>True) (λw=>w.cell? ⟨g.b,5,none⟩=some g8.st/\w.cell? ⟨g.b,12,none⟩=some (.int .i64 i.leave)/\w.cell? ⟨X,2,none⟩=some (.int .i64 (d.lto L))/\w.cell? ⟨X,4,none⟩=some (.int .i64 (d.ltr L))) (λi=>decide (18<=i)) (by kernel_rfl) (by kernel_rfl) (λh=>by obtain⟨_,_,h⟩:=h;exact h) ?_;refine aX 0 ?_;refine aX 1 ?_;refine aX 2 ?_;refine aX 3 ?_;refine aX 4 ?_;refine lU 5 ?_;refine aX 6 ?_
  refine lU 7 ?_;refine aX 8 ?_;refine aX 9 ?_;refine aX 10 ?_;refine lU 11 ?_;refine aX 12 ?_;refine lU 13 ?_;refine aX 14 ?_;refine aX 15 ?_;refine bA 16 ?_;refine pq 17 λK hK=>?_
  refine Lib.wp_append_run _ (.tmp 75) (.tmp 86) 53 53 (by rfl) _ _ rfl rfl _ _ pD ?_;refine ji hK ?_;clear hK K;refine aX 18 ?_;refine aX 19 ?_;refine aX 20 ?_;refine bA 21 ?_;refine cU (by kernel_rfl) ?_ _
--E9
  obtain⟨W9,hW9⟩:∃W9,WD.setCell ⟨g.b,5,none⟩ (.slice (some ⟨bt,0,none⟩) (n+1) ct)=W9:=⟨_,rfl⟩;rw[hW9];have l8:r8.st.length=n:=by rw[r8t];simp;omega
  rw[l8]at rD;obtain⟨h9,f9⟩:=KD.stT hgG8 hrS8 (v:=.slice (some ⟨bt,0,none⟩) (n+1) ct) (t:=(d.lto L,i.leave+d.ltr L,-1,-1)) (by rw[l8];exact rD);rw[hb8,hW9]at h9 f9;have F8D:Frm uC (itT k) W8 WD uD:=(((Frm.refl H8.new).drewN 1).trans (Frm.alloc (H8.drewN 1).new _)).trans (fD.sub λt h=>by rw[h];exact⟨Z,Z⟩);have F9:Frm z (itT k) W3 W9 uD:=((F6.trans F68).trans F8D).trans f9
  obtain⟨g9,hg9⟩:∃q,{g8 with b:=g.b,st:=.slice (some ⟨bt,0,none⟩) (n+1) ct}=q:=⟨_,rfl⟩;obtain⟨r9,hr9⟩:∃q,{r8 with st:=r8.st++[(d.lto (L:Int),i.leave+d.ltr L,(-1:Int),(-1:Int))]}=q:=⟨_,rfl⟩;rw[hg9,hr9]at h9;have hgG9:(G8.set k g9)[k]?=some g9:=zV (qC.1 hgG8).1;have hrS9:(S8.set k r9)[k]?=some r9:=zV (qC.1 hrS8).1;have hb9:g9.b=g.b:=by rw[<- hg9]
  have o1:W9.cell? ⟨g.b,10,none⟩=some (.int .i64 r9.hd):=hb9▸(h9.it k g9 _ hgG9 hrS9).cell (j:=10) rfl;have o2:W9.frozen? ⟨g.b,10,none⟩=false:=hb9▸(h9.it k g9 _ hgG9 hrS9).free 10;obtain⟨i10,f10⟩:=(h9.it k g9 _ hgG9 hrS9).scal (r':={r9 with hd:=0}) h9.new (o:=10) (u:=.int .i64 0) rfl rfl rfl rfl rfl;rw[hb9]at i10 f10;have h10:=h9.item hgG9 hrS9 f10 i10 rfl rfl
  obtain⟨W10,hW10⟩:∃W10,W9.setCell ⟨g.b,10,none⟩ (.int .i64 0)=W10:=⟨_,rfl⟩;rw[hW10]at h10 f10;have F10:Frm z (itT k) W3 W10 uD:=F9.trans f10;obtain⟨y,hy⟩:∃y:Itm,{i with done:=i.done++[(i.off,i.arr,i.leave,i.line)],off:=d.lto i.line,arr:=i.leave+d.ltr i.line,seals:=i.seals++[sbD d i.line i.leave],holds:=0}=y:=⟨_,rfl⟩;have hyr:{r9 with hd:=0}=y.raw:=by rw[<- hr9,<- hr8,<- hr6,<- hy,<- hL];rfl
  have hyp:y.post=i.post:=by rw[<- hy]
  have hyl:y.lb=i.lb:=by rw[<- hy]
  rw[hyr,List.set_set,<- hS8,List.set_set,<- hS6,List.set_set,mf,List.set_set,<- hG8,List.set_set,<- hG,List.set_set]at h10;have hz3:∀j∈s,j.post.1.size<=1000/\0<=j.post.2.2.1/\j.post.2.2.1<d.N:=λj hj=>⟨(ok3 j hj).1.lz,(ok3 j hj).1.po⟩
  have oky:OkI d m s y:=by
   rw[<- hy];exact⟨⟨lb2,lb3⟩,⟨by show 0<=i.leave+d.ltr i.line;omega,by show i.leave+d.ltr i.line<=_;omega⟩,oki.sn,⟨by show(0:Int)<=0;omega,by show(0:Int)<=m;omega⟩,by show(i.done++_).length<=19;have:=oki.dl;simp;omega,oki.sl,oki.bl,by show(i.seals++_).length<=(i.done++_).length;have:=oki.el;simp;omega,oki.to,oki.po,oki.lz⟩
  have hg10:(gs3.set k g9)[k]?=some g9:=zV (qC.1 hg).1;have hdec:=Nr E h10 (hbel F10) hg10 hi hyp oky hm hz3;rw[hyl,hb9]at hdec;have oN:W10.cell? ⟨N,0,none⟩=some (.pointer (some ⟨c.hb,0,none⟩)):=by
   have e:=((F3.trans (F10.sub (O':=λt=>4<t) λt h=>by have:=h.1;omega)).lo (b:=N) Z (by rw[tN _ Z];omega)).trans uN;simp[World.cell?,e]
  gi_wp2_with (refine⟨trivial,?_⟩;gi_at_call 109;refine(CallsIn.inRound l (callsIn_wide.2 hdec)).mono ?_;rintro e w' ⟨rfl,F11,H11⟩)
  have Ft:Frm z (itT k) W3 w' uD:=F10.trans F11;have hne:∀j,s.length=0->False:=λ_ h=>Z
  obtain⟨j,q,hj,hql,hqt⟩:=Bv oki.to;have hq:=hz3 q (qZ hj);have hst:aBZ d cc (sbD d) T s=s.set k (jj d cc (iy s i.lb) y):=by
   unfold aBZ;rw[hk,hi,<- hy];rfl
  have hmv:jj d cc (iy s i.lb) y=tR d cc (sbD d) (iy s i.lb) i:=by rw[<- hy];rfl
  obtain⟨okY,okYL⟩:=Iq (cc:=cc) E oky (by rw[<- hy];exact lv) (tz:=iy s i.lb) (by rw[hqt];exact hq.2);have hpY:(jj d cc (iy s i.lb) y).post=i.post:=by rw[hmv];exact(BY i).1
  obtain⟨tg2,h2,e1,e2,e3⟩:=H11.clean (B:=U.heap.size) Z Z;refine⟨⟨Ft.chg.size,λb o hb ho hc=>(Ft.lo (qJ.1 ho).1 (by rw[nc3 b o hb ho hc];unfold itT;omega)).trans ho⟩,?_⟩;rw[hst];have Fw:Frm tg (λt=>4<t) U w' uD:=F3.trans (Ft.sub λt h=>by have:=h.1;omega);refine⟨tg2,_,⟨Fw.chg,λb hb=>(e1 b hb).trans (Fw.tag b hb),λb hb=>e3 b (Fw.new b hb)⟩,h2,λb o hb ho hc=>e2 b o hb ho hc,?_,?_,?_⟩
  .rw[List.map_set,hb9,hb3,<- hb3];apply wQ;intro a;rw[vS];split
   .rename_i ea;subst ea;rw[qQ,hg,if_pos (by rw[vX];exact(qC.1 hg).1)];rfl
   .rfl
  .intro x hx;rcases mem_set hx with hx | rfl
   .exact⟨(ok3 x hx).1.within λ_ h=>nN hi hpY h,(ok3 x hx).2⟩
   .exact⟨okY.within λ_ h=>nN hi hpY h,okYL⟩
  .rw[hmv,VU hi hdue (by have:=oki.dl;omega)];exact hp3
end Go.Eng.Top
namespace Go.Eng.Top
open Go.Proofs Go.RowKit
variable {tg:Tag} {w0 W:World} {R k m:Nat} {c:HC} {d:Dat} {its:List Itm} {i:Itm} {cc:Li} {gs:List Gh} {iv:Value} {e:bZ}
def okD(d:Dat)(its:List Itm)(e:bZ):Prop:=(0<=e.2.1/\e.2.1<=1000000)/\
 ((e.1=1/\e.2.2.1.2.2.2.2=e.2.1/\(∀q∈its,q.post.1≠e.2.2.1.1)/\e.2.2.1.1.size<=1000/\(0<=e.2.2.1.2.1/\e.2.2.1.2.1<d.N)/\(0<=e.2.2.1.2.2.1/\e.2.2.1.2.2.1<d.N))\/
  ((e.1=2\/e.1=3)/\∃i∈its,i.post.1=e.2.2.2.1)\/(e.1=4/\(∃i∈its,i.post.1=e.2.2.2.1)/\(∃i∈its,i.post.1=e.2.2.2.2.1)/\e.2.2.2.1≠e.2.2.2.2.1)\/(e.1=5/\(Lit.int .i64 e.2.2.2.2.2).wf=true))
def sK{lb:ByteArray}(h:∃i∈its,i.post.1=lb):∃(k:Nat) (i:Itm),its[k]?=some i/\i.post.1=lb/\OC its lb=k:=by
 obtain⟨i,u,j⟩:=h;have f:its.findIdx (λi=>decide (i.post.1=lb))<its.length:=List.findIdx_lt_length.2 ⟨i,u,qR j⟩;exact⟨_,_,qB f,vO (List.findIdx_getElem (w:=f)),rfl⟩
def aFw(E:Env w0 R c d)(H:Hist W R tg c (its.map Itm.raw) cc gs iv)(hB:Below R w0 W)(y:OkS d m its)(hm:m<900)(hn:its.length<900)(hc:cc.length<10000)(ok:okD d its e){n:Nat}(hk:e.1=n):
  Calls Tryz.prog (101+n) #[.pointer (some ⟨c.hb,0,none⟩),.agg (aU e)] W λe' w'=>e'=.returned (.tuple #[])/\∃A X iv',
   Frm tg Bh W w' A/\Hist w' R A c ((rK d (its,cc) e).1.map Itm.raw) (rK d (its,cc) e).2 X iv':=by
 have hz:∀j∈its,j.post.1.size<=1000/\0<=j.post.2.2.1/\j.post.2.2.1<d.N:=λj hj=>⟨(y j hj).1.lz,(y j hj).1.po⟩;obtain⟨ht,h⟩:=ok;have sb:∀k t,itT k t->Bh t:=λk t h=>by unfold Bh;have:=h.1;omega
 rcases h with⟨L,G,h3,h4,h5,h6⟩|⟨L|L,G⟩|⟨L,G,h3,h4⟩|⟨L,G⟩;obtain rfl:n=1:=by omega
 unfold rK;rw[if_pos L];exact aC2 E H hB e G h3 hn (by omega:m<=900) hz ⟨h4,h5,h6⟩ ht;obtain rfl:n=2:=by omega
 obtain⟨k,i,u,hp,hx⟩:=sK G;obtain⟨g,hg,_⟩:=H.get (aQ u);refine(aC3 E H hB hg u (y i (qZ u)).1 Z hz e hp.symm).mono ?_;rintro e' w' ⟨rfl,f,h⟩;refine⟨rfl,tg,gs,iv,f.sub (sb k),?_⟩;unfold rK KE;rw[if_neg Z,if_pos L];simp only[hx,u];exact h;obtain rfl:n=3:=by omega
 obtain⟨k,i,u,hp,hx⟩:=sK G;obtain⟨g,hg,_⟩:=H.get (aQ u);refine(aC5 E H hB hg u (y i (qZ u)).1 (y i (qZ u)).2 Z e hp.symm).mono ?_;rintro e' w' ⟨rfl,f,h⟩;refine⟨rfl,tg,gs,iv,f.sub (sb k),?_⟩;unfold rK KE;rw[if_neg Z,if_neg Z,if_pos L];simp only[hx,u];exact h;obtain rfl:n=4:=by omega
 obtain⟨k,i,u,hp,hx⟩:=sK G;obtain⟨k2,i2,z,hp2,hx2⟩:=sK h3;obtain⟨g,hg,_⟩:=H.get (aQ u);obtain⟨g2,hg2,_⟩:=H.get (aQ z);have hne:k≠k2:=λe=>by
  subst e;rw[u]at z;cases z;exact h4 (hp.symm.trans hp2)
 refine(aC0 E H hB hg u hg2 z hne (y i (qZ u)).1 (y i2 (qZ z)).1 hm hz e hp.symm hp2.symm ht).mono ?_;rintro e' w' ⟨rfl,A,X,f,h⟩;refine⟨rfl,A,X,iv,f.sub (λt h=>h.elim (sb k t) (sb k2 t)),?_⟩;unfold rK I8;rw[if_neg Z,if_neg Z,if_neg Z,if_pos L];simp only[hx,u,hx2,z];exact h;obtain rfl:n=5:=by omega
 refine(XV H Z e G hc).mono ?_;rintro e' w' ⟨rfl,f,h⟩;refine⟨rfl,tg,gs,iv,f,?_⟩;unfold rK;rw[if_neg Z,if_neg Z,if_neg Z,if_neg Z];exact h
end Go.Eng.Top
namespace Go.Eng.Top
open Go.Proofs Go.RowKit
variable {w0:World} {R k m:Nat} {c:HC} {d:Dat} {its l2:List Itm} {i x:Itm} {cc:Li} {e:bZ}
def OkI.up(f:OkI d m its i):OkI d (m+1) its i:=⟨f.off,f.arr,f.sn,⟨f.hd.1,by have:=f.hd.2;omega⟩,f.dl,Nat.le_succ_of_le f.sl,Nat.le_succ_of_le f.bl,f.el,f.to,f.po,f.lz⟩
def iN(tz:Int)(x:Itm):(jj d cc tz x).post=x.post/\(jj d cc tz x).lb=x.lb:=by
 unfold jj
 (repeat' split)<;>exact⟨rfl,rfl⟩
def qk(x:Itm):(rz d x).post=x.post:=by
 unfold rz
 (repeat' split)<;>rfl
def Zp(f:OkS d m its){lb:ByteArray}(h:∃j∈its,j.post.1=lb):0<=iy its lb/\iy its lb<d.N:=by
 obtain⟨j,q,y,_,u⟩:=Bv h;rw[u];exact(f q (qZ y)).1.po
def aAq(E:Env w0 R c d)(f:OkI d m its i)(j:OkL d i):OkI d (m+1) its (rz d i)/\OkL d (rz d i):=by
 have h:=f.hd;have y:=j.lv;unfold rz;split;exact⟨⟨f.off,f.arr,f.sn,⟨by show 0<=i.holds+1;omega,by show i.holds+1<=_;omega⟩,f.dl,Nat.le_succ_of_le f.sl,Nat.le_succ_of_le f.bl,f.el,f.to,f.po,f.lz⟩,⟨j.ln,y,j.lw⟩⟩;rename_i z;split;rename_i hd;have u:=j.ln.resolve_left z;have:=E.depb _ _ u (by omega:(0:Int)<=i.leave+1) hd;exact⟨⟨f.off,f.arr,f.sn,⟨by show 0<=i.holds+1;omega,by show i.holds+1<=_;omega⟩,f.dl,Nat.le_succ_of_le f.sl,Nat.le_succ_of_le f.bl,f.el,f.to,f.po,f.lz⟩,⟨j.ln,⟨by show 0<=d.dD _ _;omega,this.2⟩,j.lw⟩⟩;exact⟨⟨f.off,f.arr,f.sn,⟨by show 0<=i.holds+1;omega,by show i.holds+1<=_;omega⟩,f.dl,Nat.le_succ_of_le f.sl,Nat.le_succ_of_le f.bl,f.el,f.to,f.po,f.lz⟩,⟨.inl (by show(-1:Int)<0;omega),y,by show(-1:Int)<=-1;omega⟩⟩
def QB(f:OkS d m its)(z:its[k]?=some i)(y:x.post=i.post)(h:OkI d (m+1) its x/\OkL d x):OkS d (m+1) (its.set k x):=λj u=>by
 rcases mem_set u with u|rfl;exact⟨(f j u).1.up.within λ_ h=>nN z y h,(f j u).2⟩;exact⟨h.1.within λ_ h=>nN z y h,h.2⟩
def YH(f:OkI d m its i){lb:ByteArray}(h:∃j∈its,j.post.1=lb){t:Int}(u:0<=t/\t<=1000000):OkI d (m+1) its (G9 i lb t):=
 ⟨f.off,f.arr,u,⟨f.hd.1,by have:=f.hd.2;show i.holds<=_;omega⟩,f.dl,by show(i.sL++[i.sn]).length<=_;have:=f.sl;simp;omega,by show(i.bL++[i.lb]).length<=_;have:=f.bl;simp;omega,f.el,h,f.po,f.lz⟩
def aDd(E:Env w0 R c d)(u:OkS d m its)(ok:okD d its e):OkS d (m+1) (rK d (its,cc) e).1:=by
 obtain⟨ht,h⟩:=ok;rcases h with⟨h1,h2,h3,h4,h5,h6⟩|⟨h1|h1,h2⟩|⟨h1,h2,h3,h4⟩|⟨h1,h2⟩;unfold rK;rw[if_pos h1];obtain⟨k1,t1,⟨A,pf,pt,pc,X⟩,lb,ot,ln⟩:=e;dsimp only at *;subst h2;have ok0:OkI d (m+1) (its++[iw (A,pf,pt,pc,X)]) (iw (A,pf,pt,pc,X)):=
  ⟨h5,by show 0<=X/\X<=_;omega,ht,⟨qN 0,by show(0:Int)<=((m+1:Nat):Int);omega⟩,wK _,wK _,wK _,wK _,⟨iw (A,pf,pt,pc,X),by simp,rfl⟩,h6,h4⟩
 obtain⟨a,b⟩:=Iq (cc:=cc) E ok0 (by show(0:Int)<=0/\(0:Int)<=_;omega) (tz:=iy (its++[iw (A,pf,pt,pc,X)]) A) (by
  obtain⟨j,q,y,_,G⟩:=Bv (its:=its++[iw (A,pf,pt,pc,X)]) (lb:=A) ⟨iw (A,pf,pt,pc,X),by simp,rfl⟩;rw[G];rcases qI.1 (qZ y)with hm|hm;exact(u q hm).1.po;rw[qX.1 hm];exact h6)
 have hp:=iN (d:=d) (cc:=cc) (iy (its++[iw (A,pf,pt,pc,X)]) A) (iw (A,pf,pt,pc,X));intro j y;rcases qI.1 y with y|y;exact⟨(u j y).1.up.within λlb ⟨q,G,hl⟩=>⟨q,List.mem_append_left _ G,hl⟩,(u j y).2⟩;rw[qX.1 y];exact⟨a.within λlb ⟨q,G,hl⟩=>by
  rcases qI.1 G with G|G;exact⟨q,List.mem_append_left _ G,hl⟩;rw[qX.1 G]at hl;exact⟨_,List.mem_append_right _ (qX.2 rfl),by rw[hp.1];exact hl⟩,b⟩
 obtain⟨k,i,z,hp,hx⟩:=sK h2;have f:=u i (qZ z);unfold rK KE;rw[if_neg Z,if_pos h1];simp only[hx,z];exact QB u z (iN _ _).1 (Iq E (x:={i with lost:=true}) ⟨f.1.off,f.1.arr,f.1.sn,f.1.up.hd,f.1.dl,f.1.up.sl,f.1.up.bl,f.1.el,f.1.to,f.1.po,f.1.lz⟩ f.2.lv (Zp u f.1.to));obtain⟨k,i,z,hp,hx⟩:=sK h2;have f:=u i (qZ z);unfold rK KE;rw[if_neg Z,if_neg Z,if_pos h1];simp only[hx,z];exact QB u z (qk i) (aAq E f.1 f.2);obtain⟨k,i,z,hp,hx⟩:=sK h2;obtain⟨k2,i2,L,hp2,hx2⟩:=sK h3;have f:=u i (qZ z);have oi2:=u i2 (qZ L);have hne:k≠k2:=λe=>by
  subst e;rw[z]at L;cases L;exact h4 (hp.symm.trans hp2)
 unfold rK I8;rw[if_neg Z,if_neg Z,if_neg Z,if_pos h1];simp only[hx,z,hx2,L];split;exact λj y=>⟨(u j y).1.up,(u j y).2⟩;have a1:=Iq (cc:=cc) E (YH f.1 oi2.1.to ht) f.2.lv (Zp u oi2.1.to);have a2:=Iq (cc:=cc) E (YH oi2.1 f.1.to ht) oi2.2.lv (Zp u f.1.to);have p1:=(iN (d:=d) (cc:=cc) (iy its i2.lb) (G9 i i2.lb e.2.1)).1;have p2:=(iN (d:=d) (cc:=cc) (iy its i.lb) (G9 i2 i.lb e.2.1)).1;have s1:=QB u z p1 a1;have hi2':(its.set k (jj d cc (iy its i2.lb) (G9 i i2.lb e.2.1)))[k2]?=some i2:=by rw[zW hne];exact L
 intro j y;rcases mem_set y with y|rfl;exact⟨(s1 j y).1.within λ_ h=>nN hi2' p2 h,(s1 j y).2⟩;exact⟨(a2.1.within λ_ h=>nN z p1 h).within λ_ h=>nN hi2' p2 h,a2.2⟩;unfold rK;rw[if_neg Z,if_neg Z,if_neg Z,if_neg Z];intro j y;obtain⟨i,z,rfl⟩:=vW.1 y;have f:=u i z;have hw:∀lb:ByteArray,(∃q∈its,q.post.1=lb)->∃q∈its.map λi=>if i.line=e.2.2.2.2.2 then {i with line:=-1} else i,q.post.1=lb:=λlb ⟨q,G,hl⟩=>⟨_,vW.2 ⟨q,G,rfl⟩,by split<;>exact hl⟩;split;exact⟨OkI.within (i:={i with line:=-1}) ⟨f.1.off,f.1.arr,f.1.sn,f.1.up.hd,f.1.dl,f.1.up.sl,f.1.up.bl,f.1.el,f.1.to,f.1.po,f.1.lz⟩ hw,⟨.inl (by show(-1:Int)<0;omega),f.2.lv,by show(-1:Int)<=-1;omega⟩⟩;exact⟨f.1.up.within hw,f.2⟩
end Go.Eng.Top
