/- ToN -/
import Derived.Test.YtecnnbcfgijddaaGreatDoorETBrkG
import Derived.Test.YtecnnbcfgijddaaGreatDoorProg
set_option linter.unusedSimpArgs false
set_option linter.unusedVariables false
namespace Go.Eng.Top
open Go.Proofs Go.RowKit
abbrev Pst:=ByteArray×Int×Int×Int×Int
structure Raw where
 po:Pst
 st:List (Int×Int×Int×Int)
 lo:Bool
 si:Li
 la:List ByteArray
 se:List ByteArray
 hd:Int
 ln:Int
 lv:Int
structure Gh where
 b:Nat
 st:Value
 si:Value
 la:Value
 se:Value
def kO(s:Int×Int×Int×Int):Lv:=[.int .i64 s.1,.int .i64 s.2.1,.int .i64 s.2.2.1,.int .i64 s.2.2.2]
def qq(g:Gh)(r:Raw):Array Value:=#[.string r.po.1,.int .i64 r.po.2.1,.int .i64 r.po.2.2.1,.int .i64 r.po.2.2.2.1,.int .i64 r.po.2.2.2.2,g.st,.bool r.lo,g.si,g.la,g.se,.int .i64 r.hd,.int .i64 r.ln,.int .i64 r.lv]
structure jF(W:World)(R:Nat)(tg:Tag)(k:Nat)(g:Gh)(r:Raw):Prop where
 cel:W.heap[g.b]?=some (.cells (qq g r) 108 (0,0))
 bR:R<=g.b
 tb:tg g.b=5*k+5
 st:eU W R tg (5*k+6) 61 4 g.st r.st.length (r.st.flatMap kO)
 si:eU W R tg (5*k+7) 3 1 g.si r.si.length (r.si.map (Value.int .i64))
 la:eU W R tg (5*k+8) 9 1 g.la r.la.length (r.la.map Value.string)
 se:eU W R tg (5*k+9) 9 1 g.se r.se.length (r.se.map Value.string)
def itT(k:Nat)(t:Nat):Prop:=5*k+5<=t/\t<5*k+10
variable {tg tg':Tag}{O:Nat->Prop}{W W':World}{R k:Nat}{g g':Gh}{r r':Raw}
theorem jF.fr(h:jF W R tg k g r)(f:Frm tg O W W' tg')(j:∀t,itT k t->¬O t):jF W' R tg' k g r:=by
 have u:=(qJ.1 h.cel).1;refine⟨(f.lo u (by rw[h.tb];exact j _ ⟨Z,Z⟩)).trans h.cel,h.bR,(f.tag _ u).trans h.tb,h.st.fr f (j _ ⟨Z,Z⟩),h.si.fr f (j _ ⟨Z,Z⟩),h.la.fr f (j _ ⟨Z,Z⟩),h.se.fr f (j _ ⟨Z,Z⟩)⟩
structure HC where
 hb:Nat
 nb:Nat
 cb:Nat
 n0:Value
 n1:Value
 n2:Value
 n3:Value
 n4:Value
 n5:Value
 nx:Value
def mN(c:HC)(iv:Value):Array Value:=#[c.n0,c.n1,c.n2,c.n3,c.n4,c.n5,c.nx,iv,.map (some c.nb),.map (some c.cb)]
def aDJ(v:Value):Option (DataW Unit×List MemPlace):=match v with|.pointer (some ⟨b,0,none⟩)=>some (.lit (.int .i64 b),[])|.pointer none=>some (.lit (.int .i64 (-1)),[])|_=>none
def aAc(s:ByteArray):Lit:=.string s.data.toList
structure Hist(W:World)(R:Nat)(tg:Tag)(c:HC)(rs:List Raw)(cc:Li)(gs:List Gh)(iv:Value):Prop where
 new:∀b,W.heap.size<=b->tg b=0
 low:∀b,b<R->tg b=0
 RW:R<=W.heap.size
 hc:W.heap[c.hb]?=some (.cells (mN c iv) 101 (0,0))
 th:tg c.hb=1
 tn:tg c.nb=2
 tc:tg c.cb=3
 rows:eU W R tg 4 106 1 iv gs.length (gs.map λg=>Value.pointer (some ⟨g.b,0,none⟩))
 len:gs.length=rs.length
 it:∀(k:Nat) (g:Gh) (r:Raw),gs[k]?=some g->rs[k]?=some r->jF W R tg k g r
 nm:∃D:DataW Unit,W.ownsMap Tryz.prog 9 aDJ c.nb rs.length D/\Maps.IsMap D/\∀(k:Nat) (g:Gh) (r:Raw),gs[k]?=some g->rs[k]?=some r->D.atKey (aAc r.po.1) (.lit (.int .i64 (-1)))=.lit (.int .i64 g.b)
 ca:∃(D:DataW Unit),W.ownsMap Tryz.prog 3 (plainElem Tryz.prog 4) c.cb cc.length D/\Maps.IsMap D/\∀l:Int,D.atKey (.int .i64 l) (.lit (.bool false))=.lit (.bool (decide (l∈cc)))
theorem dw{D:DataW Unit}{K:Nat}{u:Value->Option (DataW Unit×List MemPlace)}{b n:Nat}(h:W.ownsMap Tryz.prog K u b n D)(e:W'.heap[b]?=W.heap[b]?):W'.ownsMap Tryz.prog K u b n D:=by
 obtain⟨es,f,y,j⟩:=h;exact⟨es,f,e.trans y,j⟩
variable {c:HC}{rs:List Raw}{cc:Li}{gs:List Gh}{iv:Value}
theorem Hist.lt(h:Hist W R tg c rs cc gs iv):c.hb<W.heap.size/\c.nb<W.heap.size/\c.cb<W.heap.size:=by
 obtain⟨_,j,_⟩:=h.nm;obtain⟨_,f,_⟩:=h.ca;exact⟨(qJ.1 h.hc).1,j.lt,f.lt⟩
theorem Hist.fr(h:Hist W R tg c rs cc gs iv)(f:Frm tg O W W' tg')(j:∀t,0<t->¬O t):Hist W' R tg' c rs cc gs iv:=by
 obtain⟨l1,l2,z⟩:=h.lt;have RW:=h.RW;refine⟨f.new,λb X=>(f.tag b Z).trans (h.low b X),vP h.RW f.chg.size,(f.lo l1 (by rw[h.th];exact j _ Z)).trans h.hc,(f.tag _ l1).trans h.th,(f.tag _ l2).trans h.tn,(f.tag _ z).trans h.tc,h.rows.fr f (j _ Z),h.len,
  λk g r L G=>(h.it k g r L G).fr f λt A=>j t (by have:=A.1;omega),?_,?_⟩
 obtain⟨D,y,u⟩:=h.nm;exact⟨D,dw y (f.lo l2 (by rw[h.tn];exact j _ Z)),u⟩;obtain⟨D,y,u⟩:=h.ca;exact⟨D,dw y (f.lo z (by rw[h.tc];exact j _ Z)),u⟩
theorem EX{α:Type}{l:List α}{k j:Nat}{x y:α}(h:(l.set k x)[j]?=some y):(j=k/\y=x)\/(j≠k/\l[j]?=some y):=by
 rw[vS]at h;by_cases e:k=j;rw[if_pos e]at h;split at h;cases h;exact .inl ⟨e.symm,rfl⟩;cases h;rw[if_neg e]at h;exact .inr ⟨λg=>e g.symm,h⟩
theorem Hist.item(h:Hist W R tg c rs cc gs iv)(hg:gs[k]?=some g)(hr:rs[k]?=some r)(f:Frm tg (itT k) W W' tg')(hi:jF W' R tg' k g' r')(G:g'.b=g.b)(u:r'.po=r.po):Hist W' R tg' c (rs.set k r') cc (gs.set k g') iv:=by
 obtain⟨l1,l2,l3⟩:=h.lt;have RW:=h.RW;have A:∀t,t<5->¬itT k t:=λt L g=>by have:=g.1;omega
 have X:∀(j:Nat) (q:Raw),(rs.set k r')[j]?=some q->∃y:Raw,rs[j]?=some y/\q.po=y.po:=λj q e=>by
  rcases EX e with⟨rfl,rfl⟩|⟨_,e⟩;exact⟨r,hr,u⟩;exact⟨q,e,rfl⟩
 have hb':∀(j:Nat) (q:Gh),(gs.set k g')[j]?=some q->∃y:Gh,gs[j]?=some y/\q.b=y.b:=λj q e=>by
  rcases EX e with⟨rfl,rfl⟩|⟨_,e⟩;exact⟨g,hg,G⟩;exact⟨q,e,rfl⟩
 refine⟨f.new,λb G=>(f.tag b Z).trans (h.low b G),vP h.RW f.chg.size,(f.lo l1 (by rw[h.th];exact A _ Z)).trans h.hc,(f.tag _ l1).trans h.th,(f.tag _ l2).trans h.tn,(f.tag _ l3).trans h.tc,?_,by simpa using h.len,λj q p z u=>?_,?_,?_⟩;have:=h.rows.fr f (A _ Z);have e:((gs.set k g').map λg=>Value.pointer (some ⟨g.b,0,none⟩))=gs.map λg=>Value.pointer (some ⟨g.b,0,none⟩):=by
  rw[List.map_set,G];apply wQ;intro j;rw[vS];by_cases e:k=j;subst e;rw[if_pos rfl,qQ,hg];have:=(qC.1 hg).1;rw[if_pos (by simpa using this)];rfl;rw[if_neg e]
 rw[zX,e];exact this;rcases EX z with⟨rfl,rfl⟩|⟨n1,z⟩;rcases EX u with⟨_,rfl⟩|⟨n2,_⟩;exact hi;exact absurd rfl n2;rcases EX u with⟨n2,rfl⟩|⟨_,u⟩;exact absurd n2 n1;exact(h.it j q p z u).fr f λt L g=>by have:=L.1;have:=L.2;have:=g.1;have:=g.2;omega
 obtain⟨D,h1,h2,h3⟩:=h.nm;refine⟨D,?_,h2,λj q p z u=>?_⟩;rw[zX];exact dw h1 (f.lo l2 (by rw[h.tn];exact A _ Z));obtain⟨y,e1,e2⟩:=hb' j q z;obtain⟨p',e3,e4⟩:=X j p u;rw[e2,e4];exact h3 j y p' e1 e3;obtain⟨D,h1,h2⟩:=h.ca;exact⟨D,dw h1 (f.lo l3 (by rw[h.tc];exact A _ Z)),h2⟩
theorem Hist.get(h:Hist W R tg c rs cc gs iv)(j:rs[k]?=some r):∃g,gs[k]?=some g/\jF W R tg k g r:=by
 have f:=(qC.1 j).1;have:k<gs.length:=by rw[h.len];exact f
 exact⟨gs[k],qB this,h.it k _ r (qB this) j⟩
theorem jF.lt(h:jF W R tg k g r):g.b<W.heap.size:=(qJ.1 h.cel).1
theorem jF.cell(h:jF W R tg k g r){j:Nat}{u:Value}(e:(qq g r)[j]?=some u):W.cell? ⟨g.b,j,none⟩=some u:=by simp[World.cell?,h.cel,e]
theorem jF.free(h:jF W R tg k g r)(j:Nat):W.frozen? ⟨g.b,j,none⟩=false:=by simp[World.frozen?,h.cel]
theorem Hist.cell(h:Hist W R tg c rs cc gs iv){j:Nat}{u:Value}(e:(mN c iv)[j]?=some u):W.cell? ⟨c.hb,j,none⟩=some u:=by simp[World.cell?,h.hc,e]
theorem Hist.free(h:Hist W R tg c rs cc gs iv)(j:Nat):W.frozen? ⟨c.hb,j,none⟩=false:=by simp[World.frozen?,h.hc]
theorem jF.scal(j:∀b,W.heap.size<=b->tg b=0)(h:jF W R tg k g r){o:Nat}{u:Value}(e:(qq g r).setIfInBounds o u=qq g r')(G:r'.st=r.st)(A:r'.si=r.si)(z:r'.la=r.la)(y:r'.se=r.se):
  jF (W.setCell ⟨g.b,o,none⟩ u) R tg k g r'/\Frm tg (itT k) W (W.setCell ⟨g.b,o,none⟩ u) tg:=by
 have f:Frm tg (·=5*k+5) W (W.setCell ⟨g.b,o,none⟩ u) tg:=Frm.set j h.tb u;refine⟨⟨?_,h.bR,h.tb,?_,?_,?_,?_⟩,f.sub λt e=>by rw[e];exact⟨Z,Z⟩⟩;rw[<- e];exact heap_setCell_same W g.b o _ _ u h.cel;rw[G];exact h.st.fr f Z;rw[A];exact h.si.fr f Z;rw[z];exact h.la.fr f Z;rw[y];exact h.se.fr f Z
theorem jF.row{u:World}{j:Tag}{T:Nat}(ht:T=5*k+6\/T=5*k+7\/T=5*k+8\/T=5*k+9)(h:jF W R tg k g r)(f:Frm tg (·=T) W u j){o:Nat}{v:Value}(X:g'.b=g.b)(e:(qq g r).setIfInBounds o v=qq g' r')
  (y:(T=5*k+6/\eU u R j T 61 4 g'.st r'.st.length (r'.st.flatMap kO))\/(T≠5*k+6/\g'.st=g.st/\r'.st=r.st))
  (h2:(T=5*k+7/\eU u R j T 3 1 g'.si r'.si.length (r'.si.map (Value.int .i64)))\/(T≠5*k+7/\g'.si=g.si/\r'.si=r.si))
  (h3:(T=5*k+8/\eU u R j T 9 1 g'.la r'.la.length (r'.la.map Value.string))\/(T≠5*k+8/\g'.la=g.la/\r'.la=r.la))
  (h4:(T=5*k+9/\eU u R j T 9 1 g'.se r'.se.length (r'.se.map Value.string))\/(T≠5*k+9/\g'.se=g.se/\r'.se=r.se)):
  jF (u.setCell ⟨g.b,o,none⟩ v) R j k g' r'/\Frm tg (itT k) W (u.setCell ⟨g.b,o,none⟩ v) j:=by
 have hT:itT k T:=⟨Z,Z⟩;have L:j g.b=5*k+5:=(f.tag _ h.lt).trans h.tb;have z:Frm j (·=5*k+5) u (u.setCell ⟨g.b,o,none⟩ v) j:=Frm.set f.new L v;have c1:u.heap[g.b]?=some (.cells (qq g r) 108 (0,0)):=(f.lo h.lt (by rw[h.tb];omega)).trans h.cel;refine⟨⟨?_,by rw[X];exact h.bR,by rw[X];exact L,?_,?_,?_,?_⟩,(f.sub λt e=>by rw[e];exact hT).trans (z.sub λt e=>by rw[e];exact⟨Z,Z⟩)⟩;rw[X,<- e];exact heap_setCell_same u g.b o _ _ v c1;rcases y with⟨e,y⟩|⟨e,G,A⟩;rw[<- e];exact y.fr z Z;rw[G,A];exact(h.st.fr f Z).fr z Z;rcases h2 with⟨e,y⟩|⟨e,G,A⟩;rw[<- e];exact y.fr z Z;rw[G,A];exact(h.si.fr f Z).fr z Z;rcases h3 with⟨e,y⟩|⟨e,G,A⟩;rw[<- e];exact y.fr z Z;rw[G,A];exact(h.la.fr f Z).fr z Z;rcases h4 with⟨e,y⟩|⟨e,G,A⟩;rw[<- e];exact y.fr z Z;rw[G,A];exact(h.se.fr f Z).fr z Z
set_option maxRecDepth 100000
theorem info3:Tryz.prog.info? 3=some ((Tryz.prog.info? 3).getD default):=by kernel_rfl
theorem info9:Tryz.prog.info? 9=some ((Tryz.prog.info? 9).getD default):=by kernel_rfl
theorem aCH:Tryz.prog.info? 61=some ((Tryz.prog.info? 61).getD default):=by kernel_rfl
theorem one_cell{b:Nat}{u:Value}{el:Nat}(h:W.heap[b]?=some (.cells #[u] el (0,0))):∀(j:Nat) x,[u][j]?=some x->W.cell? ((⟨b,0,none⟩:Addr).add j)=some x:=λj x f=>by
 cases j with
 |zero=>cases f;simp[Addr.add,World.cell?,h]
 |succ j=>cases f
theorem Hist.appS(H:Hist W R tg c rs cc gs iv)(hg:gs[k]?=some g)(X:rs[k]?=some r)(hl:r.si.length<100000){b0:Nat}{t:Int}(hb:W.heap[b0]?=some (.cells #[.int .i64 t] 3 (0,0))):
  ∃b z G f,(Builtin.append_ #[30,30] 30 #[g.si,.slice (some ⟨b0,0,none⟩) 1 1]).run Tryz.prog W=.ok (.slice (some ⟨b,0,none⟩) (r.si.length+1) z) G/\Hist G R f c rs cc gs iv/\
   eU G R f (5*k+7) 3 1 (.slice (some ⟨b,0,none⟩) (r.si.length+1) z) (r.si.length+1) ((r.si++[t]).map (Value.int .i64))/\Frm tg (·=5*k+7) W G f:=by
 have y:=H.it k g r hg X;have RW:=H.RW;obtain⟨v',G,f,hap,hv,ho,A,h2⟩:=eU.app (P:=Tryz.prog) (T:=30) (ty:=30) Tryz.underlying30 info3 rfl rfl rfl rfl (by decide) H.new y.si ⟨b0,0,none⟩ 1 1 [.int .i64 t] rfl (one_cell hb) (λu hu=>by simp at hu;subst hu;rfl) Z (by decide) RW;obtain⟨b,z,rfl⟩:=h2 (by decide);have hI':jF G R f k g r:=by
  have L:=(qJ.1 y.cel).1;exact⟨(A.lo L (by rw[y.tb];omega)).trans y.cel,y.bR,(A.tag _ L).trans y.tb,y.st.fr A Z,ho,y.la.fr A Z,y.se.fr A Z⟩
 have H':=H.item hg X (A.sub λt h=>by rw[h];exact⟨Z,Z⟩) hI' rfl rfl;refine⟨b,z,G,f,hap,?_,by rw[zS];exact hv,A⟩;have e1:rs.set k r=rs:=by
  apply wQ;intro j;rw[vS];by_cases e:k=j;subst e;rw[if_pos rfl,X,if_pos (qC.1 X).1];rw[if_neg e]
 have e2:gs.set k g=gs:=by
  apply wQ;intro j;rw[vS];by_cases e:k=j;subst e;rw[if_pos rfl,hg,if_pos (qC.1 hg).1];rw[if_neg e]
 rw[e1,e2]at H';exact H'
end Go.Eng.Top
namespace Go.Eng.Top
open Go.Proofs Go.RowKit
theorem Hist.start{W:World}{R:Nat}(hR:R<=W.heap.size)(c:HC)(z:c.nb=W.heap.size)(y:c.cb=W.heap.size+1)(u:c.hb=W.heap.size+2):
  Hist (((W.alloc (.map #[] 0)).alloc (.map #[] 0)).alloc (.cells (mN c (.slice none 0 0)) 101)) R (λb=>if b=W.heap.size then 2 else if b=W.heap.size+1 then 3 else if b=W.heap.size+2 then 1 else 0) c [] [] [] (.slice none 0 0):=by
 have X:(((W.alloc (.map #[] 0)).alloc (.map #[] 0)).alloc (.cells (mN c (.slice none 0 0)) 101)).heap[W.heap.size]?=(W.alloc (.map #[] 0)).heap[W.heap.size]? :=
  (Below.heap_alloc _ _ _ (by simp only[qH];omega)).trans (Below.heap_alloc _ _ _ (by simp only[qH];omega))
 have L:(((W.alloc (.map #[] 0)).alloc (.map #[] 0)).alloc (.cells (mN c (.slice none 0 0)) 101)).heap[W.heap.size+1]?=((W.alloc (.map #[] 0)).alloc (.map #[] 0)).heap[W.heap.size+1]? :=
  Below.heap_alloc _ _ _ (by simp only[qH];omega)
 have A:=World.alloc_heap_new ((W.alloc (.map #[] 0)).alloc (.map #[] 0)) (.cells (mN c (.slice none 0 0)) 101);rw[qH,qH]at A;have G:(W.alloc (.map #[] 0)).ownsMap Tryz.prog 9 aDJ W.heap.size 0 (.map []):=World.ownsMap_made W _ _ _;have h:((W.alloc (.map #[] 0)).alloc (.map #[] 0)).ownsMap Tryz.prog 3 (plainElem Tryz.prog 4) (W.alloc (.map #[] 0)).heap.size 0 (.map []:DataW Unit):=World.ownsMap_made _ _ _ _;rw[qH]at h;refine⟨λb j=>?_,λb j=>?_,?_,by rw[u];exact A,?_,?_,?_,eU.nil,rfl,λk g r f=>by simp at f,⟨.map [],by rw[z];exact dw G X,⟨_,rfl⟩,λk g r f=>by simp at f⟩,⟨.map [],by rw[y];exact dw h L,⟨_,rfl⟩,λl=>rfl⟩⟩;rw[qH,qH,qH]at j;rw[if_neg Z,if_neg Z,if_neg Z];rw[if_neg Z,if_neg Z,if_neg Z];rw[qH,qH,qH];omega;rw[u,if_neg Z,if_neg Z,if_pos rfl];rw[z,if_pos rfl];rw[y,if_neg Z,if_pos rfl]
end Go.Eng.Top
