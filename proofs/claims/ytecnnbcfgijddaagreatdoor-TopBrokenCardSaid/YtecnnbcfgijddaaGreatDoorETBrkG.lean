/- ToM -/
import Derived.Test.YtecnnbcfgijddaaGreatDoorETBrkE
import Derived.Maps.AppendAt
import Derived.WalkKit
import Derived.Deep.Draws
import Derived.Maps.OwnIn
set_option linter.unusedSimpArgs false
set_option linter.unusedVariables false
namespace Go.Eng
open Go.RowKit
abbrev Tag:=Nat->Nat
structure Frm(tg:Tag)(O:Nat->Prop)(W W':World)(tg':Tag):Prop where
 chg:Chg (λb=>O (tg b)) W W'
 tag:∀b,b<W.heap.size->tg' b=tg b
 new:∀b,W'.heap.size<=b->tg' b=0
theorem Chg.sub{O O':Nat->Prop}{w j:World}(h:Chg O w j)(s:∀b,b<w.heap.size->O b->O' b):Chg O' w j:=⟨h.os,h.tape,h.output,h.size,λk u f=>h.block k u λg=>f (s k u g)⟩
theorem Chg.trans'{O:Nat->Prop}{a b c:World}(h:Chg O a b)(k:Chg (λi=>O i\/a.heap.size<=i) b c):Chg O a c:=
 h.step k.os k.tape k.output k.size λi j f=>k.block i (qK j h.size) λg=>g.elim f λg=>absurd j (Nat.not_lt.2 g)
variable {tg tg' tg'':Tag}{O O':Nat->Prop}{W W' W'':World}{R t E sz n:Nat}{v:Value}{xs:Lv}
theorem Frm.refl(h:∀b,W.heap.size<=b->tg b=0):Frm tg O W W tg:=⟨Chg.refl _ _,λ_ _=>rfl,h⟩
theorem Frm.trans(h:Frm tg O W W' tg')(k:Frm tg' O W' W'' tg''):Frm tg O W W'' tg'' :=
 ⟨h.chg.trans' (k.chg.sub λb f g=>(wW b W.heap.size).elim (λl=>.inl (by rw[<- h.tag b l];exact g)) .inr),λb f=>(k.tag b (qK f h.chg.size)).trans (h.tag b f),k.new⟩
theorem Frm.drewN(h:Frm tg O W W' tg')(m:Nat):Frm tg O W (W'.drewN m) tg':=⟨⟨h.chg.os,h.chg.tape,h.chg.output,h.chg.size,h.chg.block⟩,h.tag,h.new⟩
theorem Frm.sub(h:Frm tg O W W' tg')(s:∀t,O t->O' t):Frm tg O' W W' tg':=⟨h.chg.sub λ_ _ g=>s _ g,h.tag,h.new⟩
theorem Frm.below(f:∀b,W.heap.size<=b->tg b=0)(h:Below W.heap.size W W'):Frm tg O W W' tg:=⟨(Chg.refl _ _).below h,λ_ _=>rfl,λb j=>f b (vP h.size j)⟩
theorem Frm.alloc(f:∀b,W.heap.size<=b->tg b=0)(o:Obj):Frm tg O W (W.alloc o) tg:=Frm.below f ((Below.refl _ W).alloc (qL _) o)
theorem Frm.set(h:∀b,W.heap.size<=b->tg b=0){a:Addr}(y:O (tg a.block))(u:Value):Frm tg O W (W.setCell a u) tg:=
 ⟨⟨rfl,rfl,rfl,by simp[World.setCell],λk _ f=>Below.heap_setCell _ _ _ _ λe=>f (by rw[e];exact y)⟩,λ_ _=>rfl,λb j=>h b (by simpa[World.setCell]using j)⟩
def I4(tg:Tag)(b t:Nat):Tag:=λx=>if x=b then t else tg x
theorem Frm.make(f:∀b,W.heap.size<=b->tg b=0)(o:Obj)(t:Nat):Frm tg O W (W.alloc o) (I4 tg W.heap.size t):=
 ⟨(Frm.alloc f o).chg,λb h=>if_neg Z,λb h=>by rw[qH]at h;unfold I4;rw[if_neg Z];exact f b Z⟩
theorem Frm.lo(h:Frm tg O W W' tg'){b:Nat}(j:b<W.heap.size)(f:¬O (tg b)):W'.heap[b]?=W.heap[b]?:=h.chg.block b j f
theorem Lt{f:Nat}(h:W.ownsRow f E sz v n xs)(u:∀b,v.ownBlock=some b->W'.heap[b]?=W.heap[b]?):W'.ownsRow f E sz v n xs:=by
 refine⟨h.1,?_⟩;rcases h.2 with g|⟨g,cap,j,rfl,A,z,y⟩;exact .inl g;exact .inr ⟨g,cap,j,rfl,A,(u g rfl).trans z,y⟩
structure eU(W:World)(R:Nat)(tg:Tag)(t E sz:Nat)(v:Value)(n:Nat)(xs:Lv):Prop where
 own:W.ownsRow R E sz v n xs
 tag:∀b,v.ownBlock=some b->tg b=t
theorem eU.fr(h:eU W R tg t E sz v n xs)(f:Frm tg O W W' tg')(u:¬O t):eU W' R tg' t E sz v n xs:=
 ⟨Lt h.own λb j=>f.lo (h.own.lt b j).2 (by rw[h.tag b j];exact u),λb j=>(f.tag b (h.own.lt b j).2).trans (h.tag b j)⟩
theorem eU.nil:eU W R tg t E sz (.slice none 0 0) 0 []:=⟨qBm _ _ _ _,λb f=>by cases f⟩
theorem eU.sl(h:eU W R tg t E sz v n xs):∃a c,v=.slice a n c:=by
 rcases h.own.2 with⟨rfl,rfl⟩|⟨g,cap,_,rfl,_⟩;exact⟨_,_,rfl⟩;exact⟨_,_,rfl⟩
theorem eU.pos(h:eU W R tg t E sz v n xs)(z:0<n):∃g f,v=.slice (some ⟨g,0,none⟩) n f/\R<=g/\g<W.heap.size/\tg g=t/\n<=f:=by
 rcases h.own.2 with⟨rfl,rfl⟩|⟨g,f,_,rfl,y,u,j,_⟩;omega;exact⟨_,_,rfl,y,(qJ.1 u).1,h.tag g rfl,j⟩
theorem iX{P:Program}{T ty:TypeId}{i:TypeInfo}{z:Value}{G:Nat}{w w':World}{X:Nat}{v':Value}(ht:P.underlying T=some (.slice E))(hi:P.info? E=some i)(hz:i.zero=some z)(hsize:i.size=sz)(hby:i.bytes=G)(h:w.ownsRow X E sz v n xs)
  (a:Addr) (m c:Nat) (f:Lv) (hl:f.length=m*sz) (A:∀j u,f[j]?=some u->w.cell? (a.add j)=some u) (h1:∀u∈f,u.oneCell'=true) (hb:n+m<=1000000) (hb2:(n+m)*G<=140737488355328)
  (hr:(Builtin.append_ #[T,T] ty #[v,.slice (some a) m c]).run P w=.ok v' w'):w'.ownsRow X E sz v n xs:=by
 subst hsize;rcases h.2 with⟨rfl,rfl⟩|⟨g,cap,L,rfl,hbg,hg,hnc,hcm,hcs,htk⟩;exact⟨h.1,.inl ⟨rfl,rfl⟩⟩;by_cases y:n+m<=cap;have hfit:n*i.size+f.length<=L.size:=by rw[hl,hcs,<- zT];exact wM _ y
 have hr2:=run_append_room (P:=P) w T ty E i ht hi g n cap L hg a m c f hl A h1 y hfit;rw[hr2]at hr;cases hr;refine⟨h.1,.inr ⟨g,cap,_,rfl,hbg,qCe w g L _ E _ hg,hnc,hcm,?_,?_⟩⟩;simp only[xB,qG,qO,vZ,vI];omega;have:(L.toList.take (n*i.size)).length=n*i.size:=by rw[qO,vI];omega
 rw[zJ,yO Z,qM Z];exact htk;have holds:∀j u,xs[j]?=some u->w.cell? ((⟨g,0,none⟩:Addr).add j)=some u:=h.cells (g:=g) rfl;have hr2:=run_append_grow (P:=P) w T ty E i z ht hi hz ⟨g,0,none⟩ n cap xs h.1 holds a m c f hl A Z Z (growslice_fits Z (by rw[hby];exact hb2));rw[hr2]at hr;cases hr;exact Lt h λb hb=>by cases hb;exact(World.grownBy_alloc w.drew _ none).block g (qJ.1 hg).1 (by simp)
theorem eU.app{P:Program}{T ty:TypeId}{i:TypeInfo}{z:Value}{f:Nat}(ht:P.underlying T=some (.slice E))(hi:P.info? E=some i)(hz:i.zero=some z)(A:i.size=sz)(hby:i.bytes=f)(hzs:z.cells.size=sz)(hsz:0<sz)
  (hn:∀b,W.heap.size<=b->tg b=0) (h:eU W R tg t E sz v n xs) (a:Addr) (m c:Nat) (y:Lv) (hl:y.length=m*sz) (G:∀j u,y[j]?=some u->W.cell? (a.add j)=some u) (h1:∀u∈y,u.oneCell'=true)
  (L:n+m<=1000000) (hb2:f<=1000) (hR:R<=W.heap.size):
  ∃X W' tg',(Builtin.append_ #[T,T] ty #[v,.slice (some a) m c]).run P W=.ok X W'/\eU W' R tg' t E sz X (n+m) (xs++y)/\eU W' R tg' t E sz v n xs/\Frm tg (·=t) W W' tg'/\(0<m->∃g cap,X=.slice (some ⟨g,0,none⟩) (n+m) cap):=by
 have hx:n+m<=maxLen:=by unfold maxLen;omega
 have hby2:(n+m)*f<=140737488355328:=by
  have:(n+m)*f<=1000000*1000:=Nat.mul_le_mul L hb2;omega
 obtain⟨X,W',hr,h2,h3,h4,h5⟩:=run_append_own_at (P:=P) W R T ty E i z sz f ht hi hz A hby hzs hsz v n xs h.own a m c y hl G h1 hx hby2 hR;have lt:=h2.lt;have old:∀b,b<W.heap.size->X.ownBlock=some b->tg b=t:=λb L e=>by
  rcases h5 with h5|h5;exact h.tag b (h5▸e);rw[h5]at e;cases e;omega
 refine⟨X,W',λb=>if X.ownBlock=some b then t else tg b,hr,⟨h2,λb L=>if_pos L⟩,⟨iX ht hi hz A hby h.own a m c y hl G h1 L hby2 hr,λb L=>by
  by_cases e:X.ownBlock=some b;exact if_pos e;exact(if_neg e).trans (h.tag b L)⟩,⟨⟨h3.os,h3.tape,h3.output,h3.size,λk hk hno=>h3.block k hk λe=>hno (h.tag k e.symm)⟩,λb L=>?_,λb L=>?_⟩,λhm=>?_⟩
 by_cases e:X.ownBlock=some b;rw[if_pos e,old b L e];rw[if_neg e];rw[if_neg λe=>by have:=(lt b e).2;omega];exact hn b (vP h3.size L);rcases h2.2 with⟨rfl,h0⟩|⟨g,cap,_,rfl,_⟩;omega;exact⟨_,_,rfl⟩
variable {b c:Nat}
theorem eU.cell(h:eU W R tg t E sz (.slice (some ⟨b,0,none⟩) n c) n xs){j:Nat}{u:Value}(y:xs[j]?=some u):W.cell? ⟨b,j,none⟩=some u:=by
 have f:j<n*sz:=by rw[<- h.own.1];exact(qC.1 y).1
 rw[h.own.cellAt j f];exact y
theorem eU.free(h:eU W R tg t E sz (.slice (some ⟨b,0,none⟩) n c) n xs)(j:Nat):W.frozen? ⟨b,j,none⟩=false:=h.own.frozenAt j
theorem eU.set(G:∀b,W.heap.size<=b->tg b=0)(h:eU W R tg t E sz (.slice (some ⟨b,0,none⟩) n c) n xs)(j:Nat)(u:Value):eU (W.setCell ⟨b,j,none⟩ u) R tg t E sz (.slice (some ⟨b,0,none⟩) n c) n (xs.set j u)/\Frm tg (·=t) W (W.setCell ⟨b,j,none⟩ u) tg:=by
 refine⟨⟨?_,h.tag⟩,Frm.set G (h.tag b rfl) u⟩;obtain⟨h1,h2|⟨g,cap,y,e,L,X,f,hm,A,z⟩⟩:=h.own;cases h2.1;cases e;refine⟨by rw[zX];exact h1,.inr ⟨b,c,y.setIfInBounds j u,rfl,L,heap_setCell_same W b j y E u X,f,hm,by simpa using A,?_⟩⟩;rw[Array.toList_setIfInBounds,List.take_set,z]
end Go.Eng
