/- ToK -/
import Derived.Test.YtecnnbcfgijddaaGreatDoorETBrkJ
import Derived.Lib.AppendZeros
set_option linter.unusedSimpArgs false
set_option linter.unusedVariables false
namespace Go.Eng.Top
open Go.Proofs Go.RowKit
variable {tg tg' tg1 tg2:Tag} {Op:Nat->Prop} {w0 W W' W1 W2:World} {R k m:Nat} {g g':Gh} {r r':Raw} {c:HC} {d:Dat} {its:List Itm} {i:Itm} {rs:List Raw} {cc:Li} {gs:List Gh} {iv v':Value}
theorem Bg{α:Type}{l:List α}{x y:α}{j:Nat}(h:(l++[x])[j]?=some y):l[j]?=some y\/(j=l.length/\y=x):=by
 by_cases e:j<l.length;rw[vU e]at h;exact .inl h;rw[qV Z]at h;have:=(qC.1 h).1;simp at this;have f:j=l.length:=Z;subst f;simp at h;exact .inr ⟨rfl,h.symm⟩
theorem str_inj{x y:ByteArray}(h:x.data.toList=y.data.toList):x=y:=by
 cases x;cases y;exact yF ByteArray.mk (Array.toList_inj.1 h)
theorem Hist.push(H:Hist W R tg c rs cc gs iv)(F1:Frm tg (λ_=>False) W W1 tg1)(hI:jF W1 R tg1 rs.length g r)(F2:Frm tg1 (·=4) W1 W2 tg2)(hv:eU W2 R tg2 4 106 1 v' (gs.length+1) ((gs.map λg=>Value.pointer (some ⟨g.b,0,none⟩))++[.pointer (some ⟨g.b,0,none⟩)]))
  (hl:∀q∈rs,q.po.1≠r.po.1) (hz:r.po.1.size<=maxLen) (hn:rs.length<100000):
  ∃y,(Instr.mapUpdate 97 (.map (some c.nb)) (.string r.po.1) (.pointer (some ⟨g.b,0,none⟩))).run Tryz.prog (W2.setCell ⟨c.hb,7,none⟩ v').drew=.ok () y/\Hist y R tg2 c (rs++[r]) cc (gs++[g]) v'/\Frm tg Bh W y tg2/\Frm tg1 Bh W1 y tg2:=by
 obtain⟨l1,l2,l3⟩:=H.lt;have RW:=H.RW;have A:Frm tg (·=4) W W2 tg2:=(F1.sub λ_ h=>h.elim).trans F2;have h2:tg2 c.hb=1:=(A.tag _ l1).trans H.th;have F3:Frm tg2 (·=1) W2 (W2.setCell ⟨c.hb,7,none⟩ v').drew tg2:=(Frm.set F2.new h2 v').drewN 1;have L:Frm tg (λt=>t=4\/t=1) W (W2.setCell ⟨c.hb,7,none⟩ v').drew tg2:=(A.sub λ_ h=>.inl h).trans (F3.sub λ_ h=>.inr h);obtain⟨D,g1,g2,g3⟩:=H.nm;have l4:=L.chg.size;have n1:=dw g1 (L.lo l2 (by rw[H.tn];omega));obtain⟨y,hr,ho,X⟩:=n1.update (Maps.string_keyed Tryz.underlying9) Tryz.underlying97 (e:=106) (by unfold maxLen;omega) (key:=.string r.po.1) (val:=.pointer (some ⟨g.b,0,none⟩)) (WideMaps.keyOf_string_mk Tryz.underlying9 hz) (d:=.lit (.int .i64 g.b)) (ps:=[]) rfl;have tn2:tg2 c.nb=2:=(L.tag _ l2).trans H.tn;have F4:Frm tg2 (·=2) (W2.setCell ⟨c.hb,7,none⟩ v').drew y tg2:=⟨⟨X.os,X.tape,X.output,X.size,λb hb hno=>X.block b hb λe=>hno (by cases e;exact tn2)⟩,λ_ _=>rfl,λb hb=>F3.new b (vP X.size hb)⟩;have G:Frm tg2 (λt=>t=1\/t=2) W2 y tg2:=(F3.sub λ_ h=>.inl h).trans (F4.sub λ_ h=>.inr h);have f:Frm tg (λt=>t=4\/t=1\/t=2) W y tg2:=(A.sub λ_ h=>.inl h).trans (G.sub λ_ h=>.inr h);have F24:Frm tg1 (λt=>t=4\/t=1\/t=2) W1 y tg2:=(F2.sub λ_ h=>.inl h).trans (G.sub λ_ h=>.inr h);have hc2:W2.heap[c.hb]?=some (.cells (mN c iv) 101 (0,0)):=(A.lo l1 (by rw[H.th];omega)).trans H.hc;have hc3:(W2.setCell ⟨c.hb,7,none⟩ v').drew.heap[c.hb]?=some (.cells (mN c v') 101 (0,0)):=heap_setCell_same W2 c.hb 7 (mN c iv) 101 v' hc2
 have l5:c.hb<(W2.setCell ⟨c.hb,7,none⟩ v').drew.heap.size:=(qJ.1 hc3).1;refine⟨y,hr,⟨F4.new,λb hb=>(f.tag b Z).trans (H.low b hb),vP RW f.chg.size,(F4.lo l5 (by rw[h2];omega)).trans hc3,h2,tn2,(f.tag _ l3).trans H.tc,?_,by simp[H.len],λj q p hq hp=>?_,?_,?_⟩,f.sub λt h=>by unfold Bh;omega,F24.sub λt h=>by unfold Bh;omega⟩;have:=hv.fr G Z;rw[qG,zS];exact this;rcases Bg hq with z|⟨z,e2⟩;rcases Bg hp with u|⟨u,e4⟩;exact(H.it j q p z u).fr f λt ht=>by have:=ht.1;omega
 have:=(qC.1 z).1;have:=H.len;omega;rcases Bg hp with u|⟨u,e4⟩;have:=(qC.1 u).1;have:=H.len;omega;rw[u,e2,e4];exact hI.fr F24 λt ht=>by have:=ht.1;omega
 refine⟨_,by rw[qG];exact ho,g2.put _ _,λj q p hq hp=>?_⟩;rcases Bg hp with u|⟨u,e4⟩;have ne:p.po.1≠r.po.1:=hl p (qZ u);rw[Maps.atKey_put_other (by
  unfold aAc;intro e;simp only[Lit.string.injEq]at e;exact ne (str_inj e))]
 rcases Bg hq with z|⟨z,e2⟩;exact g3 j q p z u;have:=(qC.1 u).1;have:=H.len;omega;rcases Bg hq with z|⟨z,e2⟩;have:=(qC.1 z).1;have:=H.len;omega;rw[e4,e2];exact Maps.atKey_put_same g2 (by simp[WideAt.IsKeyLit,aAc]) _ _;obtain⟨D',g1',g2'⟩:=H.ca;exact⟨D',dw g1' (f.lo l3 (by rw[H.tc];omega)),g2'⟩
theorem JE{E sz:Nat}{t:Nat}{f:Array Value}{b:Nat}(y:W.heap[b]?=some (.cells f E (0,0)))(h:f.size=sz)(z:R<=b)(u:tg b=t):eU W R tg t E sz (.slice (some ⟨b,0,none⟩) 1 1) 1 f.toList:=
 ⟨⟨by rw[vI,h,yA],.inr ⟨b,1,f,rfl,z,y,qL _,by decide,by rw[h,yA],by rw[yA,<- h];exact qM (by rw[vI];exact qL _)⟩⟩,λx j=>by cases j;exact u⟩
theorem aAo:Tryz.prog.info? 106=some ((Tryz.prog.info? 106).getD default):=by kernel_rfl
set_option maxRecDepth 100000 in
set_option maxHeartbeats 4000000 in
theorem aC2(E:Env w0 R c d)(H:Hist W R tg c (its.map Itm.raw) cc gs iv)(hB:Below R w0 W)(e:bZ)(he:e.2.2.1.2.2.2.2=e.2.1)(hl:∀q∈its,q.post.1≠e.2.2.1.1)(hn:its.length<900)(hm:m<=900)
  (hz:∀j∈its,j.post.1.size<=1000/\0<=j.post.2.2.1/\j.post.2.2.1<d.N) (hx:e.2.2.1.1.size<=1000/\(0<=e.2.2.1.2.1/\e.2.2.1.2.1<d.N)/\(0<=e.2.2.1.2.2.1/\e.2.2.1.2.2.1<d.N)) (ht:0<=e.2.1/\e.2.1<=1000000):
  Calls Tryz.prog 102 #[.pointer (some ⟨c.hb,0,none⟩),.agg (aU e)] W λe' L=>e'=.returned (.tuple #[])/\∃tg' gs' iv',
   Frm tg Bh W L tg'/\Hist L R tg' c ((its++[jj d cc (iy (its++[iw e.2.2.1]) e.2.2.1.1) (iw e.2.2.1)]).map Itm.raw) cc gs' iv':=by
 obtain⟨k1,t1,⟨y,z,A,G,f⟩,lb,ot,ln⟩:=e;have he:f=t1:=he;subst he;dsimp only at he hl hx ht ⊢;clear he;have RW:=H.RW;obtain⟨N,hN⟩:∃N,W.heap.size=N:=⟨_,rfl⟩;obtain⟨W1,hW1⟩:∃W1,W.alloc (.cells #[.int .i64 k1,.int .i64 f,.string y,.int .i64 z,.int .i64 A,.int .i64 G,.int .i64 f,.string lb,.string ot,.int .i64 ln] 59)=W1:=⟨_,rfl⟩;obtain⟨W2,hW2⟩:∃W2,W1.alloc (.cells #[.int .i64 z,.int .i64 f,.int .i64 (-1),.int .i64 (-1)] 61)=W2:=⟨_,rfl⟩;obtain⟨W3,hW3⟩:∃W3,W2.alloc (.cells #[.int .i64 f] 3)=W3:=⟨_,rfl⟩;obtain⟨W4,hW4⟩:∃W4,W3.alloc (.cells #[.string y] 9)=W4:=⟨_,rfl⟩;obtain⟨W5,hW5⟩:∃W5,W4.alloc (.cells #[.string y,.int .i64 z,.int .i64 A,.int .i64 G,.int .i64 f,.slice (some ⟨N+1,0,none⟩) 1 1,.bool false,.slice (some ⟨N+2,0,none⟩) 1 1,.slice (some ⟨N+3,0,none⟩) 1 1,.slice none 0 0,.int .i64 0,.int .i64 0,.int .i64 0] 108)=W5:=⟨_,rfl⟩;obtain⟨W6,hW6⟩:∃W6,W5.alloc (.cells #[.pointer (some ⟨N+4,0,none⟩)] 106)=W6:=⟨_,rfl⟩;have s1:W1.heap.size=N+1:=by rw[<- hW1,qH,hN]
 have s2:W2.heap.size=N+2:=by rw[<- hW2,qH,s1]
 have s3:W3.heap.size=N+3:=by rw[<- hW3,qH,s2]
 have s4:W4.heap.size=N+4:=by rw[<- hW4,qH,s3]
 have s5:W5.heap.size=N+5:=by rw[<- hW5,qH,s4]
 have s6:W6.heap.size=N+6:=by rw[<- hW6,qH,s5]
 obtain⟨k,hk⟩:∃k,its.length=k:=⟨_,rfl⟩;have f1:Frm tg (λ_=>False) W W1 tg:=hW1▸Frm.alloc H.new _;obtain⟨u2,hu2⟩:∃u,I4 tg W1.heap.size (5*k+6)=u:=⟨_,rfl⟩;have f2:Frm tg (λ_=>False) W1 W2 u2:=hu2▸hW2▸Frm.make f1.new _ _;obtain⟨u3,hu3⟩:∃u,I4 u2 W2.heap.size (5*k+7)=u:=⟨_,rfl⟩;have f3:Frm u2 (λ_=>False) W2 W3 u3:=hu3▸hW3▸Frm.make f2.new _ _;obtain⟨u4,hu4⟩:∃u,I4 u3 W3.heap.size (5*k+8)=u:=⟨_,rfl⟩;have f4:Frm u3 (λ_=>False) W3 W4 u4:=hu4▸hW4▸Frm.make f3.new _ _;obtain⟨u5,hu5⟩:∃u,I4 u4 W4.heap.size (5*k+5)=u:=⟨_,rfl⟩;have f5:Frm u4 (λ_=>False) W4 W5 u5:=hu5▸hW5▸Frm.make f4.new _ _;have f6:Frm u5 (λ_=>False) W5 W6 u5:=hW6▸Frm.alloc f5.new _;have f16:=((((f1.trans f2).trans f3).trans f4).trans f5).trans f6;have b2:W2.heap[N+1]?=some (.cells #[.int .i64 z,.int .i64 f,.int .i64 (-1),.int .i64 (-1)] 61 (0,0)):=by rw[<- hW2,<- s1];exact World.alloc_heap_new W1 _
 have b3:W3.heap[N+2]?=some (.cells #[.int .i64 f] 3 (0,0)):=by rw[<- hW3,<- s2];exact World.alloc_heap_new W2 _
 have b4:W4.heap[N+3]?=some (.cells #[.string y] 9 (0,0)):=by rw[<- hW4,<- s3];exact World.alloc_heap_new W3 _
 have b5:W5.heap[N+4]?=some (.cells #[.string y,.int .i64 z,.int .i64 A,.int .i64 G,.int .i64 f,.slice (some ⟨N+1,0,none⟩) 1 1,.bool false,.slice (some ⟨N+2,0,none⟩) 1 1,.slice (some ⟨N+3,0,none⟩) 1 1,.slice none 0 0,.int .i64 0,.int .i64 0,.int .i64 0] 108 (0,0)):=by rw[<- hW5,<- s4];exact World.alloc_heap_new W4 _
 have b6:W6.heap[N+5]?=some (.cells #[.pointer (some ⟨N+4,0,none⟩)] 106 (0,0)):=by rw[<- hW6,<- s5];exact World.alloc_heap_new W5 _
 have r2:eU W2 R u2 (5*k+6) 61 4 _ _ _:=JE b2 rfl Z (by rw[<- hu2,s1];exact if_pos rfl);have r3:eU W3 R u3 (5*k+7) 3 1 _ _ _:=JE b3 rfl Z (by rw[<- hu3,s2];exact if_pos rfl);have r4:eU W4 R u4 (5*k+8) 9 1 _ _ _:=JE b4 rfl Z (by rw[<- hu4,s3];exact if_pos rfl);have hIt:jF W6 R u5 (its.map Itm.raw).length ⟨N+4,.slice (some ⟨N+1,0,none⟩) 1 1,.slice (some ⟨N+2,0,none⟩) 1 1,.slice (some ⟨N+3,0,none⟩) 1 1,.slice none 0 0⟩ (iw (y,z,A,G,f)).raw:=by
  rw[vX,hk];refine⟨(f6.lo (b:=N+4) Z (λh=>h)).trans b5,by show R<=N+4;omega,by show u5 (N+4)=_;rw[<- hu5,s4];exact if_pos rfl,?_,?_,?_,eU.nil⟩;exact(((r2.fr f3 (λh=>h)).fr f4 (λh=>h)).fr f5 (λh=>h)).fr f6 (λh=>h);exact((r3.fr f4 (λh=>h)).fr f5 (λh=>h)).fr f6 (λh=>h);exact(r4.fr f5 (λh=>h)).fr f6 (λh=>h)
 have hrow6:=H.rows.fr f16 (λh=>h);have X:gs.length=k:=by have:=H.len;simpa[hk]using this
 have H6:Hist W6 R u5 c (its.map Itm.raw) cc gs iv:=H.fr f16 λ_ _ h=>h;obtain⟨v',W7,tg2,hap,hv,_,F7,hv2⟩:=eU.app (P:=Tryz.prog) (T:=99) (ty:=99) Tryz.underlying99 aAo rfl rfl rfl rfl (by decide) f16.new hrow6 ⟨N+5,0,none⟩ 1 1 [.pointer (some ⟨N+4,0,none⟩)] rfl (λj u hj=>by
  cases j with
  |zero=>cases hj;simp[Addr.add,World.cell?,b6]
  |succ j=>cases hj) (λu hu=>by simp at hu;subst hu;rfl) Z (by decide) Z
 obtain⟨g7,c7,rfl⟩:=hv2 (by decide);obtain⟨W9,hup,H9,F9,F69⟩:=H.push f16 hIt F7 hv (λq hq=>by
  obtain⟨j,hj,rfl⟩:=vW.1 hq;exact hl j hj) (by show y.size<=maxLen;have:y.size<=1000:=hx.1;unfold maxLen;omega) (by rw[vX];omega)
 have f15:=(((f1.trans f2).trans f3).trans f4).trans f5;have H5:Hist W5 R u5 c (its.map Itm.raw) cc gs iv:=H.fr f15 λ_ _ h=>h;obtain⟨av,cv,hiv⟩:=H.rows.sl;have c5:W5.cell? ⟨c.hb,7,none⟩=some (.slice av gs.length cv):=by rw[<- hiv];exact H5.cell (j:=7) rfl
 have l6:=H6.lt;have hh7:W7.heap[c.hb]?=W6.heap[c.hb]?:=F7.lo l6.1 (by rw[H6.th];omega);have y7:W7.cell? ⟨c.hb,7,none⟩=some (.slice av gs.length cv):=by rw[<- hiv];simp only[World.cell?,hh7,H6.hc];rfl
 have z7:W7.frozen? ⟨c.hb,7,none⟩=false:=by simp only[World.frozen?,hh7,H6.hc];rfl
 rw[hiv,X]at hap;rw[X]at c5 y7;have hN7:N<W7.heap.size:=by have:=F7.chg.size;omega
 have bd:∀L:World,L.heap[N]?=some (.cells #[.int .i64 k1,.int .i64 f,.string y,.int .i64 z,.int .i64 A,.int .i64 G,.int .i64 f,.string lb,.string ot,.int .i64 ln] 59 (0,0))->L.cell? ⟨N,2,none⟩=some (.string y):=λL h=>by simp[World.cell?,h]
 have d1:W1.heap[N]?=some (.cells #[.int .i64 k1,.int .i64 f,.string y,.int .i64 z,.int .i64 A,.int .i64 G,.int .i64 f,.string lb,.string ot,.int .i64 ln] 59 (0,0)):=by rw[<- hW1,<- hN];exact World.alloc_heap_new W _
 have d6:=((((f2.trans f3).trans f4).trans f5).trans f6).lo (b:=N) Z (λh=>h);have t6:u5 N=0:=by
  rw[<- hu5,<- hu4,<- hu3,<- hu2,s1,s2,s3,s4];unfold I4;rw[if_neg Z,if_neg Z,if_neg Z,if_neg Z];exact H.new N Z
 have d7:W7.heap[N]?=W6.heap[N]?:=F7.lo Z (by rw[t6];omega);have x8:(W7.setCell ⟨c.hb,7,none⟩ (.slice (some ⟨g7,0,none⟩) (gs.length+1) c7)).cell? ⟨c.hb,8,none⟩=some (.map (some c.nb)):=by
  have hc8:=heap_setCell_same W7 c.hb 7 (mN c iv) 101 (.slice (some ⟨g7,0,none⟩) (gs.length+1) c7) (hh7.trans H6.hc);simp only[World.cell?,hc8];rfl
 have hNh:N≠c.hb:=by have:=H.lt.1;omega
 have xl:(W7.setCell ⟨c.hb,7,none⟩ (.slice (some ⟨g7,0,none⟩) (gs.length+1) c7)).cell? ⟨N,2,none⟩=some (.string y):=bd _ ((Below.heap_setCell _ _ _ _ hNh).trans (d7.trans (d6.trans d1)));have db:∀L:World,L.heap[N]?=some (.cells #[.int .i64 k1,.int .i64 f,.string y,.int .i64 z,.int .i64 A,.int .i64 G,.int .i64 f,.string lb,.string ot,.int .i64 ln] 59 (0,0))->L.cell? ⟨N,3,none⟩=some (.int .i64 z)/\L.cell? ⟨N,4,none⟩=some (.int .i64 A)/\L.cell? ⟨N,5,none⟩=some (.int .i64 G)/\L.cell? ⟨N,6,none⟩=some (.int .i64 f):=λL h=>by simp[World.cell?,h]
 have p2:=bd _ d1;obtain⟨p3,p4,p5,p6⟩:=db _ d1;have d2:=(f2.lo (b:=N) Z (λh=>h)).trans d1;have d3:=(f3.lo (b:=N) Z (λh=>h)).trans d2;obtain⟨_,_,_,q6⟩:=db _ d2;have q2:=bd _ d3;have yl:W9.cell? ⟨N,2,none⟩=some (.string y):=bd _ ((F69.lo (b:=N) Z (by rw[t6];unfold Bh;omega)).trans (d6.trans d1));have y8:W9.cell? ⟨c.hb,8,none⟩=some (.map (some c.nb)):=H9.cell (j:=8) rfl;obtain⟨W8,hW8⟩:∃W8,W7.setCell ⟨c.hb,7,none⟩ (.slice (some ⟨g7,0,none⟩) (gs.length+1) c7)=W8:=⟨_,rfl⟩;rw[hW8]at hup x8 xl;rw[X]at hW8 hv;change (Instr.mapUpdate 97 (.map (some c.nb)) (.string y) (.pointer (some ⟨N+4,0,none⟩))).run Tryz.prog W8.drew=.ok () W9 at hup;clear H5 b2 b3 b4 b5 b6 r2 r3 r4 f1 f2 f3 f4 f5 f6 f15 hIt hrow6 bd db d1 d2 d3 d6 d7;unfold aU;dsimp only
 go_enter Tryz.func102,Tryz.ntmps102
 go_wp2_with (first
  |(at_builtin;refine Lib.wpList_append_run _ rfl _ _ _ _ rfl _ _ rfl rfl _ _ hap ?_))
 go_region_held3 (λL=>L.cell? ⟨c.hb,8,none⟩=some (.map (some c.nb))/\L.cell? ⟨N,2,none⟩=some (.string y)) (go_keep) (fail)
 have ha:(its++[iw (y,z,A,G,f)])[its.length]?=some (iw (y,z,A,G,f)):=by simp
 have hga:(gs++[(⟨N+4,.slice (some ⟨N+1,0,none⟩) 1 1,.slice (some ⟨N+2,0,none⟩) 1 1,.slice (some ⟨N+3,0,none⟩) 1 1,.slice none 0 0⟩:Gh)])[its.length]?=some ⟨N+4,.slice (some ⟨N+1,0,none⟩) 1 1,.slice (some ⟨N+2,0,none⟩) 1 1,.slice (some ⟨N+3,0,none⟩) 1 1,.slice none 0 0⟩:=by rw[hk,<- X];simp
 have ok:OkI d m (its++[iw (y,z,A,G,f)]) (iw (y,z,A,G,f)):=
  ⟨hx.2.1,by show 0<=f/\f<=_;omega,ht,⟨qN 0,by show(0:Int)<=m;omega⟩,wK _,wK _,wK _,wK _,⟨iw (y,z,A,G,f),by simp,rfl⟩,hx.2.2,hx.1⟩
 have H9':Hist W9 R tg2 c ((its++[iw (y,z,A,G,f)]).map Itm.raw) cc (gs++[⟨N+4,.slice (some ⟨N+1,0,none⟩) 1 1,.slice (some ⟨N+2,0,none⟩) 1 1,.slice (some ⟨N+3,0,none⟩) 1 1,.slice none 0 0⟩]) (.slice (some ⟨g7,0,none⟩) (gs.length+1) c7):=by rw[zS];exact H9
 have hd:=aC7 E H9' (cT H.low H.RW hB F9 (by unfold Bh;omega)) hga ha ok hm (λj hj=>by
  rcases qI.1 hj with h|h;exact hz j h;rw[qX.1 h];exact⟨hx.1,hx.2.2⟩)
 rw[show(its++[iw (y,z,A,G,f)]).set its.length (jj d cc (iy (its++[iw (y,z,A,G,f)]) (iw (y,z,A,G,f)).lb) (iw (y,z,A,G,f)))=its++[jj d cc (iy (its++[iw (y,z,A,G,f)]) y) (iw (y,z,A,G,f))] by rw[List.set_append,if_neg Z,qAg];rfl]at hd
 go_wp2_with (first
  |(go_at_call 109;refine hd.mono ?_;rintro e L ⟨rfl,F10,H10⟩))
 go_end0
 exact⟨rfl,_,_,_,F9.trans (F10.sub λt h=>by unfold Bh;have:=h.1;omega),H10⟩
end Go.Eng.Top
namespace Go.Eng.Top
open Go.Proofs Go.RowKit
def aA0(a:Addr)(v:Value):Option (DataW Unit×List MemPlace):=match v with
 |.func (.func f) b c=>(match b.toList,c.toList with
  |[.pointer (some q)],[]=>if q=a then some (.lit (.int .i64 f),[])else none|_,_=>none)
 |.nilFunc=>some (.lit (.int .i64 (-1)),[])|_=>none
theorem X8{a:Addr}{v:Value}{f:Nat}{ps:List MemPlace}(h:aA0 a v=some (.lit (.int .i64 f),ps)):v=.func (.func f) #[.pointer (some a)] #[]:=by
 unfold aA0 at h;split at h;rename_i g b c;split at h;rename_i q y u;split at h;rename_i e;subst e;simp only[vT,kL,DataW.lit.injEq,Lit.int.injEq,yE]at h;have j:g=f:=Int.ofNat.inj h.1;subst j;rw[show b=#[.pointer (some q)]from Array.toList_inj.1 y,show c=#[]from Array.toList_inj.1 u];cases h;cases h;simp at h;cases h
def aBs(W:World)(M:Nat)(a:Addr):Prop:=∃D:DataW Unit,W.ownsMap Tryz.prog 3 (aA0 a) M 5 D/\Maps.IsMap D/\∀k:Nat,1<=k->k<=5->D.atKey (.int .i64 k) (.lit (.int .i64 (-1)))=.lit (.int .i64 (101+k))
theorem qy{W:World}{M n:Nat}{a:Addr}{D:DataW Unit}(h:W.ownsMap Tryz.prog 3 (aA0 a) M n D)(y:n<10){k:Int}(u:(Lit.int .i64 k).wf=true)(f:Nat):
  ∃j,(Instr.mapUpdate 102 (.map (some M)) (.int .i64 k) (.func (.func f) #[.pointer (some a)] #[])).run Tryz.prog W=.ok () j/\j.ownsMap Tryz.prog 3 (aA0 a) M (n+1) (D.put (.int .i64 k) (.lit (.int .i64 f)))/\W.grownBy j (some M):=
 h.update (Maps.int_keyed Tryz.underlying3) Tryz.underlying102 (by unfold maxLen;omega) (Maps.keyOf_int_mk Tryz.underlying3 u) (d:=.lit (.int .i64 f)) (ps:=[]) (by simp only[aA0,kE])
set_option maxRecDepth 100000 in
set_option maxHeartbeats 4000000 in
theorem TS(W:World)(a:Addr):Calls Tryz.prog 40 #[.pointer (some a)] W λe f=>e=.returned (.map (some W.heap.size))/\aBs f W.heap.size a/\Below W.heap.size W f:=by
 have hmm:=@run_makeMap Tryz.prog;have g0:(W.alloc (.map #[] 0)).ownsMap Tryz.prog 3 (aA0 a) W.heap.size 0 (.map []):=World.ownsMap_made W _ _ _;obtain⟨W1,r1,g1,c1⟩:=qy g0 Z (k:=1) rfl 102;obtain⟨W2,r2,g2,c2⟩:=qy g1 Z (k:=2) rfl 103;obtain⟨W3,r3,X,c3⟩:=qy g2 Z (k:=3) rfl 104;obtain⟨W4,r4,L,c4⟩:=qy X Z (k:=4) rfl 105;obtain⟨W5,r5,G,c5⟩:=qy L Z (k:=5) rfl 106;obtain⟨M,A⟩:∃M,W.heap.size=M:=⟨_,rfl⟩;have hB:Below W.heap.size W W5:=by
  have b0:Below W.heap.size W (W.alloc (.map #[] 0)):=(Below.refl _ W).alloc (qL _) _;have b1:=b0.grown c1 b0.size (λk e=>by cases e;exact qL _);have b2:=b1.grown c2 b1.size (λk e=>by cases e;exact qL _);have b3:=b2.grown c3 b2.size (λk e=>by cases e;exact qL _);have b4:=b3.grown c4 b3.size (λk e=>by cases e;exact qL _);exact b4.grown c5 b4.size (λk e=>by cases e;exact qL _)
 have z:Maps.IsMap (DataW.map []:DataW Unit):=⟨_,rfl⟩;have y:=z.put (.int .i64 1) (.lit (.int .i64 (102:Nat)));have u:=y.put (.int .i64 2) (.lit (.int .i64 (103:Nat)));have j:=u.put (.int .i64 3) (.lit (.int .i64 (104:Nat)));have h:=j.put (.int .i64 4) (.lit (.int .i64 (105:Nat)));have hA:aBs W5 W.heap.size a:=by
  refine⟨_,G,h.put _ _,λk h1 h2=>?_⟩;rcases(by omega:k=1\/k=2\/k=3\/k=4\/k=5)with rfl|rfl|rfl|rfl|rfl
  rw[Maps.atKey_put_other (by simp),Maps.atKey_put_other (by simp),Maps.atKey_put_other (by simp),Maps.atKey_put_other (by simp)];exact Maps.atKey_put_same z (by simp[WideAt.IsKeyLit]) _ _;rw[Maps.atKey_put_other (by simp),Maps.atKey_put_other (by simp),Maps.atKey_put_other (by simp)];exact Maps.atKey_put_same y (by simp[WideAt.IsKeyLit]) _ _;rw[Maps.atKey_put_other (by simp),Maps.atKey_put_other (by simp)];exact Maps.atKey_put_same u (by simp[WideAt.IsKeyLit]) _ _;rw[Maps.atKey_put_other (by simp)];exact Maps.atKey_put_same j (by simp[WideAt.IsKeyLit]) _ _;exact Maps.atKey_put_same h (by simp[WideAt.IsKeyLit]) _ _
 rw[A]at r1 r2 r3 r4 r5;clear g0 g1 g2 X L G c1 c2 c3 c4 c5
 go_enter Tryz.func40,Tryz.ntmps40
 go_wp2
 go_ret
 exact⟨by rw[A];rfl,hA,hB⟩
theorem X7{W:World}{M:Nat}{a:Addr}(h:aBs W M a){k:Nat}(y:1<=k)(u:k<=5):(Instr.lookup 102 (.map (some M)) (.int .i64 k) false).run Tryz.prog W=.ok (.func (.func (101+k)) #[.pointer (some a)] #[]) W:=by
 obtain⟨D,g,_,j⟩:=h;obtain⟨v,A,e,f⟩:=g.lookup (Maps.int_keyed Tryz.underlying3) Tryz.underlying102 (e:=105) (z:=.nilFunc) (zd:=.lit (.int .i64 (-1))) (zp:=[]) (Tryz.zeroValue105 _) rfl (key:=.int .i64 k) (Maps.keyOf_int_mk Tryz.underlying3 (by
  rcases(by omega:k=1\/k=2\/k=3\/k=4\/k=5)with rfl|rfl|rfl|rfl|rfl<;>rfl))
 rw[j k y u]at f;rw[e,X8 f]
variable {tg tg':Tag} {O:Nat->Prop} {W W':World} {R k k2:Nat} {g g2:Gh} {r r2:Raw} {c:HC} {rs:List Raw} {cc:Li} {gs:List Gh} {iv:Value}
set_option maxRecDepth 100000 in
theorem Hist.appL(H:Hist W R tg c rs cc gs iv)(hg:gs[k]?=some g)(X:rs[k]?=some r)(hl:r.la.length<100000){b0:Nat}{t:ByteArray}(hb:W.heap[b0]?=some (.cells #[.string t] 9 (0,0))):
  ∃b z G f,(Builtin.append_ #[23,23] 23 #[g.la,.slice (some ⟨b0,0,none⟩) 1 1]).run Tryz.prog W=.ok (.slice (some ⟨b,0,none⟩) (r.la.length+1) z) G/\Hist G R f c rs cc gs iv/\
   eU G R f (5*k+8) 9 1 (.slice (some ⟨b,0,none⟩) (r.la.length+1) z) (r.la.length+1) ((r.la++[t]).map Value.string)/\Frm tg (·=5*k+8) W G f:=by
 have y:=H.it k g r hg X;have RW:=H.RW;obtain⟨v',G,f,hap,hv,ho,A,h2⟩:=eU.app (P:=Tryz.prog) (T:=23) (ty:=23) Tryz.underlying23 info9 rfl rfl rfl rfl (by decide) H.new y.la ⟨b0,0,none⟩ 1 1 [.string t] rfl (one_cell hb) (λu hu=>by simp at hu;subst hu;rfl) Z (by decide) RW;obtain⟨b,z,rfl⟩:=h2 (by decide);have hI':jF G R f k g r:=by
  have L:=(qJ.1 y.cel).1;exact⟨(A.lo L (by rw[y.tb];omega)).trans y.cel,y.bR,(A.tag _ L).trans y.tb,y.st.fr A Z,y.si.fr A Z,ho,y.se.fr A Z⟩
 have H':=H.item hg X (A.sub λt h=>by rw[h];exact⟨Z,Z⟩) hI' rfl rfl;refine⟨b,z,G,f,hap,?_,by rw[zS];exact hv,A⟩;have e1:rs.set k r=rs:=by
  apply wQ;intro j;rw[vS];by_cases e:k=j;subst e;rw[if_pos rfl,X,if_pos (qC.1 X).1];rw[if_neg e]
 have e2:gs.set k g=gs:=by
  apply wQ;intro j;rw[vS];by_cases e:k=j;subst e;rw[if_pos rfl,hg,if_pos (qC.1 hg).1];rw[if_neg e]
 rw[e1,e2]at H';exact H'
set_option maxRecDepth 100000 in
theorem Hist.aDb(H:Hist W R tg c rs cc gs iv)(hg:gs[k]?=some g)(X:rs[k]?=some r)(hl:r.se.length<100000){b0:Nat}{t:ByteArray}(hb:W.heap[b0]?=some (.cells #[.string t] 9 (0,0))):
  ∃b z G f,(Builtin.append_ #[23,23] 23 #[g.se,.slice (some ⟨b0,0,none⟩) 1 1]).run Tryz.prog W=.ok (.slice (some ⟨b,0,none⟩) (r.se.length+1) z) G/\Hist G R f c rs cc gs iv/\
   eU G R f (5*k+9) 9 1 (.slice (some ⟨b,0,none⟩) (r.se.length+1) z) (r.se.length+1) ((r.se++[t]).map Value.string)/\Frm tg (·=5*k+9) W G f:=by
 have y:=H.it k g r hg X;have RW:=H.RW;obtain⟨v',G,f,hap,hv,ho,A,h2⟩:=eU.app (P:=Tryz.prog) (T:=23) (ty:=23) Tryz.underlying23 info9 rfl rfl rfl rfl (by decide) H.new y.se ⟨b0,0,none⟩ 1 1 [.string t] rfl (one_cell hb) (λu hu=>by simp at hu;subst hu;rfl) Z (by decide) RW;obtain⟨b,z,rfl⟩:=h2 (by decide);have hI':jF G R f k g r:=by
  have L:=(qJ.1 y.cel).1;exact⟨(A.lo L (by rw[y.tb];omega)).trans y.cel,y.bR,(A.tag _ L).trans y.tb,y.st.fr A Z,y.si.fr A Z,y.la.fr A Z,ho⟩
 have H':=H.item hg X (A.sub λt h=>by rw[h];exact⟨Z,Z⟩) hI' rfl rfl;refine⟨b,z,G,f,hap,?_,by rw[zS];exact hv,A⟩;have e1:rs.set k r=rs:=by
  apply wQ;intro j;rw[vS];by_cases e:k=j;subst e;rw[if_pos rfl,X,if_pos (qC.1 X).1];rw[if_neg e]
 have e2:gs.set k g=gs:=by
  apply wQ;intro j;rw[vS];by_cases e:k=j;subst e;rw[if_pos rfl,hg,if_pos (qC.1 hg).1];rw[if_neg e]
 rw[e1,e2]at H';exact H'
set_option maxRecDepth 100000 in
theorem Hist.appT(H:Hist W R tg c rs cc gs iv)(hg:gs[k]?=some g)(X:rs[k]?=some r)(hl:r.st.length<100000){b0:Nat}{t:Int×Int×Int×Int}(hb:W.heap[b0]?=some (.cells (kO t).toArray 61 (0,0))):
  ∃b z G f,(Builtin.append_ #[53,53] 53 #[g.st,.slice (some ⟨b0,0,none⟩) 1 1]).run Tryz.prog W=.ok (.slice (some ⟨b,0,none⟩) (r.st.length+1) z) G/\Hist G R f c rs cc gs iv/\
   eU G R f (5*k+6) 61 4 (.slice (some ⟨b,0,none⟩) (r.st.length+1) z) (r.st.length+1) ((r.st++[t]).flatMap kO)/\Frm tg (·=5*k+6) W G f:=by
 have y:=H.it k g r hg X;have RW:=H.RW;obtain⟨v',G,f,hap,hv,ho,A,h2⟩:=eU.app (P:=Tryz.prog) (T:=53) (ty:=53) Tryz.underlying53 aCH rfl rfl rfl rfl (by decide) H.new y.st ⟨b0,0,none⟩ 1 1 (kO t) rfl (λj u hj=>by
  have e:W.cell? ((⟨b0,0,none⟩:Addr).add j)=((kO t).toArray)[j]?:=by
   rw[show(⟨b0,0,none⟩:Addr).add j=⟨b0,j,none⟩ by(unfold Addr.add;by_cases h:j=0<;>simp[h])];simp[World.cell?,hb]
  rw[e];simpa using hj) (λu hu=>by
  simp only[kO,zK,List.not_mem_nil,or_false]at hu;rcases hu with rfl|rfl|rfl|rfl<;>rfl) Z (by decide) RW
 obtain⟨b,z,rfl⟩:=h2 (by decide);have hI':jF G R f k g r:=by
  have L:=(qJ.1 y.cel).1;exact⟨(A.lo L (by rw[y.tb];omega)).trans y.cel,y.bR,(A.tag _ L).trans y.tb,ho,y.si.fr A Z,y.la.fr A Z,y.se.fr A Z⟩
 have H':=H.item hg X (A.sub λt h=>by rw[h];exact⟨Z,Z⟩) hI' rfl rfl;refine⟨b,z,G,f,hap,?_,by rw[kX,show[t].flatMap kO=kO t by simp];exact hv,A⟩;have e1:rs.set k r=rs:=by
  apply wQ;intro j;rw[vS];by_cases e:k=j;subst e;rw[if_pos rfl,X,if_pos (qC.1 X).1];rw[if_neg e]
 have e2:gs.set k g=gs:=by
  apply wQ;intro j;rw[vS];by_cases e:k=j;subst e;rw[if_pos rfl,hg,if_pos (qC.1 hg).1];rw[if_neg e]
 rw[e1,e2]at H';exact H'
theorem Hist.stE(H:Hist W R tg c rs cc gs iv)(h:gs[k]?=some g)(f:rs[k]?=some r){v:Value}{t:ByteArray}(u:eU W R tg (5*k+9) 9 1 v (r.se.length+1) ((r.se++[t]).map Value.string)):
  Hist (W.setCell ⟨g.b,9,none⟩ v) R tg c (rs.set k {r with se:=r.se++[t]}) cc (gs.set k {g with se:=v}) iv/\Frm tg (itT k) W (W.setCell ⟨g.b,9,none⟩ v) tg:=by
 have y:=H.it k g r h f;obtain⟨z,j⟩:=jF.row (g':={g with se:=v}) (r':={r with se:=r.se++[t]}) (T:=5*k+9) (o:=9) (v:=v) Z y (Frm.refl H.new) rfl rfl (.inr ⟨Z,rfl,rfl⟩) (.inr ⟨Z,rfl,rfl⟩) (.inr ⟨Z,rfl,rfl⟩) (.inl ⟨rfl,by simpa using u⟩);exact⟨H.item h f j z rfl rfl,j⟩
theorem Hist.stT(H:Hist W R tg c rs cc gs iv)(h:gs[k]?=some g)(f:rs[k]?=some r){v:Value}{t:Int×Int×Int×Int}(u:eU W R tg (5*k+6) 61 4 v (r.st.length+1) ((r.st++[t]).flatMap kO)):
  Hist (W.setCell ⟨g.b,5,none⟩ v) R tg c (rs.set k {r with st:=r.st++[t]}) cc (gs.set k {g with st:=v}) iv/\Frm tg (itT k) W (W.setCell ⟨g.b,5,none⟩ v) tg:=by
 have y:=H.it k g r h f;obtain⟨z,j⟩:=jF.row (g':={g with st:=v}) (r':={r with st:=r.st++[t]}) (T:=5*k+6) (o:=5) (v:=v) Z y (Frm.refl H.new) rfl rfl (.inl ⟨rfl,by simpa using u⟩) (.inr ⟨Z,rfl,rfl⟩) (.inr ⟨Z,rfl,rfl⟩) (.inr ⟨Z,rfl,rfl⟩);exact⟨H.item h f j z rfl rfl,j⟩
theorem Hist.stS(H:Hist W R tg c rs cc gs iv)(h:gs[k]?=some g)(f:rs[k]?=some r){v:Value}{t:Int}(u:eU W R tg (5*k+7) 3 1 v (r.si.length+1) ((r.si++[t]).map (Value.int .i64))):
  Hist (W.setCell ⟨g.b,7,none⟩ v) R tg c (rs.set k {r with si:=r.si++[t]}) cc (gs.set k {g with si:=v}) iv/\Frm tg (itT k) W (W.setCell ⟨g.b,7,none⟩ v) tg:=by
 have y:=H.it k g r h f;obtain⟨z,j⟩:=jF.row (g':={g with si:=v}) (r':={r with si:=r.si++[t]}) (T:=5*k+7) (o:=7) (v:=v) Z y (Frm.refl H.new) rfl rfl (.inr ⟨Z,rfl,rfl⟩) (.inl ⟨rfl,by simpa using u⟩) (.inr ⟨Z,rfl,rfl⟩) (.inr ⟨Z,rfl,rfl⟩);exact⟨H.item h f j z rfl rfl,j⟩
theorem Hist.twoS(H:Hist W R tg c rs cc gs iv)(hg:gs[k]?=some g)(hr:rs[k]?=some r)(z:gs[k2]?=some g2)(y:rs[k2]?=some r2)(f:k≠k2){v u:Value}{t A:Int}(L:eU W R tg (5*k+7) 3 1 v (r.si.length+1) ((r.si++[t]).map (Value.int .i64)))
  (X:eU W R tg (5*k2+7) 3 1 u (r2.si.length+1) ((r2.si++[A]).map (Value.int .i64))):
  Hist ((W.setCell ⟨g.b,7,none⟩ v).setCell ⟨g2.b,7,none⟩ u) R tg c ((rs.set k {r with si:=r.si++[t]}).set k2 {r2 with si:=r2.si++[A]}) cc ((gs.set k {g with si:=v}).set k2 {g2 with si:=u}) iv/\
   Frm tg (λt=>itT k t\/itT k2 t) W ((W.setCell ⟨g.b,7,none⟩ v).setCell ⟨g2.b,7,none⟩ u) tg:=by
 obtain⟨h1,G⟩:=H.stS hg hr L;have j:=X.fr G (by unfold itT;omega);obtain⟨h2,f2⟩:=h1.stS (k:=k2) (g:=g2) (r:=r2) (by rw[zW f];exact z) (by rw[zW f];exact y) j;exact⟨h2,(G.sub λt h=>.inl h).trans (f2.sub λt h=>.inr h)⟩
theorem Hist.stL(H:Hist W R tg c rs cc gs iv)(h:gs[k]?=some g)(f:rs[k]?=some r){v:Value}{t:ByteArray}(u:eU W R tg (5*k+8) 9 1 v (r.la.length+1) ((r.la++[t]).map Value.string)):
  Hist (W.setCell ⟨g.b,8,none⟩ v) R tg c (rs.set k {r with la:=r.la++[t]}) cc (gs.set k {g with la:=v}) iv/\Frm tg (itT k) W (W.setCell ⟨g.b,8,none⟩ v) tg:=by
 have y:=H.it k g r h f;obtain⟨z,j⟩:=jF.row (g':={g with la:=v}) (r':={r with la:=r.la++[t]}) (T:=5*k+8) (o:=8) (v:=v) Z y (Frm.refl H.new) rfl rfl (.inr ⟨Z,rfl,rfl⟩) (.inr ⟨Z,rfl,rfl⟩) (.inl ⟨rfl,by simpa using u⟩) (.inr ⟨Z,rfl,rfl⟩);exact⟨H.item h f j z rfl rfl,j⟩
theorem Hist.twoL(H:Hist W R tg c rs cc gs iv)(hg:gs[k]?=some g)(hr:rs[k]?=some r)(z:gs[k2]?=some g2)(y:rs[k2]?=some r2)(f:k≠k2){v u:Value}{t A:ByteArray}(L:eU W R tg (5*k+8) 9 1 v (r.la.length+1) ((r.la++[t]).map Value.string))
  (X:eU W R tg (5*k2+8) 9 1 u (r2.la.length+1) ((r2.la++[A]).map Value.string)):
  Hist ((W.setCell ⟨g.b,8,none⟩ v).setCell ⟨g2.b,8,none⟩ u) R tg c ((rs.set k {r with la:=r.la++[t]}).set k2 {r2 with la:=r2.la++[A]}) cc ((gs.set k {g with la:=v}).set k2 {g2 with la:=u}) iv/\
   Frm tg (λt=>itT k t\/itT k2 t) W ((W.setCell ⟨g.b,8,none⟩ v).setCell ⟨g2.b,8,none⟩ u) tg:=by
 obtain⟨h1,G⟩:=H.stL hg hr L;have j:=X.fr G (by unfold itT;omega);obtain⟨h2,f2⟩:=h1.stL (k:=k2) (g:=g2) (r:=r2) (by rw[zW f];exact z) (by rw[zW f];exact y) j;exact⟨h2,(G.sub λt h=>.inl h).trans (f2.sub λt h=>.inr h)⟩
theorem Zm{α:Type}{l:List α}{x y f j:α}(h:k≠k2):(((l.set k x).set k2 y).set k f).set k2 j=(l.set k f).set k2 j:=by
 rw[List.set_comm y f (Ne.symm h),List.set_set,List.set_set]
variable {tg1:Tag}{V:World}{its:List Itm}{i i2:Itm}{N:Nat}{o:Obj}
theorem BZ{x y:Itm}:(((its.map Itm.raw).set k x.raw).set k2 y.raw)=((its.set k x).set k2 y).map Itm.raw:=by rw[List.map_set,List.map_set]
theorem KH{α:Type}{f:List α}{g A g' g2':α}(u:f[k]?=some g)(j:f[k2]?=some A)(h:k≠k2):((f.set k g').set k2 g2')[k]?=some g'/\((f.set k g').set k2 g2')[k2]?=some g2':=by
 have z:=(qC.1 u).1;have y:=(qC.1 j).1;exact⟨by rw[zW (Ne.symm h),zV z],by rw[zV (by rw[zX];exact y)]⟩
theorem swS{t A:Int}{v u:Value}(F:Frm tg (λt=>itT k t\/itT k2 t) W V tg1)(H:Hist V R tg1 c (its.map Itm.raw) cc gs iv)(G:gs[k]?=some g)(hi:its[k]?=some i)(y:gs[k2]?=some g2)(z:its[k2]?=some i2)(j:k≠k2)
  (L:eU V R tg1 (5*k+7) 3 1 v (i.raw.si.length+1) ((i.raw.si++[t]).map (Value.int .i64))) (X:eU V R tg1 (5*k2+7) 3 1 u (i2.raw.si.length+1) ((i2.raw.si++[A]).map (Value.int .i64)))
  (hN:V.heap[N]?=some o) (h1:N≠g.b) (h2:N≠g2.b):
  ∃h f g' g2',Frm tg (λt=>itT k t\/itT k2 t) W ((V.setCell ⟨g.b,7,none⟩ v).setCell ⟨g2.b,7,none⟩ u) h/\Hist ((V.setCell ⟨g.b,7,none⟩ v).setCell ⟨g2.b,7,none⟩ u) R h c (((its.set k {i with sL:=i.sL++[i.sn],sn:=t}).set k2 {i2 with sL:=i2.sL++[i2.sn],sn:=A}).map Itm.raw) cc f iv/\
   f[k]?=some g'/\g'.b=g.b/\f[k2]?=some g2'/\g2'.b=g2.b/\((V.setCell ⟨g.b,7,none⟩ v).setCell ⟨g2.b,7,none⟩ u).heap[N]?=some o:=by
 obtain⟨a,b⟩:=H.twoS G (aQ hi) y (aQ z) j L X;obtain⟨e1,e2⟩:=KH (g':={g with si:=v}) (g2':={g2 with si:=u}) G y j;rw[<- BZ];exact⟨_,_,_,_,F.trans b,a,e1,rfl,e2,rfl,(Below.heap_setCell _ _ _ _ h2).trans ((Below.heap_setCell _ _ _ _ h1).trans hN)⟩
theorem swL{t A:ByteArray}{v u:Value}(F:Frm tg (λt=>itT k t\/itT k2 t) W V tg1)(H:Hist V R tg1 c (its.map Itm.raw) cc gs iv)(G:gs[k]?=some g)(hi:its[k]?=some i)(y:gs[k2]?=some g2)(z:its[k2]?=some i2)(j:k≠k2)
  (L:eU V R tg1 (5*k+8) 9 1 v (i.raw.la.length+1) ((i.raw.la++[t]).map Value.string)) (X:eU V R tg1 (5*k2+8) 9 1 u (i2.raw.la.length+1) ((i2.raw.la++[A]).map Value.string))
  (hN:V.heap[N]?=some o) (h1:N≠g.b) (h2:N≠g2.b):
  ∃h f g' g2',Frm tg (λt=>itT k t\/itT k2 t) W ((V.setCell ⟨g.b,8,none⟩ v).setCell ⟨g2.b,8,none⟩ u) h/\Hist ((V.setCell ⟨g.b,8,none⟩ v).setCell ⟨g2.b,8,none⟩ u) R h c (((its.set k {i with bL:=i.bL++[i.lb],lb:=t}).set k2 {i2 with bL:=i2.bL++[i2.lb],lb:=A}).map Itm.raw) cc f iv/\
   f[k]?=some g'/\g'.b=g.b/\f[k2]?=some g2'/\g2'.b=g2.b/\((V.setCell ⟨g.b,8,none⟩ v).setCell ⟨g2.b,8,none⟩ u).heap[N]?=some o:=by
 obtain⟨a,b⟩:=H.twoL G (aQ hi) y (aQ z) j L X;obtain⟨e1,e2⟩:=KH (g':={g with la:=v}) (g2':={g2 with la:=u}) G y j;rw[<- BZ];exact⟨_,_,_,_,F.trans b,a,e1,rfl,e2,rfl,(Below.heap_setCell _ _ _ _ h2).trans ((Below.heap_setCell _ _ _ _ h1).trans hN)⟩
theorem Xp(l:List (Int×Int×Int×Int)):(l.flatMap kO).length=l.length*4:=by
 induction l with
 |nil=>rfl|cons x l f=>rw[kT,qG,f,wR];show 4+_=_;omega
theorem Xn(l:List (Int×Int×Int×Int))(a b u v x y:Int):((((l++[(a,b,u,v)]).flatMap kO).set (l.length*4+2) (.int .i64 x)).set (l.length*4+3) (.int .i64 y))=(l++[(a,b,x,y)]).flatMap kO:=by
 have e:=Xp l;rw[kX,kX,qBu _ _ Z,qBu _ _ Z,e];rw[show l.length*4+2-l.length*4=2 by omega,show l.length*4+3-l.length*4=3 by omega];rfl
theorem Hist.left{V:World}{o a u v x y:Int}{l:List (Int×Int×Int×Int)}{b n L:Nat}(H:Hist W R tg c rs cc gs iv)(hg:gs[k]?=some g)(hr:rs[k]?=some r)(hl:r.st=l++[(o,a,u,v)])(hs:g.st=.slice (some ⟨b,0,none⟩) n L)
  (hV:(W.setCell ⟨b,l.length*4+2,none⟩ (.int .i64 x)).setCell ⟨b,l.length*4+3,none⟩ (.int .i64 y)=V):
  Hist V R tg c (rs.set k {r with st:=l++[(o,a,x,y)]}) cc (gs.set k g) iv/\Frm tg (itT k) W V tg:=by
 have j:=H.it k g r hg hr;have G:=j.st;rw[hs,hl]at G;have e:n=(l++[(o,a,u,v)]).length:=by
  rcases G.own.2 with⟨e,_⟩|⟨_,_,_,e,_⟩;cases e;injection e
 subst e;obtain⟨r1,f1⟩:=G.set H.new (l.length*4+2) (.int .i64 x);obtain⟨X,f2⟩:=r1.set f1.new (l.length*4+3) (.int .i64 y);rw[Xn,hV]at X;rw[hV]at f2;have f:=f1.trans f2;have z:=j.lt;have A:jF V R tg k g {r with st:=l++[(o,a,x,y)]}:=
  ⟨(f.lo z (by rw[j.tb];omega)).trans j.cel,j.bR,j.tb,by rw[hs];simpa using X,j.si.fr f Z,j.la.fr f Z,j.se.fr f Z⟩
 have f':Frm tg (itT k) W V tg:=f.sub λt h=>by rw[h];exact⟨Z,Z⟩
 exact⟨H.item hg hr f' A rfl rfl,f'⟩
theorem OkI.within{d:Dat}{m:Nat}{l2:List Itm}(f:OkI d m its i)(h:∀u,(∃j∈its,j.post.1=u)->∃j∈l2,j.post.1=u):OkI d m l2 i:={f with qy:=h _ f.qy}
end Go.Eng.Top
