/- ToG -/
import Derived.Test.YtecnnbcfgijddaaGreatDoorETBrkI
import Derived.StillTailTactics
set_option linter.unusedSimpArgs false
set_option linter.unusedVariables false
namespace Go.Eng.Top
open Go.Proofs Go.RowKit
variable {tg tg':Tag} {Op:Nat->Prop} {w0 W W':World} {R k m:Nat} {g g':Gh} {r r':Raw} {c:HC} {d:Dat} {its:List Itm} {i:Itm} {cc:Li} {gs:List Gh} {iv:Value}
theorem aQ(h:its[k]?=some i):(its.map Itm.raw)[k]?=some i.raw:=by rw[qQ,h];rfl
theorem mf(i:Itm):(its.map Itm.raw).set k i.raw=(its.set k i).map Itm.raw:=by rw[List.map_set]
theorem aC7(E:Env w0 R c d)(H:Hist W R tg c (its.map Itm.raw) cc gs iv)(hB:Below R w0 W)(hg:gs[k]?=some g)(hi:its[k]?=some i)(f:OkI d m its i)(hm:m<=900)(L:∀j∈its,j.post.1.size<=1000/\0<=j.post.2.2.1/\j.post.2.2.1<d.N):
  Calls Tryz.prog 109 #[.pointer (some ⟨c.hb,0,none⟩),.pointer (some ⟨g.b,0,none⟩)] W λe y=>e=.returned (.tuple #[])/\
   Frm tg (itT k) W y tg/\Hist y R tg c ((its.set k (jj d cc (iy its i.lb) i)).map Itm.raw) cc gs iv:=by
 obtain⟨j,q,h,z,X⟩:=Bv f.qy;have hq:=L q (qZ h);obtain⟨gj,u,_⟩:=H.get (aQ h);obtain⟨O,G⟩:∃O:Nat,i.off=O:=⟨i.off.toNat,by have:=f.off;omega⟩;obtain⟨T,A⟩:∃T:Nat,q.post.2.2.1=T:=⟨q.post.2.2.1.toNat,Z⟩;have h1:=f.off;have h2:=f.arr;have h3:=f.sn;have h4:=f.hd;have h5:=f.dl;have h6:=f.sl;have h7:=f.bl;have:=XU E H hB hg (aQ hi) (ss:=i.done) (O:=O) (T:=T) (arr:=i.arr) (d1:=-1) (l1:=-1) (by rw[<- G];rfl) Z (ls:=i.bL) (lb:=i.lb) rfl Z (sl:=i.sL) (sn:=i.sn) rfl Z
  u (aQ h) z (by rw[<- z];exact hq.1) Z A Z Z Z (by have:i.raw.hd=i.holds:=rfl;omega)
 rw[X,A,<- mf,aAE,G];exact this
def aU(e:bZ):Array Value:=#[.int .i64 e.1,.int .i64 e.2.1,.string e.2.2.1.1,.int .i64 e.2.2.1.2.1,.int .i64 e.2.2.1.2.2.1,.int .i64 e.2.2.1.2.2.2.1,.int .i64 e.2.2.1.2.2.2.2,.string e.2.2.2.1,.string e.2.2.2.2.1,.int .i64 e.2.2.2.2.2]
theorem Xu{α:Type}{p:α->Bool}{f:α->α}(h:∀x,p (f x)=p x):∀l:List α,(l.map f).find? p=(l.find? p).map f
 |[]=>rfl|x::l=>by
  rw[wV,xW,xW,h x];split;rfl;exact Xu h l
theorem tG{x:Itm}(u:its[k]?=some i)(f:x.post=i.post)(lb:ByteArray):iy (its.set k x) lb=iy its lb:=by
 have:∀(l:List Itm) (k:Nat) (i x:Itm),l[k]?=some i->x.post=i.post->((l.set k x).find? λi=>decide (i.post.1=lb)).map (λi=>i.post.2.2.1)=(l.find? λi=>decide (i.post.1=lb)).map λi=>i.post.2.2.1:=by
  intro l;induction l with
  |nil=>intro k i x h;simp at h
  |cons a l j=>
   intro k i x h f;cases k with
   |zero=>
    simp only[xK,vT]at h;subst h;rw[List.set_cons_zero,xW,xW,f];split;simp[f];rfl
   |succ k=>
    rw[List.set_cons_succ,xW,xW];split;rfl;exact j k i x (by simpa using h) f
 unfold iy;rw[this its k i x u f]
theorem mem_set{x j:Itm}(h:j∈its.set k x):j∈its\/j=x:=List.mem_or_eq_of_mem_set h
theorem nN{x:Itm}(A:its[k]?=some i)(y:x.post=i.post){lb:ByteArray}(h:∃j∈its,j.post.1=lb):∃j∈its.set k x,j.post.1=lb:=by
 obtain⟨j,z,u⟩:=h;obtain⟨q,f⟩:=List.getElem?_of_mem z;by_cases e:k=q;subst e;cases A.symm.trans f;exact⟨x,qZ (i:=k) (by rw[vS,if_pos rfl,if_pos (qC.1 f).1]),by rw[y];exact u⟩;exact⟨j,qZ (i:=q) (by rw[vS,if_neg e];exact f),u⟩
theorem Zh{x:Itm}(z:its[k]?=some i)(u:x.post=i.post)(f:∀j∈its,j.post.1.size<=1000/\0<=j.post.2.2.1/\j.post.2.2.1<d.N):∀j∈its.set k x,j.post.1.size<=1000/\0<=j.post.2.2.1/\j.post.2.2.1<d.N:=λj y=>by
 rcases mem_set y with h|rfl;exact f j h;rw[u];exact f i (qZ z)
theorem Nr{x:Itm}(E:Env w0 R c d)(H:Hist W R tg c ((its.set k x).map Itm.raw) cc gs iv)(L:Below R w0 W)(G:gs[k]?=some g)(f:its[k]?=some i)(h:x.post=i.post)(z:OkI d m its x)(hm:m<=900)(A:∀j∈its,j.post.1.size<=1000/\0<=j.post.2.2.1/\j.post.2.2.1<d.N):
  Calls Tryz.prog 109 #[.pointer (some ⟨c.hb,0,none⟩),.pointer (some ⟨g.b,0,none⟩)] W λe y=>e=.returned (.tuple #[])/\
   Frm tg (itT k) W y tg/\Hist y R tg c ((its.set k (jj d cc (iy its x.lb) x)).map Itm.raw) cc gs iv:=by
 have u:(its.set k x)[k]?=some x:=by rw[vS,if_pos rfl,if_pos (qC.1 f).1]
 have hd:=aC7 E H L G u {z with qy:=nN f h z.qy} hm (Zh f h A);rw[tG f h,List.set_set]at hd;exact hd
set_option maxRecDepth 100000 in
set_option maxHeartbeats 4000000 in
theorem aC3(E:Env w0 R c d)(H:Hist W R tg c (its.map Itm.raw) cc gs iv)(hB:Below R w0 W)(hg:gs[k]?=some g)(X:its[k]?=some i)(ok:OkI d m its i)(hm:m<=900)(hz:∀j∈its,j.post.1.size<=1000/\0<=j.post.2.2.1/\j.post.2.2.1<d.N)(e:bZ)(he:e.2.2.2.1=i.post.1):
  Calls Tryz.prog 103 #[.pointer (some ⟨c.hb,0,none⟩),.agg (aU e)] W λe' w'=>e'=.returned (.tuple #[])/\
   Frm tg (itT k) W w' tg/\Hist w' R tg c ((its.set k (jj d cc (iy its i.lb) {i with lost:=true})).map Itm.raw) cc gs iv:=by
 obtain⟨k1,t1,⟨pl,pf,pt,pc,pa⟩,lb,ot,ln⟩:=e;have he:lb=i.post.1:=he;subst he;obtain⟨f,y⟩:∃f,W.alloc (.cells (aU (k1,t1,(pl,pf,pt,pc,pa),i.post.1,ot,ln)) 59)=f:=⟨_,rfl⟩;have b1:f.heap[W.heap.size]?=some (.cells (aU (k1,t1,(pl,pf,pt,pc,pa),i.post.1,ot,ln)) 59 (0,0)):=by rw[<- y];exact World.alloc_heap_new W _
 have H1:Hist f R tg c (its.map Itm.raw) cc gs iv:=y▸H.alloc _;have F1:Frm tg (itT k) W f tg:=y▸Frm.alloc H.new _;have l1:f.cell? ⟨W.heap.size,7,none⟩=some (.string i.post.1):=by simp[World.cell?,b1,aU]
 have h8:f.cell? ⟨c.hb,8,none⟩=some (.map (some c.nb)):=H1.cell (j:=8) rfl;have hlk:∀m,(Instr.lookup 97 (.map (some c.nb)) (.string i.post.1) false).run Tryz.prog (f.drewN m)=.ok (.pointer (some ⟨g.b,0,none⟩)) (f.drewN m):=λm=>(H1.drewN m).look hg (aQ X) (by unfold maxLen;have:=ok.lz;show i.post.1.size<=_;omega);unfold aU;unfold aU at y
 go_enter Tryz.func103,Tryz.ntmps103
 go_wp2
 go_quiet (fail)
 generalize A:f.drewN nq=W2;have H2:Hist W2 R tg c (its.map Itm.raw) cc gs iv:=A▸H1.drewN nq;have F2:Frm tg (itT k) W W2 tg:=A▸F1.drewN nq;clear l1 h8 hlk b1;have z:=H2.it k g _ hg (aQ X);have y6:W2.cell? ⟨g.b,6,none⟩=some (.bool i.lost):=z.cell (j:=6) rfl;have z6:=z.free 6;obtain⟨G,F3⟩:=z.scal (r':=({i with lost:=true}:Itm).raw) H2.new (o:=6) (u:=.bool true) rfl rfl rfl rfl rfl;have H3:=H2.itemS hg (aQ X) F3 G rfl;obtain⟨W3,hW3⟩:∃W3,W2.setCell ⟨g.b,6,none⟩ (.bool true)=W3:=⟨_,rfl⟩;rw[hW3]at G H3 F3;rw[mf]at H3;have L:=F2.trans F3;have hd:=Nr E H3 (cT H.low H.RW hB L (λh=>by have:=h.1;omega)) hg X rfl {ok with} hm hz
 go_wp2_with (first
  |(go_at_call 109;refine hd.mono ?_;rintro e w' ⟨rfl,F4,H4⟩))
 go_end0
 exact⟨rfl,L.trans F4,H4⟩
end Go.Eng.Top
namespace Go.Eng.Top
open Go.Proofs Go.RowKit
variable {tg tg':Tag} {Op:Nat->Prop} {w0 W W':World} {R k m:Nat} {g g':Gh} {r r':Raw} {c:HC} {d:Dat} {its:List Itm} {i:Itm} {cc:Li} {gs:List Gh} {iv:Value}
theorem at_set{x:Itm}(f:its[k]?=some i):((its.set k x).map Itm.raw)[k]?=some x.raw:=aQ (by rw[vS,if_pos rfl,if_pos (qC.1 f).1])
set_option maxRecDepth 100000 in
set_option maxHeartbeats 4000000 in
theorem aC5(E:Env w0 R c d)(H:Hist W R tg c (its.map Itm.raw) cc gs iv)(hB:Below R w0 W)(hg:gs[k]?=some g)(hi:its[k]?=some i)(ok:OkI d m its i)(okl:OkL d i)(hm:m<=900)(e:bZ)(he:e.2.2.2.1=i.post.1):
  Calls Tryz.prog 104 #[.pointer (some ⟨c.hb,0,none⟩),.agg (aU e)] W λe' f=>e'=.returned (.tuple #[])/\
   Frm tg (itT k) W f tg/\Hist f R tg c ((its.set k (rz d i)).map Itm.raw) cc gs iv:=by
 obtain⟨k1,t1,⟨pl,pf,pt,pc,pa⟩,lb,ot,ln⟩:=e;have he:lb=i.post.1:=he;subst he;obtain⟨L,X⟩:∃L,W.alloc (.cells (aU (k1,t1,(pl,pf,pt,pc,pa),i.post.1,ot,ln)) 59)=L:=⟨_,rfl⟩;have b1:L.heap[W.heap.size]?=some (.cells (aU (k1,t1,(pl,pf,pt,pc,pa),i.post.1,ot,ln)) 59 (0,0)):=by rw[<- X];exact World.alloc_heap_new W _
 have H1:Hist L R tg c (its.map Itm.raw) cc gs iv:=X▸H.alloc _;have F1:Frm tg (itT k) W L tg:=X▸Frm.alloc H.new _;have l1:L.cell? ⟨W.heap.size,7,none⟩=some (.string i.post.1):=by simp[World.cell?,b1,aU]
 have h8:L.cell? ⟨c.hb,8,none⟩=some (.map (some c.nb)):=H1.cell (j:=8) rfl;have hlk:∀m,(Instr.lookup 97 (.map (some c.nb)) (.string i.post.1) false).run Tryz.prog (L.drewN m)=.ok (.pointer (some ⟨g.b,0,none⟩)) (L.drewN m):=λm=>(H1.drewN m).look hg (aQ hi) (by unfold maxLen;have:=ok.lz;show i.post.1.size<=_;omega)
 unfold aU;unfold aU at X
 go_enter Tryz.func104,Tryz.ntmps104
 go_wp2
 go_quiet (fail)
 generalize hW2:L.drewN nq=W2;have H2:Hist W2 R tg c (its.map Itm.raw) cc gs iv:=hW2▸H1.drewN nq;have F2:Frm tg (itT k) W W2 tg:=hW2▸F1.drewN nq;clear l1 h8 hlk b1;have hI2:=H2.it k g _ hg (aQ hi);have y10:W2.cell? ⟨g.b,10,none⟩=some (.int .i64 i.holds):=hI2.cell (j:=10) rfl;have z10:=hI2.free 10
 obtain⟨hI3,F3⟩:=hI2.scal (r':=({i with holds:=i.holds+1}:Itm).raw) H2.new (o:=10) (u:=.int .i64 (i.holds+1)) rfl rfl rfl rfl rfl;have A:=H2.itemS hg (aQ hi) F3 hI3 rfl;obtain⟨G,hW3⟩:∃G,W2.setCell ⟨g.b,10,none⟩ (.int .i64 (i.holds+1))=G:=⟨_,rfl⟩;rw[hW3]at hI3 A F3;rw[mf]at A;have F3':=F2.trans F3;have y11:G.cell? ⟨g.b,11,none⟩=some (.int .i64 i.line):=hI3.cell (j:=11) rfl;have hd0:=ok.hd
 have hv0:=okl.lv;by_cases hl:i.line<0
 .have eh:rz d i={i with holds:=i.holds+1}:=by unfold rz;rw[if_pos hl]
  go_wp2
  refine bodyPost_ret (results_none rfl _ _ _) rfl ⟨rfl,F3',?_⟩;rw[eh];exact A
 have hl':decide (i.line<0)=false:=by simpa using hl
 have c0:G.cell? ⟨c.hb,0,none⟩=some c.n0:=A.cell (j:=0) rfl;have c1:G.cell? ⟨c.hb,1,none⟩=some c.n1:=A.cell (j:=1) rfl;have c2:G.cell? ⟨c.hb,2,none⟩=some c.n2:=A.cell (j:=2) rfl;have c3:G.cell? ⟨c.hb,3,none⟩=some c.n3:=A.cell (j:=3) rfl;have c4:G.cell? ⟨c.hb,4,none⟩=some c.n4:=A.cell (j:=4) rfl;have c5:G.cell? ⟨c.hb,5,none⟩=some c.n5:=A.cell (j:=5) rfl
 have y12:G.cell? ⟨g.b,12,none⟩=some (.int .i64 i.leave):=hI3.cell (j:=12) rfl;have hd:=E.dep G.drew i.line (i.leave+1) (cT H.low H.RW hB (F3'.drewN 1) (λh=>by have:=h.1;omega)) (okl.ln.resolve_left hl) Z Z
 have hd':=hd.mono (R':=λe f=>e=.returned (.tuple #[.int .i64 (d.dD i.line (i.leave+1)),.int .i64 (d.dE i.line (i.leave+1))])/\Hist f R tg c ((its.set k {i with holds:=i.holds+1}).map Itm.raw) cc gs iv/\Frm tg (itT k) W f tg/\
   f.cell? ⟨c.hb,0,none⟩=some c.n0/\f.cell? ⟨c.hb,1,none⟩=some c.n1/\f.cell? ⟨c.hb,2,none⟩=some c.n2/\f.cell? ⟨c.hb,3,none⟩=some c.n3/\f.cell? ⟨c.hb,4,none⟩=some c.n4/\f.cell? ⟨c.hb,5,none⟩=some c.n5/\
   f.cell? ⟨g.b,11,none⟩=some (.int .i64 i.line)/\f.cell? ⟨g.b,12,none⟩=some (.int .i64 i.leave)) (by
  rintro e f ⟨rfl,hb⟩;have z:=(A.drewN 1).fr (Frm.below (O:=λ_=>False) (A.drewN 1).new hb) λ_ _ h=>h
  have y:=z.it k g _ hg (at_set hi);exact⟨rfl,z,(F3'.drewN 1).trans (Frm.below (A.drewN 1).new hb),z.cell (j:=0) rfl,z.cell (j:=1) rfl,z.cell (j:=2) rfl,z.cell (j:=3) rfl,z.cell (j:=4) rfl,z.cell (j:=5) rfl,y.cell (j:=11) rfl,y.cell (j:=12) rfl⟩)
 clear hd;have hw:IntKind.i64.wrap (i.leave+1)=i.leave+1:=IntWalk.i64_in _ Z
 go_wp2
 go_region_held3 (λf=>f.cell? ⟨c.hb,0,none⟩=some c.n0/\f.cell? ⟨c.hb,1,none⟩=some c.n1/\f.cell? ⟨c.hb,2,none⟩=some c.n2/\f.cell? ⟨c.hb,3,none⟩=some c.n3/\f.cell? ⟨c.hb,4,none⟩=some c.n4/\f.cell? ⟨c.hb,5,none⟩=some c.n5/\
  f.cell? ⟨g.b,11,none⟩=some (.int .i64 i.line)/\f.cell? ⟨g.b,12,none⟩=some (.int .i64 i.leave)) (go_keep)
  (first | (go_at_call 160;refine hd'.mono ?_;rintro e f ⟨rfl,z,F5,x0,x1,x2,x3,x4,x5,x6,x7⟩))
 have y:=z.it k g _ hg (at_set hi);have z11:=y.free 11;have z12:=y.free 12;clear x0 x1 x2 x3 x4 x5;by_cases hE:d.dE i.line (i.leave+1)=0
 .rw[hE]
  go_wp2
  obtain⟨hI6,F6⟩:=y.scal (r':=({i with holds:=i.holds+1,leave:=d.dD i.line (i.leave+1)}:Itm).raw) z.new (o:=12) (u:=.int .i64 (d.dD i.line (i.leave+1))) rfl rfl rfl rfl rfl;have H6:=z.itemS hg (at_set hi) F6 hI6 rfl;rw[mf,List.set_set]at H6
  go_end0
  refine⟨rfl,F5.trans F6,?_⟩;rw[show rz d i={i with holds:=i.holds+1,leave:=d.dD i.line (i.leave+1)} by unfold rz;rw[if_neg Z,if_pos hE]];exact H6
 .have hne:(d.dE i.line (i.leave+1) != 0)=true:=by simpa using hE
  go_wp2
  obtain⟨hI6,F6⟩:=y.scal (r':=({i with holds:=i.holds+1,line:=-1}:Itm).raw) z.new (o:=11) (u:=.int .i64 (-1)) rfl rfl rfl rfl rfl;have H6:=z.itemS hg (at_set hi) F6 hI6 rfl;rw[mf,List.set_set]at H6;refine bodyPost_ret (results_none rfl _ _ _) rfl ⟨rfl,F5.trans F6,?_⟩;rw[show rz d i={i with holds:=i.holds+1,line:=-1} by unfold rz;rw[if_neg Z,if_neg hE]];exact H6
end Go.Eng.Top
namespace Go.Eng.Top
open Go.Proofs Go.RowKit
variable {tg tg':Tag} {Op:Nat->Prop} {w0 W W':World} {R k m:Nat} {g g':Gh} {r r':Raw} {c:HC} {d:Dat} {its:List Itm} {i:Itm} {rs:List Raw} {cc:Li} {gs:List Gh} {iv:Value}
theorem Hist.canc(h:Hist W R tg c rs cc gs iv){l:Int}(hl:(Lit.int .i64 l).wf=true)(hn:cc.length<100000):
  ∃u,(Instr.mapUpdate 98 (.map (some c.cb)) (.int .i64 l) (.bool true)).run Tryz.prog W=.ok () u/\Hist u R tg c rs (cc++[l]) gs iv/\Frm tg (·=3) W u tg:=by
 obtain⟨D,h1,G,h3⟩:=h.ca;obtain⟨l1,l2,l3⟩:=h.lt;have RW:=h.RW;obtain⟨u,y,X,j⟩:=h1.update (Maps.int_keyed Tryz.underlying3) Tryz.underlying98 (e:=4) (by unfold maxLen;omega) (key:=.int .i64 l) (val:=.bool true) (Maps.keyOf_int_mk Tryz.underlying3 hl) (plainElem_bool Tryz.underlying4 _);have f:Frm tg (·=3) W u tg:=⟨⟨j.os,j.tape,j.output,j.size,λb A z=>j.block b A λe=>z (by cases e;exact h.tc)⟩,λ_ _=>rfl,λb A=>h.new b (vP j.size A)⟩;refine⟨u,y,⟨f.new,h.low,vP RW f.chg.size,(f.lo l1 (by rw[h.th];omega)).trans h.hc,h.th,h.tn,h.tc,h.rows.fr f Z,h.len,λk g r j y=>(h.it k g r j y).fr f λt L=>by have:=L.1;omega,?_,?_⟩,f⟩;obtain⟨D',g1,g2⟩:=h.nm;exact⟨D',dw g1 (f.lo l2 (by rw[h.tn];omega)),g2⟩;refine⟨_,by rw[qG];exact X,G.put _ _,λx=>?_⟩;by_cases e:x=l;subst e;rw[Maps.atKey_put_same G (by simp[WideAt.IsKeyLit])];simp;rw[Maps.atKey_put_other (by simpa using e),h3 x];simp[e]
def M9(l:Int)(i:Itm):Itm:=if i.line=l then {i with line:=-1} else i
def je(l:Int)(q:Nat)(its:List Itm):List Itm:=(its.take q).map (M9 l)++its.drop q
theorem XE{l:Int}{q:Nat}(h:its[q]?=some i):(je l q its)[q]?=some i:=by
 have f:=(qC.1 h).1;unfold je;rw[qV (by simp;omega),vX,qO,vF];rw[show q+(q-min q its.length)=q by omega];exact h
theorem nB{l:Int}{q:Nat}(h:its[q]?=some i):(je l q its).set q (M9 l i)=je l (q+1) its:=by
 have f:=(qC.1 h).1;have e:(List.map (M9 l) (List.take q its)).length=q:=by simp;omega
 unfold je;rw[List.set_append,if_neg Z,e,qAg,wY,h,zS,zJ];have j:its.drop q=i::its.drop (q+1):=by rw[List.drop_eq_getElem_cons f];rw[qB f]at h;rw[wE h]
 rw[j];rfl
theorem TC(l:Int):je l its.length its=its.map (M9 l):=by unfold je;rw[kY,List.drop_length,wH]
def Bh(t:Nat):Prop:=0<t
set_option maxRecDepth 100000 in
set_option maxHeartbeats 4000000 in
theorem XV(H:Hist W R tg c (its.map Itm.raw) cc gs iv)(hn:its.length<10000)(e:bZ)(hw:(Lit.int .i64 e.2.2.2.2.2).wf=true)(hc:cc.length<10000):
  Calls Tryz.prog 106 #[.pointer (some ⟨c.hb,0,none⟩),.agg (aU e)] W λe' w'=>e'=.returned (.tuple #[])/\
   Frm tg Bh W w' tg/\Hist w' R tg c ((its.map (M9 e.2.2.2.2.2)).map Itm.raw) (cc++[e.2.2.2.2.2]) gs iv:=by
 obtain⟨k1,t1,⟨pl,pf,pt,pc,pa⟩,lb,ot,f⟩:=e;obtain⟨A,y⟩:∃A,W.alloc (.cells (aU (k1,t1,(pl,pf,pt,pc,pa),lb,ot,f)) 59)=A:=⟨_,rfl⟩;have b1:A.heap[W.heap.size]?=some (.cells (aU (k1,t1,(pl,pf,pt,pc,pa),lb,ot,f)) 59 (0,0)):=by rw[<- y];exact World.alloc_heap_new W _
 have H1:Hist A R tg c (its.map Itm.raw) cc gs iv:=y▸H.alloc _;have F1:Frm tg Bh W A tg:=y▸Frm.alloc H.new _;have tB:tg W.heap.size=0:=H.new _ (qL _);have l1:A.cell? ⟨W.heap.size,9,none⟩=some (.int .i64 f):=by simp[World.cell?,b1,aU]
 have h9:A.cell? ⟨c.hb,9,none⟩=some (.map (some c.cb)):=H1.cell (j:=9) rfl;obtain⟨W2,hup,H2,F2⟩:=(H1.drewN 1).canc hw Z;change (Instr.mapUpdate 98 (.map (some c.cb)) (.int .i64 f) (.bool true)).run Tryz.prog A.drew=.ok () W2 at hup;unfold aU;have l2:A.heap.size=W.heap.size+1:=by rw[<- y];simp
 have b2:W2.heap[W.heap.size]?=some (.cells (aU (k1,t1,(pl,pf,pt,pc,pa),lb,ot,f)) 59 (0,0)):=(F2.lo (by show _<A.heap.size;omega) (by rw[tB];omega)).trans b1;have F2':Frm tg Bh W W2 tg:=(F1.drewN 1).trans (F2.sub λt h=>by unfold Bh;omega);unfold aU at y;have x9:W2.cell? ⟨c.hb,9,none⟩=some (.map (some c.cb)):=H2.cell (j:=9) rfl;have xl:W2.cell? ⟨W.heap.size,9,none⟩=some (.int .i64 f):=by simp[World.cell?,b2,aU]
 go_enter Tryz.func106,Tryz.ntmps106
 go_wp2
 go_region_held3 (λw'=>w'.cell? ⟨c.hb,9,none⟩=some (.map (some c.cb))/\w'.cell? ⟨W.heap.size,9,none⟩=some (.int .i64 f)) (go_keep) (fail)
 clear h9 l1 x9;obtain⟨av,cv,hiv⟩:=H2.rows.sl;have X:gs.length=its.length:=by have:=H2.len;simpa using this
 rw[X]at hiv;have x7:W2.cell? ⟨c.hb,7,none⟩=some (.slice av its.length cv):=by rw[<- hiv];exact H2.cell (j:=7) rfl
 obtain⟨B,hB⟩:∃B,W.heap.size=B:=⟨_,rfl⟩;rw[hB]at xl tB ⊢
 go_wp2
 go_loopw [17] (λu wr=>∃q:Nat,q<=its.length/\u=.int .i64 q/\Frm tg Bh W wr tg/\Hist wr R tg c ((je f q its).map Itm.raw) (cc++[f]) gs iv/\wr.heap[B]?=W2.heap[B]?)
  (λu _=>its.length-(intOf u).toNat)
 case atStart=>exact⟨0,wK _,rfl,F2',by show Hist W2 R tg c ((je f 0 its).map Itm.raw) _ gs iv;exact H2,rfl⟩
 case round=>
  obtain⟨q,hq,rfl,Fr,Hr,hb⟩:=hrel;by_cases hlt:q<its.length;obtain⟨i,hi⟩:∃i,its[q]?=some i:=⟨its[q],qB hlt⟩;have L:=aQ (XE (l:=f) hi);obtain⟨g,hg,hI⟩:=Hr.get L;obtain⟨bi,ci,ei,_⟩:=Hr.rows.pos Z;have er:=Hr.rows;rw[ei]at er;have cp:wr.cell? ⟨bi,q,none⟩=some (.pointer (some ⟨g.b,0,none⟩)):=er.cell (by rw[qQ,hg];rfl);rw[hiv,X]at ei;cases ei;have q0:(0:Int)<=q:=Z;have q1:(q:Int)<its.length:=Z;have y11:wr.cell? ⟨g.b,11,none⟩=some (.int .i64 i.line):=hI.cell (j:=11) rfl;have z11:=hI.free 11;have xl':wr.cell? ⟨B,9,none⟩=some (.int .i64 f):=by simp only[World.cell?,hb];exact xl
  by_cases G:i.line=f;have hl':(i.line==f)=true:=by simpa using G
  go_wp2
  go_quiet (fail)
  generalize hWq:wr.drewN nq=Wq;have Hq:Hist Wq R tg c ((je f q its).map Itm.raw) (cc++[f]) gs iv:=hWq▸Hr.drewN nq;have Fq:Frm tg Bh W Wq tg:=hWq▸Fr.drewN nq;have bq:Wq.heap[B]?=W2.heap[B]?:=by rw[<- hWq];exact hb
  have z:=Hq.it q g _ hg L;clear cp y11 z11 xl';have y11:Wq.cell? ⟨g.b,11,none⟩=some (.int .i64 i.line):=z.cell (j:=11) rfl;have z11:=z.free 11
  go_wp2
  obtain⟨hI6,F6⟩:=z.scal (r':=(M9 f i).raw) Hq.new (o:=11) (u:=.int .i64 (-1)) (by unfold M9;rw[if_pos G];rfl) (by unfold M9;rw[if_pos G];rfl) (by unfold M9;rw[if_pos G];rfl) (by unfold M9;rw[if_pos G];rfl) (by unfold M9;rw[if_pos G];rfl);have H6:=Hq.itemS hg L F6 hI6 (by unfold M9;rw[if_pos G];rfl);rw[mf,nB hi]at H6
  go_roundw
  case rel=>exact⟨q+1,Z,by simp,Fq.trans (F6.sub λt h=>by unfold Bh;have:=h.1;omega),H6,(Below.heap_setCell _ _ _ _ (λe=>by have:=z.bR;have:=H.RW;have e:B=g.b:=e;have:=z.tb;rw[<- e,tB]at this;omega)).trans bq⟩
  case measure=>simp[intOf];omega
  have hl':(i.line==f)=false:=by simpa using G
  go_wp2
  go_quiet (fail)
  have H6:=(Hr.drewN nq);rw[<- KX L,<- show(M9 f i).raw=i.raw by unfold M9;rw[if_neg G],mf,nB hi]at H6
  go_wp2
  go_roundw
  case rel=>exact⟨q+1,Z,by simp,Fr.drewN nq,H6,hb⟩
  case measure=>simp[intOf];omega
  obtain rfl:q=its.length:=by omega
  go_wp2
  go_end0
  rw[TC]at Hr;exact⟨rfl,Fr,Hr⟩
end Go.Eng.Top
