/- ToS -/
import Derived.Test.YtecnnbcfgijddaaGreatDoorETBrkK
import Derived.Test.YtecnnbcfgijddaaGreatDoorETBrkP
import Derived.Lib.AppendZeros
import Derived.Deep.CutRange
set_option linter.unusedSimpArgs false
set_option linter.unusedVariables false
namespace Go.Eng.Top
open Go.Proofs Go.RowKit
variable {tg tg' tg1 tg2:Tag} {Op:Nat->Prop} {w0 W W' W1 W2:World} {R k k2 m:Nat} {g g2:Gh} {r r':Raw} {c:HC} {d:Dat} {its:List Itm} {i i2:Itm} {rs:List Raw} {cc:Li} {gs:List Gh} {iv v':Value}
set_option maxRecDepth 100000 in
set_option maxHeartbeats 4000000 in
theorem aC0(E:Env w0 R c d)(H:Hist W R tg c (its.map Itm.raw) cc gs iv)(hB:Below R w0 W)(hg:gs[k]?=some g)(hi:its[k]?=some i)(hg2:gs[k2]?=some g2)(A:its[k2]?=some i2)(hne:k≠k2)(ok:OkI d m its i)(L:OkI d m its i2)(hm:m<900)(hz:∀j∈its,j.post.1.size<=1000/\0<=j.post.2.2.1/\j.post.2.2.1<d.N)
  (e:bZ) (he:e.2.2.2.1=i.post.1) (he2:e.2.2.2.2.1=i2.post.1) (ht:0<=e.2.1/\e.2.1<=1000000):
  Calls Tryz.prog 105 #[.pointer (some ⟨c.hb,0,none⟩),.agg (aU e)] W λe' w'=>e'=.returned (.tuple #[])/\∃tg' gs',
   Frm tg (λt=>itT k t\/itT k2 t) W w' tg'/\Hist w' R tg' c ((if i.off≠i2.off\/e.2.1<i.arr\/e.2.1<i2.arr then its
    else(its.set k (jj d cc (iy its i2.lb) (G9 i i2.lb e.2.1))).set k2 (jj d cc (iy its i.lb) (G9 i2 i.lb e.2.1))).map Itm.raw) cc gs' iv:=by
 obtain⟨k1,f,⟨pl,pf,pt,pc,pa⟩,lb,ot,ln⟩:=e;have he:lb=i.post.1:=he;subst he;have he2:ot=i2.post.1:=he2;subst he2;dsimp only at ht ⊢;have hlow:=H.low;have hRW:=H.RW;obtain⟨N,hN⟩:∃N,W.heap.size=N:=⟨_,rfl⟩;obtain⟨W1,hW1⟩:∃W1,W.alloc (.cells (aU (k1,f,(pl,pf,pt,pc,pa),i.post.1,i2.post.1,ln)) 59)=W1:=⟨_,rfl⟩
 have b1:W1.heap[N]?=some (.cells (aU (k1,f,(pl,pf,pt,pc,pa),i.post.1,i2.post.1,ln)) 59 (0,0)):=by rw[<- hW1,<- hN];exact World.alloc_heap_new W _
 have H1:Hist W1 R tg c (its.map Itm.raw) cc gs iv:=hW1▸H.alloc _;have F1:Frm tg (λt=>itT k t\/itT k2 t) W W1 tg:=hW1▸Frm.alloc H.new _;have l1:W1.cell? ⟨N,7,none⟩=some (.string i.post.1):=by simp[World.cell?,b1,aU]
 have l2:W1.cell? ⟨N,8,none⟩=some (.string i2.post.1):=by simp[World.cell?,b1,aU]
 have h8:W1.cell? ⟨c.hb,8,none⟩=some (.map (some c.nb)):=H1.cell (j:=8) rfl;have hlk:∀m,(Instr.lookup 97 (.map (some c.nb)) (.string i.post.1) false).run Tryz.prog (W1.drewN m)=.ok (.pointer (some ⟨g.b,0,none⟩)) (W1.drewN m):=λm=>(H1.drewN m).look hg (aQ hi) (by unfold maxLen;have:=ok.lz;show i.post.1.size<=_;omega)
 have hlk2:∀m,(Instr.lookup 97 (.map (some c.nb)) (.string i2.post.1) false).run Tryz.prog (W1.drewN m)=.ok (.pointer (some ⟨g2.b,0,none⟩)) (W1.drewN m):=λm=>(H1.drewN m).look hg2 (aQ A) (by unfold maxLen;have:=L.lz;show i2.post.1.size<=_;omega)
 unfold aU;unfold aU at hW1
 go_enter Tryz.func105,Tryz.ntmps105
 go_wp2
 go_quiet (fail)
 generalize hW2:W1.drewN nq=W2;have H2:Hist W2 R tg c (its.map Itm.raw) cc gs iv:=hW2▸H1.drewN nq;have F2:Frm tg (λt=>itT k t\/itT k2 t) W W2 tg:=hW2▸F1.drewN nq;have b2:W2.heap[N]?=W1.heap[N]?:=by rw[<- hW2];rfl
 rw[b1]at b2;clear l1 l2 h8 hlk hlk2 b1;have nb1:N≠g.b:=by have:=(H.it k g _ hg (aQ hi)).lt;omega
 have nb2:N≠g2.b:=by have:=(H.it k2 g2 _ hg2 (aQ A)).lt;omega
 have hI:=H2.it k g _ hg (aQ hi);have hJ:=H2.it k2 g2 _ hg2 (aQ A);have t2:W2.cell? ⟨N,1,none⟩=some (.int .i64 f):=by simp[World.cell?,b2,aU]
 obtain⟨ba,ca,hsa,_⟩:=hI.st.pos (by show 0<(i.done++_).length;simp);obtain⟨bb,cb,hsb,_⟩:=hJ.st.pos (by show 0<(i2.done++_).length;simp);have e1:i.raw.st.length=i.done.length+1:=by show(i.done++_).length=_;simp
 have e2:i2.raw.st.length=i2.done.length+1:=by show(i2.done++_).length=_;simp
 have hsa':=hsa;have hsb':=hsb;rw[e1]at hsa';rw[e2]at hsb';have s0:W2.cell? ⟨ba,i.done.length*4,none⟩=some (.int .i64 i.off):=ff (hsa▸hI.st) (ss:=i.done) rfl (i:=0) rfl;have s1:W2.cell? ⟨ba,i.done.length*4+1,none⟩=some (.int .i64 i.arr):=ff (hsa▸hI.st) (ss:=i.done) rfl (i:=1) rfl;have s2:W2.cell? ⟨bb,i2.done.length*4,none⟩=some (.int .i64 i2.off):=ff (hsb▸hJ.st) (ss:=i2.done) rfl (i:=0) rfl
 have s3:W2.cell? ⟨bb,i2.done.length*4+1,none⟩=some (.int .i64 i2.arr):=ff (hsb▸hJ.st) (ss:=i2.done) rfl (i:=1) rfl;have cla:∀n,Calls Tryz.prog 108 #[.pointer (some ⟨g.b,0,none⟩)] (W2.drewN n) λe w'=>e=.returned (.pointer (some ⟨ba,i.done.length*4,none⟩))/\∃q,w'=(W2.drewN n).drewN q:=λn=>(Nq (hI.drewN n) (ss:=i.done) rfl (by have:=ok.dl;omega)).mono (by
  rintro e w' ⟨⟨b,cap,hb,rfl⟩,q,rfl⟩;rw[hsa']at hb;cases hb;exact⟨rfl,q,rfl⟩)
 have clb:∀n,Calls Tryz.prog 108 #[.pointer (some ⟨g2.b,0,none⟩)] (W2.drewN n) λe w'=>e=.returned (.pointer (some ⟨bb,i2.done.length*4,none⟩))/\∃q,w'=(W2.drewN n).drewN q:=λn=>(Nq (hJ.drewN n) (ss:=i2.done) rfl (by have:=L.dl;omega)).mono (by
  rintro e w' ⟨⟨b,cap,hb,rfl⟩,q,rfl⟩;rw[hsb']at hb;cases hb;exact⟨rfl,q,rfl⟩)
 by_cases h1:i.off=i2.off
 case neg=>
  have h1':(i.off != i2.off)=true:=by simpa using h1
  go_wp2
  go_quiet (first | (go_at_call_of 108 (Value.pointer (some ⟨g.b,0,none⟩));exact Calls.quiet_of (cla _)) | (go_at_call_of 108 (Value.pointer (some ⟨g2.b,0,none⟩));exact Calls.quiet_of (clb _)))
  go_wp2
  refine bodyPost_ret (results_none rfl _ _ _) rfl ⟨rfl,tg,F2.drewN nq,gs,?_⟩;exact H2.drewN nq
 have h1':(i.off != i2.off)=false:=by simpa using h1
 by_cases h3:f<i.arr
 .have h3':decide (i.arr>f)=true:=by simpa using h3
  go_wp2
  go_quiet (first | (go_at_call_of 108 (Value.pointer (some ⟨g.b,0,none⟩));exact Calls.quiet_of (cla _)) | (go_at_call_of 108 (Value.pointer (some ⟨g2.b,0,none⟩));exact Calls.quiet_of (clb _)))
  go_wp2
  refine bodyPost_ret (results_none rfl _ _ _) rfl ⟨rfl,tg,F2.drewN nq,gs,?_⟩;exact H2.drewN nq
 have h3':decide (i.arr>f)=false:=by simpa using h3
 by_cases h4:f<i2.arr
 .have h4':decide (i2.arr>f)=true:=by simpa using h4
  go_wp2
  go_quiet (first | (go_at_call_of 108 (Value.pointer (some ⟨g.b,0,none⟩));exact Calls.quiet_of (cla _)) | (go_at_call_of 108 (Value.pointer (some ⟨g2.b,0,none⟩));exact Calls.quiet_of (clb _)))
  go_wp2
  refine bodyPost_ret (results_none rfl _ _ _) rfl ⟨rfl,tg,F2.drewN nq,gs,?_⟩;exact H2.drewN nq
 have h4':decide (i2.arr>f)=false:=by simpa using h4
 go_wp2
 go_quiet (first | (go_at_call_of 108 (Value.pointer (some ⟨g.b,0,none⟩));exact Calls.quiet_of (cla _)) | (go_at_call_of 108 (Value.pointer (some ⟨g2.b,0,none⟩));exact Calls.quiet_of (clb _)))
 generalize hW3:W2.drewN nq=W3;have H3:Hist W3 R tg c (its.map Itm.raw) cc gs iv:=hW3▸H2.drewN nq;have F3:Frm tg (λt=>itT k t\/itT k2 t) W W3 tg:=hW3▸F2.drewN nq;have b3:W3.heap[N]?=W2.heap[N]?:=by rw[<- hW3];rfl
 rw[b2]at b3;clear t2 s0 s1 s2 s3 cla clb;have caa:=λn=>xu ((H3.it k g _ hg (aQ hi)).drewN n) (ls:=i.bL) (lb:=i.lb) rfl (by have:=ok.bl;omega)
 have cab:=λn=>xu ((H3.it k2 g2 _ hg2 (aQ A)).drewN n) (ls:=i2.bL) (lb:=i2.lb) rfl (by have:=L.bl;omega)
 have ca0:=caa 0;rw[show W3.drewN 0=W3 from rfl]at ca0
 go_wp2_with (first
  | (go_at_call_of 161 (Value.pointer (some ⟨g.b,0,none⟩));refine ca0.mono ?_;rintro e w' ⟨rfl,q1,rfl⟩)
  | (go_at_call_of 161 (Value.pointer (some ⟨g2.b,0,none⟩));refine(cab _).mono ?_;rintro e w' ⟨rfl,q2,rfl⟩))
 generalize hW4:W3.drewN (q1+q2)=G;have H4:Hist G R tg c (its.map Itm.raw) cc gs iv:=hW4▸H3.drewN (q1+q2);have F4:Frm tg (λt=>itT k t\/itT k2 t) W G tg:=hW4▸F3.drewN (q1+q2);have b4:G.heap[N]?=some (.cells (aU (k1,f,(pl,pf,pt,pc,pa),i.post.1,i2.post.1,ln)) 59 (0,0)):=by rw[<- hW4];exact b3
 clear caa cab ca0
 go_cut []from 57 to 82 (λwx=>∃tg' gs' g' g2',Frm tg (λt=>itT k t\/itT k2 t) W wx tg'/\Hist wx R tg' c (((its.set k {i with sL:=i.sL++[i.sn],sn:=f}).set k2 {i2 with sL:=i2.sL++[i2.sn],sn:=f}).map Itm.raw) cc gs' iv/\
  gs'[k]?=some g'/\g'.b=g.b/\gs'[k2]?=some g2'/\g2'.b=g2.b/\wx.heap[N]?=some (.cells (aU (k1,f,(pl,pf,pt,pc,pa),i.post.1,i2.post.1,ln)) 59 (0,0)))
 case first=>
  obtain⟨X,hX⟩:∃X,G.heap.size=X:=⟨_,rfl⟩;have hI4:=H4.it k g _ hg (aQ hi);have hJ4:=H4.it k2 g2 _ hg2 (aQ A);obtain⟨bi,ci,hsi,_⟩:=hI4.si.pos (by show 0<(i.sL++[i.sn]).length;simp);obtain⟨bj,cj,hsj,_⟩:=hJ4.si.pos (by show 0<(i2.sL++[i2.sn]).length;simp)
  have c7:∀(V:World) (tv:Tag),Hist V R tv c (its.map Itm.raw) cc gs iv->V.cell? ⟨g.b,7,none⟩=some (.slice (some ⟨bi,0,none⟩) i.raw.si.length ci)/\V.cell? ⟨g2.b,7,none⟩=some (.slice (some ⟨bj,0,none⟩) i2.raw.si.length cj)/\V.frozen? ⟨g.b,7,none⟩=false/\V.frozen? ⟨g2.b,7,none⟩=false:=λV tv h=>
   ⟨hsi▸(h.it k g _ hg (aQ hi)).cell (j:=7) rfl,hsj▸(h.it k2 g2 _ hg2 (aQ A)).cell (j:=7) rfl,(h.it k g _ hg (aQ hi)).free 7,(h.it k2 g2 _ hg2 (aQ A)).free 7⟩
  have b41:∀(V:World),V.heap[N]?=G.heap[N]?->V.cell? ⟨N,1,none⟩=some (.int .i64 f):=λV h=>by simp[World.cell?,h,b4,aU]
  have hl1:i.raw.si.length<100000:=by show(i.sL++[i.sn]).length<_;have:=ok.sl;simp;omega
  have hl2:i2.raw.si.length<100000:=by show(i2.sL++[i2.sn]).length<_;have:=L.sl;simp;omega
  have z:∀o:Obj,(G.alloc o).heap.size=X+1:=λo=>by rw[qH,hX]
  have P1:=(H4.alloc (.cells #[.int .i64 f] 3)).drewN 1;have P2:=((H4.alloc (.cells #[.int .i64 f] 3)).alloc (.cells #[.int .i64 f] 3)).drewN 1;have x1:((G.alloc (.cells #[.int .i64 f] 3)).drewN 1).heap[X]?=some (.cells #[.int .i64 f] 3 (0,0)):=by rw[<- hX];exact World.alloc_heap_new G _
  have x2:(((G.alloc (.cells #[.int .i64 f] 3)).alloc (.cells #[.int .i64 f] 3)).drewN 1).heap[X]?=some (.cells #[.int .i64 f] 3 (0,0)):=(Below.heap_alloc _ _ _ (by rw[z];omega)).trans x1;have x3:(((G.alloc (.cells #[.int .i64 f] 3)).alloc (.cells #[.int .i64 f] 3)).drewN 1).heap[X+1]?=some (.cells #[.int .i64 f] 3 (0,0)):=by rw[<- z (.cells #[.int .i64 f] 3)];exact World.alloc_heap_new _ _
  obtain⟨a1,d1,U1,u1,p1,K1,r1,f1⟩:=P1.appS hg (aQ hi) hl1 x1;obtain⟨a2,d2,U2,u2,p2,K2,r2,f2⟩:=P2.appS hg (aQ hi) hl1 x2;obtain⟨a3,d3,U3,u3,p3,K3,r3,f3⟩:=P2.appS hg (aQ hi) hl1 x3;have y1:(U1.alloc (.cells #[.int .i64 f] 3)).heap[U1.heap.size]?=some (.cells #[.int .i64 f] 3 (0,0)):=World.alloc_heap_new U1 _;have nt:∀b,X<=b->tg b≠5*k+7:=λb h=>by rw[H4.new b Z];omega
  have y2:U2.heap[X+1]?=some (.cells #[.int .i64 f] 3 (0,0)):=(f2.lo (by show _<((G.alloc _).alloc _).heap.size;rw[qH,z];omega) (nt _ Z)).trans x3;have y3:U3.heap[X]?=some (.cells #[.int .i64 f] 3 (0,0)):=(f3.lo (by show _<((G.alloc _).alloc _).heap.size;rw[qH,z];omega) (nt _ Z)).trans x2;obtain⟨e1,h1,V1,v1,q1,L1,s1,n1⟩:=(K1.alloc (.cells #[.int .i64 f] 3)).appS hg2 (aQ A) hl2 y1
  obtain⟨e2,h2,V2,v2,q2,L2,s2,n2⟩:=K2.appS hg2 (aQ A) hl2 y2;obtain⟨e3,h3,V3,v3,q3,L3,s3,n3⟩:=K3.appS hg2 (aQ A) hl2 y3;rw[hsi]at p1 p2 p3;rw[hsj]at q1 q2 q3;obtain⟨ca1,ca2,_,_⟩:=c7 G _ H4;obtain⟨cb1,cb2,_,_⟩:=c7 U1 _ K1;obtain⟨cc1,cc2,_,_⟩:=c7 U2 _ K2;obtain⟨cd1,cd2,_,_⟩:=c7 U3 _ K3;obtain⟨ce1,ce2,ce3,ce4⟩:=c7 V1 _ L1;obtain⟨cf1,cf2,cf3,cf4⟩:=c7 V2 _ L2;obtain⟨cg1,cg2,cg3,cg4⟩:=c7 V3 _ L3
  have tN:tg N=0:=H.new N Z;have hNX:N<X:=by have:=F4.chg.size;rw[<- hX];exact(qJ.1 b4).1
  have dn1:U1.heap[N]?=G.heap[N]?:=(f1.lo (by show _<(G.alloc _).heap.size;rw[z];omega) (by rw[tN];omega)).trans (Below.heap_alloc _ _ _ Z);have dn2:U2.heap[N]?=G.heap[N]?:=(f2.lo (by show _<((G.alloc _).alloc _).heap.size;rw[qH,z];omega) (by rw[tN];omega)).trans ((Below.heap_alloc _ _ _ (by rw[z];omega)).trans (Below.heap_alloc _ _ _ Z))
  have dn3:U3.heap[N]?=G.heap[N]?:=(f3.lo (by show _<((G.alloc _).alloc _).heap.size;rw[qH,z];omega) (by rw[tN];omega)).trans ((Below.heap_alloc _ _ _ (by rw[z];omega)).trans (Below.heap_alloc _ _ _ Z));have de0:=b41 G rfl;have de1:=b41 U1 dn1;have de2:=b41 U2 dn2;have de3:=b41 U3 dn3;have hgX:g.b<X:=by rw[<- hX];exact hI4.lt
  have hjX:g2.b<X:=by rw[<- hX];exact hJ4.lt
  have ne1:X≠N:=Z;have ne2:X≠g.b:=Z;have ne3:X≠g2.b:=Z;have ne4:X+1≠N:=Z;have ne5:X+1≠g.b:=Z;have ne6:X+1≠g2.b:=Z;have su1:X+1<=U1.heap.size:=by have:=f1.chg.size;rw[show((G.alloc (.cells #[.int .i64 f] 3)).drewN 1).heap.size=X+1 from z _]at this;exact this
  have ne7:U1.heap.size≠N:=Z;have ne8:U1.heap.size≠g.b:=Z;have ne9:U1.heap.size≠g2.b:=Z;have hbb:g.b≠g2.b:=λe=>by have h1:=hI4.tb;rw[e,hJ4.tb]at h1;omega
  have hbb':g2.b≠g.b:=λe=>hbb e.symm
  change (Builtin.append_ #[30,30] 30 #[.slice (some ⟨bi,0,none⟩) i.raw.si.length ci,.slice (some ⟨X,0,none⟩) 1 1]).run Tryz.prog (G.alloc (.cells #[.int .i64 f] 3)).drew=_ at p1
  change (Builtin.append_ #[30,30] 30 #[.slice (some ⟨bi,0,none⟩) i.raw.si.length ci,.slice (some ⟨X,0,none⟩) 1 1]).run Tryz.prog ((G.alloc (.cells #[.int .i64 f] 3)).alloc (.cells #[.int .i64 f] 3)).drew=_ at p2
  change (Builtin.append_ #[30,30] 30 #[.slice (some ⟨bi,0,none⟩) i.raw.si.length ci,.slice (some ⟨X+1,0,none⟩) 1 1]).run Tryz.prog ((G.alloc (.cells #[.int .i64 f] 3)).alloc (.cells #[.int .i64 f] 3)).drew=_ at p3
  have tU1:u1 N=0:=(f1.tag N (by show _<(G.alloc _).heap.size;rw[z];omega)).trans tN;have tU2:u2 N=0:=(f2.tag N (by show _<((G.alloc _).alloc _).heap.size;rw[qH,z];omega)).trans tN;have tU3:u3 N=0:=(f3.tag N (by show _<((G.alloc _).alloc _).heap.size;rw[qH,z];omega)).trans tN
  have su2:X+1<=U2.heap.size:=by have:=f2.chg.size;rw[show(((G.alloc (.cells #[.int .i64 f] 3)).alloc (.cells #[.int .i64 f] 3)).drewN 1).heap.size=X+1+1 from by show((G.alloc _).alloc _).heap.size=_;rw[qH,z]]at this;omega
  have su3:X+1<=U3.heap.size:=by have:=f3.chg.size;rw[show(((G.alloc (.cells #[.int .i64 f] 3)).alloc (.cells #[.int .i64 f] 3)).drewN 1).heap.size=X+1+1 from by show((G.alloc _).alloc _).heap.size=_;rw[qH,z]]at this;omega
  have dv1:V1.heap[N]?=G.heap[N]?:=(n1.lo (by rw[qH];omega) (by rw[tU1];omega)).trans ((Below.heap_alloc _ _ _ Z).trans dn1);have dv2:V2.heap[N]?=G.heap[N]?:=(n2.lo Z (by rw[tU2];omega)).trans dn2;have dv3:V3.heap[N]?=G.heap[N]?:=(n3.lo Z (by rw[tU3];omega)).trans dn3;have dw1:=b41 V1 dv1;have dw2:=b41 V2 dv2;have dw3:=b41 V3 dv3;have oo:∀t,t=5*k+7->itT k t\/itT k2 t:=λt h=>.inl ⟨Z,Z⟩
  have oo2:∀t,t=5*k2+7->itT k t\/itT k2 t:=λt h=>.inr ⟨Z,Z⟩
  have T1:=swS ((((F4.trans (Frm.alloc H4.new (.cells #[.int .i64 f] 3))).drewN 1).trans (f1.sub oo)).trans ((Frm.alloc K1.new (.cells #[.int .i64 f] 3)).trans (n1.sub oo2))) L1 hg hi hg2 A hne ((r1.fr (Frm.alloc (O:=λ_=>False) K1.new (.cells #[.int .i64 f] 3)) (λh=>h)).fr n1 Z) s1 (dv1.trans b4) nb1 nb2
  have T2:=swS (((((F4.trans (Frm.alloc H4.new (.cells #[.int .i64 f] 3))).trans (Frm.alloc (H4.alloc _).new (.cells #[.int .i64 f] 3))).drewN 1).trans (f2.sub oo)).trans (n2.sub oo2)) L2 hg hi hg2 A hne (r2.fr n2 Z) s2 (dv2.trans b4) nb1 nb2
  have T3:=swS (((((F4.trans (Frm.alloc H4.new (.cells #[.int .i64 f] 3))).trans (Frm.alloc (H4.alloc _).new (.cells #[.int .i64 f] 3))).drewN 1).trans (f3.sub oo)).trans (n3.sub oo2)) L3 hg hi hg2 A hne (r3.fr n3 Z) s3 (dv3.trans b4) nb1 nb2;obtain⟨ch1,ch2,_,_⟩:=c7 (U1.alloc (.cells #[.int .i64 f] 3)) _ (K1.alloc _)
  have ch3:=b41 (U1.alloc (.cells #[.int .i64 f] 3)) ((Below.heap_alloc _ _ _ Z).trans dn1);have nb1':=nb1.symm;have nb2':=nb2.symm;generalize i.raw.si.length=z1 at p1 p2 p3 ca1 cb1 cc1 cd1 ce1 cf1 cg1 ch1 T1 T2 T3;generalize i2.raw.si.length=z2 at q1 q2 q3 ca2 cb2 cc2 cd2 ce2 cf2 cg2 ch2 T1 T2 T3
  clear oo oo2 tU1 tU2 tU3 dv1 dv2 dv3 c7 b41 z P1 P2 x1 x2 x3 y1 y2 y3 nt dn1 dn2 dn3 H1 H2 H3 F1 F2 F3 hI hJ hsa hsb hsa' hsb' hW1 hW2 hW3 hW4
--R4
  have hT:G.drew.cell? ⟨N,1,none⟩=some (.int .i64 f):=de0;have hS:G.drew.cell? ⟨g.b,7,none⟩=some (.slice (some ⟨bi,0,none⟩) z1 ci)/\G.drew.cell? ⟨g2.b,7,none⟩=some (.slice (some ⟨bj,0,none⟩) z2 cj):=⟨ca1,ca2⟩
  refine nJ (λw=>w.cell? ⟨N,1,none⟩=some (.int .i64 f)) (λw=>w.cell? ⟨g.b,7,none⟩=some (.slice (some ⟨bi,0,none⟩) z1 ci)/\w.cell? ⟨g2.b,7,none⟩=some (.slice (some ⟨bj,0,none⟩) z2 cj)) (λi=>decide (20<=i)) (by kernel_rfl) ?_;refine aX 0 ?_;refine aX 1 ?_;refine aX 2 ?_;refine aX 3 ?_;refine aX 4 ?_;refine aX 5 ?_;refine lU 6 ?_;refine aX 7 ?_;refine aX 8 ?_;refine aX 11 ?_;refine aX 12 ?_
  refine aX 13 ?_;refine aX 14 ?_;refine lU 15 ?_;refine aX 16 ?_;refine aX 17 ?_;refine mV (i:=9) (j:=18) (by kernel_rfl) rfl rfl (by rfl) (by rfl) (λK u=>?_) (λK u=>?_)
  .go_simp
   refine ji u ?_;clear u K;refine mV (i:=10) (j:=18) (by kernel_rfl) rfl rfl (by rfl) (by rfl) (λK u=>?_) (λK u=>?_)
   .refine Lib.wp_append_run _ (.tmp 63) (.tmp 66) 30 30 (by rfl) _ _ rfl rfl _ _ p1 ?_;refine ji u ?_;clear u K;refine bA 18 ?_;refine pq 19 λK u=>?_
    refine Lib.wp_append_run _ (.tmp 72) (.tmp 75) 30 30 (by rfl) _ _ rfl rfl _ _ q1 ?_;refine ji u ?_;clear u K;refine bA 20 ?_;refine bA 21 ?_;refine bA 22 ?_;refine bA 23 ?_;refine bA 24 ?_;refine bA 25 ?_;refine bA 26 ?_;refine bA 27 ?_;refine cU (by kernel_rfl) ?_ _
    go_wp2_with fail
    go_meet
    case rel=>exact T1
   .go_simp
    refine ji u ?_;clear u K;refine pq 10 λK u=>?_
    refine Lib.wp_append_run _ (.tmp 63) (.tmp 66) 30 30 (by rfl) _ _ rfl rfl _ _ p2 ?_;refine ji u ?_;clear u K;refine pq 19 λK u=>?_
    refine Lib.wp_append_run _ (.tmp 72) (.tmp 75) 30 30 (by rfl) _ _ rfl rfl _ _ q2 ?_;refine ji u ?_;clear u K;refine bA 20 ?_;refine bA 21 ?_;refine bA 22 ?_;refine bA 23 ?_;refine bA 24 ?_;refine bA 25 ?_;refine bA 26 ?_;refine bA 27 ?_;refine cU (by kernel_rfl) ?_ _
    go_wp2_with fail
    go_meet
    case rel=>exact T2
  .go_simp
   refine ji u ?_;clear u K;refine bA 9 ?_;refine pq 10 λK u=>?_
   refine Lib.wp_append_run _ (.tmp 63) (.tmp 66) 30 30 (by rfl) _ _ rfl rfl _ _ p3 ?_;refine ji u ?_;clear u K;refine pq 19 λK u=>?_
   refine Lib.wp_append_run _ (.tmp 72) (.tmp 75) 30 30 (by rfl) _ _ rfl rfl _ _ q3 ?_;refine ji u ?_;clear u K;refine bA 20 ?_;refine bA 21 ?_;refine bA 22 ?_;refine bA 23 ?_;refine bA 24 ?_;refine bA 25 ?_;refine bA 26 ?_;refine bA 27 ?_;refine cU (by kernel_rfl) ?_ _
   go_wp2_with fail
   go_meet
   case rel=>exact T3
--E4
 case rest=>
 obtain⟨tg5,gs5,g5,j5,F5,H5,hg5,eg5,hj5,ej5,_⟩:=hcut;have hi5:((its.set k {i with sL:=i.sL++[i.sn],sn:=f}).set k2 {i2 with sL:=i2.sL++[i2.sn],sn:=f})[k]?=some {i with sL:=i.sL++[i.sn],sn:=f}:=(KH hi A hne).1;have hj5':((its.set k {i with sL:=i.sL++[i.sn],sn:=f}).set k2 {i2 with sL:=i2.sL++[i2.sn],sn:=f})[k2]?=some {i2 with sL:=i2.sL++[i2.sn],sn:=f}:=(KH hi A hne).2
 clear H H1 H2 H3 H4 F1 F2 F3 F4 hI hJ hsa hsb hsa' hsb' b2 b3 b4 hW1 hW2 hW3 hW4
 go_wp2_with fail
 go_cut []from 83 to 106 (λwx=>∃tg' gs' g' g2',Frm tg (λt=>itT k t\/itT k2 t) W wx tg'/\Hist wx R tg' c (((its.set k (G9 i i2.lb f)).set k2 (G9 i2 i.lb f)).map Itm.raw) cc gs' iv/\
  gs'[k]?=some g'/\g'.b=g.b/\gs'[k2]?=some g2'/\g2'.b=g2.b)
 case first=>
  obtain⟨X,hX⟩:∃X,wc.heap.size=X:=⟨_,rfl⟩;have hI4:=H5.it k g5 _ hg5 (aQ hi5);have hJ4:=H5.it k2 j5 _ hj5 (aQ hj5');obtain⟨bi,ci,hsi,_⟩:=hI4.la.pos (by show 0<(i.bL++[i.lb]).length;simp);obtain⟨bj,cj,hsj,_⟩:=hJ4.la.pos (by show 0<(i2.bL++[i2.lb]).length;simp)
  have c7:∀(V:World) (tv:Tag),Hist V R tv c (((its.set k {i with sL:=i.sL++[i.sn],sn:=f}).set k2 {i2 with sL:=i2.sL++[i2.sn],sn:=f}).map Itm.raw) cc gs5 iv->V.cell? ⟨g.b,8,none⟩=some (.slice (some ⟨bi,0,none⟩) i.raw.la.length ci)/\V.cell? ⟨g2.b,8,none⟩=some (.slice (some ⟨bj,0,none⟩) i2.raw.la.length cj)/\V.frozen? ⟨g.b,8,none⟩=false/\V.frozen? ⟨g2.b,8,none⟩=false:=λV tv h=>
   eg5▸ej5▸⟨hsi▸(h.it k g5 _ hg5 (aQ hi5)).cell (j:=8) rfl,hsj▸(h.it k2 j5 _ hj5 (aQ hj5')).cell (j:=8) rfl,(h.it k g5 _ hg5 (aQ hi5)).free 8,(h.it k2 j5 _ hj5 (aQ hj5')).free 8⟩
  have hl1:i.raw.la.length<100000:=by show(i.bL++[i.lb]).length<_;have:=ok.bl;simp;omega
  have hl2:i2.raw.la.length<100000:=by show(i2.bL++[i2.lb]).length<_;have:=L.bl;simp;omega
  have z:∀o:Obj,(wc.alloc o).heap.size=X+1:=λo=>by rw[qH,hX]
  have P1:=(H5.alloc (.cells #[.string i2.lb] 9)).drewN 1;have P2:=((H5.alloc (.cells #[.string i2.lb] 9)).alloc (.cells #[.string i.lb] 9)).drewN 1;have P3:=((H5.alloc (.cells #[.string i.lb] 9)).alloc (.cells #[.string i2.lb] 9)).drewN 1;have x1:((wc.alloc (.cells #[.string i2.lb] 9)).drewN 1).heap[X]?=some (.cells #[.string i2.lb] 9 (0,0)):=by rw[<- hX];exact World.alloc_heap_new wc _
  have x2:(((wc.alloc (.cells #[.string i2.lb] 9)).alloc (.cells #[.string i.lb] 9)).drewN 1).heap[X]?=some (.cells #[.string i2.lb] 9 (0,0)):=(Below.heap_alloc _ _ _ (by rw[z];omega)).trans x1
  have x3:(((wc.alloc (.cells #[.string i.lb] 9)).alloc (.cells #[.string i2.lb] 9)).drewN 1).heap[X+1]?=some (.cells #[.string i2.lb] 9 (0,0)):=by rw[<- z (.cells #[.string i.lb] 9)];exact World.alloc_heap_new _ _
  have x2':(((wc.alloc (.cells #[.string i2.lb] 9)).alloc (.cells #[.string i.lb] 9)).drewN 1).heap[X+1]?=some (.cells #[.string i.lb] 9 (0,0)):=by rw[<- z (.cells #[.string i2.lb] 9)];exact World.alloc_heap_new _ _
  have x3':(((wc.alloc (.cells #[.string i.lb] 9)).alloc (.cells #[.string i2.lb] 9)).drewN 1).heap[X]?=some (.cells #[.string i.lb] 9 (0,0)):=(Below.heap_alloc _ _ _ (by rw[z];omega)).trans (by rw[<- hX];exact World.alloc_heap_new wc _);obtain⟨a1,d1,U1,u1,p1,K1,r1,f1⟩:=P1.appL hg5 (aQ hi5) hl1 x1;obtain⟨a2,d2,U2,u2,p2,K2,r2,f2⟩:=P2.appL hg5 (aQ hi5) hl1 x2
  obtain⟨a3,d3,U3,u3,p3,K3,r3,f3⟩:=P3.appL hg5 (aQ hi5) hl1 x3;have y1:(U1.alloc (.cells #[.string i.lb] 9)).heap[U1.heap.size]?=some (.cells #[.string i.lb] 9 (0,0)):=World.alloc_heap_new U1 _;have nt:∀b,X<=b->tg5 b≠5*k+8:=λb h=>by rw[H5.new b Z];omega
  have y2:U2.heap[X+1]?=some (.cells #[.string i.lb] 9 (0,0)):=(f2.lo (by show _<((wc.alloc _).alloc _).heap.size;rw[qH,z];omega) (nt _ Z)).trans x2';have y3:U3.heap[X]?=some (.cells #[.string i.lb] 9 (0,0)):=(f3.lo (by show _<((wc.alloc _).alloc _).heap.size;rw[qH,z];omega) (nt _ Z)).trans x3';obtain⟨e1,h1,V1,v1,q1,L1,s1,n1⟩:=(K1.alloc (.cells #[.string i.lb] 9)).appL hj5 (aQ hj5') hl2 y1
  obtain⟨e2,h2,V2,v2,q2,L2,s2,n2⟩:=K2.appL hj5 (aQ hj5') hl2 y2;obtain⟨e3,h3,V3,v3,q3,L3,s3,n3⟩:=K3.appL hj5 (aQ hj5') hl2 y3;rw[hsi]at p1 p2 p3;rw[hsj]at q1 q2 q3;obtain⟨ca1,ca2,_,_⟩:=c7 wc _ H5;obtain⟨cb1,cb2,_,_⟩:=c7 U1 _ K1;obtain⟨cc1,cc2,_,_⟩:=c7 U2 _ K2;obtain⟨cd1,cd2,_,_⟩:=c7 U3 _ K3;obtain⟨ce1,ce2,ce3,ce4⟩:=c7 V1 _ L1;obtain⟨cf1,cf2,cf3,cf4⟩:=c7 V2 _ L2;obtain⟨cg1,cg2,cg3,cg4⟩:=c7 V3 _ L3
  obtain⟨ch1,ch2,_,_⟩:=c7 (U1.alloc (.cells #[.string i.lb] 9)) _ (K1.alloc _);have hgX:g.b<X:=by rw[<- hX,<- eg5];exact hI4.lt
  have hjX:g2.b<X:=by rw[<- hX,<- ej5];exact hJ4.lt
  have ne2:X≠g.b:=Z;have ne3:X≠g2.b:=Z;have ne5:X+1≠g.b:=Z;have ne6:X+1≠g2.b:=Z;have hbb:g.b≠g2.b:=λe=>by have h1:=hI4.tb;rw[eg5,e,<- ej5,hJ4.tb]at h1;omega
  have hbb':g2.b≠g.b:=λe=>hbb e.symm
  change (Builtin.append_ #[23,23] 23 #[.slice (some ⟨bi,0,none⟩) i.raw.la.length ci,.slice (some ⟨X,0,none⟩) 1 1]).run Tryz.prog (wc.alloc (.cells #[.string i2.lb] 9)).drew=.ok (.slice (some ⟨a1,0,none⟩) (i.raw.la.length+1) d1) U1 at p1
  change (Builtin.append_ #[23,23] 23 #[.slice (some ⟨bi,0,none⟩) i.raw.la.length ci,.slice (some ⟨X,0,none⟩) 1 1]).run Tryz.prog ((wc.alloc (.cells #[.string i2.lb] 9)).alloc (.cells #[.string i.lb] 9)).drew=.ok (.slice (some ⟨a2,0,none⟩) (i.raw.la.length+1) d2) U2 at p2
  change (Builtin.append_ #[23,23] 23 #[.slice (some ⟨bi,0,none⟩) i.raw.la.length ci,.slice (some ⟨X+1,0,none⟩) 1 1]).run Tryz.prog ((wc.alloc (.cells #[.string i.lb] 9)).alloc (.cells #[.string i2.lb] 9)).drew=.ok (.slice (some ⟨a3,0,none⟩) (i.raw.la.length+1) d3) U3 at p3
  change (Builtin.append_ #[23,23] 23 #[.slice (some ⟨bj,0,none⟩) i2.raw.la.length cj,.slice (some ⟨U1.heap.size,0,none⟩) 1 1]).run Tryz.prog (U1.alloc (.cells #[.string i.lb] 9))=.ok (.slice (some ⟨e1,0,none⟩) (i2.raw.la.length+1) h1) V1 at q1
  change (Builtin.append_ #[23,23] 23 #[.slice (some ⟨bj,0,none⟩) i2.raw.la.length cj,.slice (some ⟨X+1,0,none⟩) 1 1]).run Tryz.prog U2=.ok (.slice (some ⟨e2,0,none⟩) (i2.raw.la.length+1) h2) V2 at q2
  change (Builtin.append_ #[23,23] 23 #[.slice (some ⟨bj,0,none⟩) i2.raw.la.length cj,.slice (some ⟨X,0,none⟩) 1 1]).run Tryz.prog U3=.ok (.slice (some ⟨e3,0,none⟩) (i2.raw.la.length+1) h3) V3 at q3
  have oo:∀t,t=5*k+8->itT k t\/itT k2 t:=λt h=>.inl ⟨Z,Z⟩
  have oo2:∀t,t=5*k2+8->itT k t\/itT k2 t:=λt h=>.inr ⟨Z,Z⟩
  have fin:∀(V:World) (tv:Tag) (va vb:Value),Frm tg (λt=>itT k t\/itT k2 t) W V tv->Hist V R tv c (((its.set k {i with sL:=i.sL++[i.sn],sn:=f}).set k2 {i2 with sL:=i2.sL++[i2.sn],sn:=f}).map Itm.raw) cc gs5 iv->eU V R tv (5*k+8) 9 1 va (i.raw.la.length+1) ((i.raw.la++[i2.lb]).map Value.string)->eU V R tv (5*k2+8) 9 1 vb (i2.raw.la.length+1) ((i2.raw.la++[i.lb]).map Value.string)->
    ∃tg' gs' g' g2',Frm tg (λt=>itT k t\/itT k2 t) W ((V.setCell ⟨g.b,8,none⟩ va).setCell ⟨g2.b,8,none⟩ vb) tg'/\Hist ((V.setCell ⟨g.b,8,none⟩ va).setCell ⟨g2.b,8,none⟩ vb) R tg' c (((its.set k (G9 i i2.lb f)).set k2 (G9 i2 i.lb f)).map Itm.raw) cc gs' iv/\gs'[k]?=some g'/\g'.b=g.b/\gs'[k2]?=some g2'/\g2'.b=g2.b:=by
   intro V tv va vb F Hv ra rb;obtain⟨tg',gs',g',g2',F',H',z1,z2,z3,z4,_⟩:=swL F Hv hg5 hi5 hj5 hj5' hne ra rb Hv.hc (λe=>by have:=Hv.th;rw[e,(Hv.it k g5 _ hg5 (aQ hi5)).tb]at this;omega) (λe=>by have:=Hv.th;rw[e,(Hv.it k2 j5 _ hj5 (aQ hj5')).tb]at this;omega);rw[Zm hne]at H';rw[eg5,ej5]at F' H';exact⟨tg',gs',g',g2',F',H',z1,z2.trans eg5,z3,z4.trans ej5⟩
  have T1:=fin V1 _ (.slice (some ⟨a1,0,none⟩) (i.raw.la.length+1) d1) (.slice (some ⟨e1,0,none⟩) (i2.raw.la.length+1) h1) ((((F5.trans (Frm.alloc H5.new (.cells #[.string i2.lb] 9))).drewN 1).trans (f1.sub oo)).trans ((Frm.alloc K1.new (.cells #[.string i.lb] 9)).trans (n1.sub oo2))) L1 ((r1.fr (Frm.alloc (O:=λ_=>False) K1.new (.cells #[.string i.lb] 9)) (λh=>h)).fr n1 Z) s1
  have T2:=fin V2 _ (.slice (some ⟨a2,0,none⟩) (i.raw.la.length+1) d2) (.slice (some ⟨e2,0,none⟩) (i2.raw.la.length+1) h2) (((((F5.trans (Frm.alloc H5.new (.cells #[.string i2.lb] 9))).trans (Frm.alloc (H5.alloc _).new (.cells #[.string i.lb] 9))).drewN 1).trans (f2.sub oo)).trans (n2.sub oo2)) L2 (r2.fr n2 Z) s2
  have T3:=fin V3 _ (.slice (some ⟨a3,0,none⟩) (i.raw.la.length+1) d3) (.slice (some ⟨e3,0,none⟩) (i2.raw.la.length+1) h3) (((((F5.trans (Frm.alloc H5.new (.cells #[.string i.lb] 9))).trans (Frm.alloc (H5.alloc _).new (.cells #[.string i2.lb] 9))).drewN 1).trans (f3.sub oo)).trans (n3.sub oo2)) L3 (r3.fr n3 Z) s3;generalize i.raw.la.length=z1 at p1 p2 p3 ca1 cb1 cc1 cd1 ce1 cf1 cg1 ch1 T1 T2 T3
  generalize i2.raw.la.length=z2 at q1 q2 q3 ca2 cb2 cc2 cd2 ce2 cf2 cg2 ch2 T1 T2 T3;clear fin oo oo2 c7 z P1 P2 P3 x1 x2 x3 x2' x3' y1 y2 y3 nt;have hT:True:=trivial;have hS:wc.drew.cell? ⟨g.b,8,none⟩=some (.slice (some ⟨bi,0,none⟩) z1 ci)/\wc.drew.cell? ⟨g2.b,8,none⟩=some (.slice (some ⟨bj,0,none⟩) z2 cj):=⟨ca1,ca2⟩
  refine nJ (λ_=>True) (λw=>w.cell? ⟨g.b,8,none⟩=some (.slice (some ⟨bi,0,none⟩) z1 ci)/\w.cell? ⟨g2.b,8,none⟩=some (.slice (some ⟨bj,0,none⟩) z2 cj)) (λi=>decide (18<=i)) (by kernel_rfl) ?_
--R5
  refine aX 0 ?_;refine aX 1 ?_;refine aX 2 ?_;refine aX 3 ?_;refine aX 4 ?_;refine aX 5 ?_;refine lU 6 ?_;refine aX 7 ?_;refine aX 10 ?_;refine aX 11 ?_;refine aX 12 ?_;refine aX 13 ?_;refine lU 14 ?_;refine aX 15 ?_;refine mV (i:=8) (j:=16) (by kernel_rfl) rfl rfl (by rfl) (by rfl) (λK u=>?_) (λK u=>?_)
  .go_simp
   refine ji u ?_;clear u K;refine mV (i:=9) (j:=16) (by kernel_rfl) rfl rfl (by rfl) (by rfl) (λK u=>?_) (λK u=>?_)
   .refine Lib.wp_append_run _ (.tmp 89) (.tmp 91) 23 23 (by rfl) _ _ rfl rfl _ _ p1 ?_;refine ji u ?_;clear u K;refine bA 16 ?_;refine pq 17 λK u=>?_
    refine Lib.wp_append_run _ (.tmp 97) (.tmp 99) 23 23 (by rfl) _ _ rfl rfl _ _ q1 ?_;refine ji u ?_;clear u K;refine bA 18 ?_;refine bA 19 ?_;refine bA 20 ?_;refine bA 21 ?_;refine bA 22 ?_;refine bA 23 ?_;refine bA 24 ?_;refine bA 25 ?_;refine cU (by kernel_rfl) ?_ _
    go_wp2_with fail
    go_meet
    case rel=>exact T1
   .go_simp
    refine ji u ?_;clear u K;refine pq 9 λK u=>?_
    refine Lib.wp_append_run _ (.tmp 89) (.tmp 91) 23 23 (by rfl) _ _ rfl rfl _ _ p2 ?_;refine ji u ?_;clear u K;refine pq 17 λK u=>?_
    refine Lib.wp_append_run _ (.tmp 97) (.tmp 99) 23 23 (by rfl) _ _ rfl rfl _ _ q2 ?_;refine ji u ?_;clear u K;refine bA 18 ?_;refine bA 19 ?_;refine bA 20 ?_;refine bA 21 ?_;refine bA 22 ?_;refine bA 23 ?_;refine bA 24 ?_;refine bA 25 ?_;refine cU (by kernel_rfl) ?_ _
    go_wp2_with fail
    go_meet
    case rel=>exact T2
  .go_simp
   refine ji u ?_;clear u K;refine bA 8 ?_;refine pq 9 λK u=>?_
   refine Lib.wp_append_run _ (.tmp 89) (.tmp 91) 23 23 (by rfl) _ _ rfl rfl _ _ p3 ?_;refine ji u ?_;clear u K;refine pq 17 λK u=>?_
   refine Lib.wp_append_run _ (.tmp 97) (.tmp 99) 23 23 (by rfl) _ _ rfl rfl _ _ q3 ?_;refine ji u ?_;clear u K;refine bA 18 ?_;refine bA 19 ?_;refine bA 20 ?_;refine bA 21 ?_;refine bA 22 ?_;refine bA 23 ?_;refine bA 24 ?_;refine bA 25 ?_;refine cU (by kernel_rfl) ?_ _
   go_wp2_with fail
   go_meet
   case rel=>exact T3
--E5
 case rest=>
 obtain⟨tg6,gs6,g6,j6,F6,H6,hg6,eg6,hj6,ej6⟩:=hcut;obtain⟨x,hx⟩:∃x,G9 i i2.lb f=x:=⟨_,rfl⟩;obtain⟨y,hy⟩:∃y,G9 i2 i.lb f=y:=⟨_,rfl⟩;have xp:x.post=i.post:=by rw[<- hx];rfl
 have yp:y.post=i2.post:=by rw[<- hy];rfl
 have xl:x.lb=i2.lb:=by rw[<- hx];rfl
 have yl:y.lb=i.lb:=by rw[<- hy];rfl
 have okx:OkI d (m+1) its x:=by
  rw[<- hx];exact⟨ok.off,ok.arr,ht,⟨ok.hd.1,by have:=ok.hd.2;show i.holds<=_;omega⟩,ok.dl,by show(i.sL++[i.sn]).length<=_;have:=ok.sl;simp;omega,by show(i.bL++[i.lb]).length<=_;have:=ok.bl;simp;omega,ok.el,L.qy,ok.po,ok.lz⟩
 have oky:OkI d (m+1) its y:=by
  rw[<- hy];exact⟨L.off,L.arr,ht,⟨L.hd.1,by have:=L.hd.2;show i2.holds<=_;omega⟩,L.dl,by show(i2.sL++[i2.sn]).length<=_;have:=L.sl;simp;omega,by show(i2.bL++[i2.lb]).length<=_;have:=L.bl;simp;omega,L.el,ok.qy,L.po,L.lz⟩
 rw[hx,hy,List.set_comm _ _ hne]at H6;have hi6:(its.set k2 y)[k]?=some i:=by rw[zW (Ne.symm hne)];exact hi
 have B6:=cT hlow hRW hB F6 (by unfold itT;omega);have hd1:=Nr E H6 B6 hg6 hi6 xp (okx.within λ_ h=>nN A yp h) Z (Zh A yp hz);rw[eg6,tG A yp,xl,List.set_comm _ _ (Ne.symm hne)]at hd1;obtain⟨x',hx'⟩:∃x',jj d cc (iy its i2.lb) x=x':=⟨_,rfl⟩;have xp':x'.post=i.post:=by
  rw[<- hx',<- xp];unfold jj
  (repeat' split)<;>rfl
 rw[hx']at hd1;have hj6':(its.set k x')[k2]?=some i2:=by rw[zW hne];exact A
 have hd2:∀w',Frm tg6 (itT k) wc w' tg6->Hist w' R tg6 c (((its.set k x').set k2 y).map Itm.raw) cc gs6 iv->_:=λw' F7 H7=>Nr E H7 (cT hlow hRW hB (F6.trans (F7.sub λt h=>.inl h)) (by unfold itT;omega)) hj6 hj6' yp (oky.within λ_ h=>nN hi xp' h) Z (Zh hi xp' hz)
 rw[ej6,tG hi xp',yl]at hd2
 go_wp2_with (first
  | (go_at_call_of 109 (Value.pointer (some ⟨g.b,0,none⟩));refine hd1.mono ?_;rintro e w' ⟨rfl,F7,H7⟩)
  | (go_at_call_of 109 (Value.pointer (some ⟨g2.b,0,none⟩));refine(hd2 _ F7 H7).mono ?_;rintro e w' ⟨rfl,F8,H8⟩))
 go_end0
 refine⟨rfl,_,(F6.trans (F7.sub λt h=>.inl h)).trans (F8.sub λt h=>.inr h),gs6,?_⟩;rw[BZ];exact H8
end Go.Eng.Top
