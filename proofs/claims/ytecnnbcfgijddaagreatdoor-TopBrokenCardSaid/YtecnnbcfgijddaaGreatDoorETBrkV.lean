/- TpD -/
import Derived.Test.YtecnnbcfgijddaaGreatDoorETBrkH
import Derived.Test.YtecnnbcfgijddaaGreatDoorETBrkN
import Derived.Test.YtecnnbcfgijddaaGreatDoorETBrkU
set_option linter.unusedSimpArgs false
set_option linter.unusedVariables false
namespace Go.Eng.Top
open Go.Proofs Go.RowKit
def Wh(d:Dat):List bZ->Hst->Prop|[],_=>True|e::es,s=>∀f,DT d (sbD d) e.2.1 s=some f->okD d f e/\Wh d es (rK d (f,s.2) e)
theorem mapM_len{α β:Type}{f:α->Option β}:∀{l:List α}{r:List β},l.mapM f=some r->r.length=l.length
 |[],r,h=>by cases h;rfl
 |a::l,r,h=>by
  rw[xG]at h;cases e:f a with
  |none=>rw[e]at h;cases h
  |some b=>
   cases j:l.mapM f with
   |none=>rw[e,j]at h;cases h
   |some q=>
    rw[e,j]at h;cases h;rw[wR,wR,mapM_len j]
theorem aAZ(d:Dat)(s:Hst)(e:bZ):(rK d s e).1.length<=s.1.length+1/\(rK d s e).2.length<=s.2.length+1:=by
 unfold rK;split;simp;split;simp only[KE];split<;>simp;split;simp only[KE];split<;>simp;split;simp only[I8];split<;>(try split)<;>simp;simp
def Yj(g:Gh)(r:Raw):Lv:=(qq g r).toList.take 10
structure aF7(W:World)(R:Nat)(v:Value)(rs:List Raw)(gs:List Gh):Prop where
 len:gs.length=rs.length
 row:W.ownsRow R 55 10 v rs.length ((gs.zip rs).flatMap λp=>Yj p.1 p.2)
 st:∀(k:Nat) (g:Gh) (r:Raw),gs[k]?=some g->rs[k]?=some r->W.ownsRow R 61 4 g.st r.st.length (r.st.flatMap kO)
 si:∀(k:Nat) (g:Gh) (r:Raw),gs[k]?=some g->rs[k]?=some r->W.ownsRow R 3 1 g.si r.si.length (r.si.map (Value.int .i64))
 la:∀(k:Nat) (g:Gh) (r:Raw),gs[k]?=some g->rs[k]?=some r->W.ownsRow R 9 1 g.la r.la.length (r.la.map Value.string)
 se:∀(k:Nat) (g:Gh) (r:Raw),gs[k]?=some g->rs[k]?=some r->W.ownsRow R 9 1 g.se r.se.length (r.se.map Value.string)
variable {W:World}{d:Dat}{lab:ByteArray->Bool}
theorem aBr.below{W V:World}{z:Option Addr}{ds:List bZ}(h:aBr W z ds)(y:Below W.heap.size W V):aBr V z ds:=λk e G=>by
 obtain⟨b,f,h1,X,L⟩:=h k e G;exact⟨b,f,h1,qK X y.size,λj u A=>jE y (L j u A)⟩
set_option maxRecDepth 100000 in
theorem aCI:Tryz.prog.info? 55=some ((Tryz.prog.info? 55).getD default):=by kernel_rfl
set_option maxRecDepth 100000 in
set_option maxHeartbeats 4000000 in
theorem aFv{n0 n1 n2 p0 p1 p3:Value}{ax a3 a4 a5 ad:Option Addr}{lx cx l3 l4 l5 c3 c4 c5 cd:Nat}{ds:List bZ}(hd:ds.length<=120)(hD:aBr W ad ds)
  (E:∀hb nb cb,Env W W.heap.size ⟨hb,nb,cb,n0,n1,n2,.slice a3 l3 c3,.slice a4 l4 c4,.slice a5 l5 c5,.slice ax lx cx⟩ d)
  (hs:∀W',Below W.heap.size W W'->Calls Tryz.prog 37 #[.agg #[n0,n1,n2,.slice a3 l3 c3,.slice a4 l4 c4,.slice a5 l5 c5]] W' λe A=>e=.returned (.bool true)/\Below W'.heap.size W' A)
  (hf:∀W',Below W.heap.size W W'->Calls Tryz.prog 38 #[.agg #[n0,n1,n2,.slice a3 l3 c3,.slice a4 l4 c4,.slice a5 l5 c5],.slice ax lx cx] W' λe A=>e=.returned (.bool true)/\Below W'.heap.size W' A)
  (hl:∀(W':World) (s:ByteArray),s.size<=1000->Calls Tryz.prog 99 #[.string s] W' λe A=>e=.returned (.bool (lab s))/\Below W'.heap.size W' A) (hz:∀s,lab s=true->s.size<=1000) (hw:CP lab l3 l4 l5 [] 0 ds) (hok:Wh d ds ([],[])):
  Calls Tryz.prog 13 #[.agg #[n0,n1,n2,.slice a3 l3 c3,.slice a4 l4 c4,.slice a5 l5 c5],.agg #[p0,p1,.slice ax lx cx,p3],.slice ad ds.length cd] W λe A=>Below W.heap.size W A/\
   ((∃its v gs,Jf d (sbD d) ds=some its/\e=.returned (.tuple #[v,.int .i64 0])/\aF7 A W.heap.size v (its.map Itm.raw) gs/\its.length<=120/\OkS d ds.length its)\/(Jf d (sbD d) ds=none/\e=.returned (.tuple #[.slice none 0 0,.int .i64 2]))):=by
 have hmm:=@run_makeMap Tryz.prog;obtain⟨N,hN⟩:∃N,W.heap.size=N:=⟨_,rfl⟩;obtain⟨V1,hV1⟩:∃V1,W.alloc (.cells #[n0,n1,n2,.slice a3 l3 c3,.slice a4 l4 c4,.slice a5 l5 c5] 29)=V1:=⟨_,rfl⟩;obtain⟨V2,hV2⟩:∃V2,V1.alloc (.cells #[p0,p1,.slice ax lx cx,p3] 43)=V2:=⟨_,rfl⟩;have z1:V1.heap.size=N+1:=by rw[<- hV1,qH,hN]
 have z2:V2.heap.size=N+1+1:=by rw[<- hV2,qH,z1]
 have u1:Below (N+1) V1 V2:=hV2▸(Below.refl _ _).alloc Z _;have u0:Below N W V2:=Below.trans (hV1▸(Below.refl _ _).alloc Z _) (u1.mono Z);have k0:V2.heap[N]?=some (.cells #[n0,n1,n2,.slice a3 l3 c3,.slice a4 l4 c4,.slice a5 l5 c5] 29 (0,0)):=(u1.block N Z).trans (by rw[<- hV1,<- hN];exact World.alloc_heap_new W _);have k1:V2.heap[N+1]?=some (.cells #[p0,p1,.slice ax lx cx,p3] 43 (0,0)):=by rw[<- hV2,<- z1];exact World.alloc_heap_new V1 _
 have fx:∀V:World,Below (N+1+1) V2 V->Below N W V/\V.cell? ⟨N,0,none⟩=some n0/\V.cell? ⟨N,1,none⟩=some n1/\V.cell? ⟨N,2,none⟩=some n2/\V.cell? ⟨N,3,none⟩=some (.slice a3 l3 c3)/\V.cell? ⟨N,4,none⟩=some (.slice a4 l4 c4)/\V.cell? ⟨N,5,none⟩=some (.slice a5 l5 c5)/\
   V.cell? ⟨N+1,2,none⟩=some (.slice ax lx cx):=λV h=>by
  have e0:=(h.block N Z).trans k0;have e1:=(h.block (N+1) Z).trans k1;exact⟨u0.trans (h.mono Z),by simp[World.cell?,e0],by simp[World.cell?,e0],by simp[World.cell?,e0],by simp[World.cell?,e0],by simp[World.cell?,e0],by simp[World.cell?,e0],by simp[World.cell?,e1]⟩
 obtain⟨b0,x0,x1,x2,x3,x4,x5,x6⟩:=fx V2 (Below.refl _ _);have hs2:∀V,Below (N+1+1) V2 V->Calls Tryz.prog 37 #[.agg #[n0,n1,n2,.slice a3 l3 c3,.slice a4 l4 c4,.slice a5 l5 c5]] V λe A=>e=.returned (.bool true)/\Below (N+1+1) V2 A:=λV h=>(hs V (by rw[hN];exact(fx V h).1)).mono λe A ⟨h1,h2⟩=>⟨h1,h.trans (h2.mono (by have:=h.size;omega))⟩;have hf2:∀V,Below (N+1+1) V2 V->Calls Tryz.prog 38 #[.agg #[n0,n1,n2,.slice a3 l3 c3,.slice a4 l4 c4,.slice a5 l5 c5],.slice ax lx cx] V λe A=>e=.returned (.bool true)/\Below (N+1+1) V2 A:=λV h=>(hf V (by rw[hN];exact(fx V h).1)).mono λe A ⟨h1,h2⟩=>⟨h1,h.trans (h2.mono (by have:=h.size;omega))⟩;have hw2:∀V,Below (N+1+1) V2 V->Calls Tryz.prog 39 #[.agg #[n0,n1,n2,.slice a3 l3 c3,.slice a4 l4 c4,.slice a5 l5 c5],.slice ad ds.length cd] V λe A=>e=.returned (.bool true)/\Below (N+1+1) V2 A:=λV h=>(aC6 hd (hD.below (hN▸(fx V h).1)) hl hz hw).mono λe A ⟨h1,h2⟩=>⟨h1,h.trans (h2.mono (by have:=h.size;omega))⟩;have hb2:=Below.refl (N+1+1) V2
 go_enter Tryz.func13,Tryz.ntmps13
 go_wp2_with (first
   |(go_at_call 37;refine(hs2 _ ?_).mono ?_;exact hb2;rintro e w1 ⟨rfl,hb3⟩;obtain⟨b2,x0,x1,x2,x3,x4,x5,x6⟩:=fx _ hb3)
   |(go_at_call 38;refine(hf2 _ ?_).mono ?_;exact hb3;rintro e w2 ⟨rfl,hb4⟩;obtain⟨b2,x0,x1,x2,x3,x4,x5,x6⟩:=fx _ hb4)
   |(go_at_call 39;refine(hw2 _ ?_).mono ?_;exact hb4;rintro e w3 ⟨rfl,hb5⟩;obtain⟨b2,x0,x1,x2,x3,x4,x5,x6⟩:=fx _ hb5)
   |(go_at_call 40;refine(TS _ _).mono ?_;rintro e w4 ⟨rfl,hA,hB4⟩))
 clear hs2 hf2 hw2 hs hf hmm hb2 hb3 hb4 x0 x1 x2 x3 x4 x5 x6 fx k0 k1 u0 u1 z1 z2 hV1 hV2 hl hz hw;obtain⟨S,hS⟩:∃S,w3.heap.size=S:=⟨_,rfl⟩;have hNS:N<=S:=by have:=b2.size;omega
 obtain⟨c,hc⟩:∃c:HC,c=⟨S+1+1,S,S+1,n0,n1,n2,.slice a3 l3 c3,.slice a4 l4 c4,.slice a5 l5 c5,.slice ax lx cx⟩:=⟨_,rfl⟩;have hcb:c.hb=S+1+1:=by rw[hc]
 have E':Env W N c d:=by rw[hc,<- hN];exact E _ _ _
 obtain⟨tg0,H0,t4⟩:∃tg0,Hist w4 N tg0 c ([].map Itm.raw) [] [] (.slice none 0 0)/\tg0 (c.hb+1)=0:=by
  have h:=Hist.start (W:=w3) (R:=N) Z c (by rw[hc,hS]) (by rw[hc,hS]) (by rw[hc,hS]);have e1:Obj.cells (mN c (.slice none 0 0)) 101=Obj.cells #[n0,n1,n2,.slice a3 l3 c3,.slice a4 l4 c4,.slice a5 l5 c5,.slice ax lx cx,.slice none 0 0,.map (some w3.heap.size),.map (some (w3.heap.size+1))] 101:=by rw[hc,hS];rfl
  rw[e1]at h;exact⟨_,h.fr (Frm.below (O:=λ_=>False) h.new hB4) (λt _ h=>h),h.new _ (by rw[qH,qH,qH,hcb,hS];omega)⟩
 have sz:(((w3.alloc (Obj.map #[] 0)).alloc (Obj.map #[] 0)).alloc (Obj.cells #[n0,n1,n2,.slice a3 l3 c3,.slice a4 l4 c4,.slice a5 l5 c5,.slice ax lx cx,.slice none 0 0,.map (some w3.heap.size),.map (some (w3.heap.size+1))] 101)).heap.size=S+1+1+1:=by rw[qH,qH,qH,hS]
 rw[sz]at hA hB4;rw[hS,<- hcb]at hA;have hwr:Below N W w4:=(((b2.alloc Z _).alloc (by rw[qH];omega) _).alloc (by rw[qH,qH];omega) _).trans (hB4.mono Z);have s4:c.hb+1<w4.heap.size:=by
  obtain⟨_,h,_⟩:=hA;exact h.lt
 rw[hS,<- hcb];clear hB4 sz b2 hb5 hS E;obtain⟨M,hM⟩:∃M,c.hb+1=M:=⟨_,rfl⟩;rw[hM];rw[hM]at hA s4 t4;clear hM hNS hcb hc
 go_loopw [42] (λu z=>∃(k:Nat) (s:Hst) (tg:Tag) (gs:List Gh) (iv:Value),k<=ds.length/\u=.int .i64 k/\FC d (sbD d) (ds.drop k) s=FC d (sbD d) ds ([],[])/\Wh d (ds.drop k) s/\s.1.length<=k/\s.2.length<=k/\OkS d k s.1/\Hist z N tg c (s.1.map Itm.raw) s.2 gs iv/\Below N W z/\aBs z M ⟨c.hb,0,none⟩/\tg M=0/\M<z.heap.size)
  (λu _=>ds.length-(intOf u).toNat)
 case atStart=>exact⟨0,([],[]),tg0,[],_,wK _,rfl,rfl,hok,qL _,qL _,(λi hi=>by cases hi),H0,hwr,hA,t4,s4⟩
 case round=>
  obtain⟨k,⟨its,cc⟩,tg,gs,iv,hk,rfl,hrun,hokk,hl1,hl2,oks,H,hB,hA,ht,hMs⟩:=hrel;dsimp only at hl1 hl2 oks H;by_cases hlt:k<ds.length;obtain⟨e,he⟩:∃e,ds[k]?=some e:=⟨ds[k],qB hlt⟩;have ed:ds.drop k=e::ds.drop (k+1):=by rw[List.drop_eq_getElem_cons hlt];rw[qB hlt]at he;rw[wE he]
  rw[ed]at hrun hokk;obtain⟨b,f,rfl,hbW,hcell⟩:=hD k e he;have G:∀(j:Nat) (u:Value),(aU e)[j]?=some u->wr.cell? ⟨b,f+k*10+j,none⟩=some u:=λj u h=>(hB.cell (p:=⟨b,f+k*10+j,none⟩) (by rw[<- hN];exact hbW)).trans (hcell j u h);obtain⟨wq,hwq⟩:∃wq,wr.alloc (.cells (aU e) 59)=wq:=⟨_,rfl⟩;have nb:wq.heap[wr.heap.size]?=some (.cells (aU e) 59 (0,0)):=by rw[<- hwq];exact World.alloc_heap_new wr _
  have Hq:Hist wq N tg c (its.map Itm.raw) cc gs iv:=hwq▸H.alloc _;have Bq:Below wr.heap.size wr wq:=hwq▸(Below.refl _ _).alloc (qL _) _;have BW:Below N W wq:=hB.trans (Bq.mono H.RW);have hq0:(0:Int)<=k:=Z;have hq1:(k:Int)<ds.length:=Z;have hpr:=IA (T:=e.2.1) E' Hq BW Z oks Z;have tB:tg wr.heap.size=0:=H.new _ (qL _);have sB:wr.heap.size<wq.heap.size:=by rw[<- hwq,qH];omega
  have mq:wq.cell? ⟨wr.heap.size,1,none⟩=some (.int .i64 e.2.1):=by simp[World.cell?,nb,aU]
  have bel:∀A L,Frm tg (λt=>4<t) wq A L->Below N W A:=λA L f=>cT H.low Hq.RW BW f Z;rcases hp:DT d (sbD d) e.2.1 (its,cc)with _|y
  ·have X:Calls Tryz.prog 41 #[.pointer (some ⟨c.hb,0,none⟩),.int .i64 e.2.1] wq λe' A=>e'=.returned (.bool false)/\Below N W A:=hpr.mono λe' A h=>by
    rcases h with⟨x,h,_⟩|⟨_,h,L,f⟩;rw[hp]at h;cases h;exact⟨h,bel A L f⟩
   have hF:Jf d (sbD d) ds=none:=by
    unfold Jf;rw[<- hrun];unfold FC stepD;rw[hp];rfl
   clear hpr hcell nb;obtain⟨k1,t1,⟨pl,pf,pt,pc,pa⟩,lb,ot,ln⟩:=e;have y0:wr.cell? ⟨b,f+k*10,none⟩=some (.int .i64 k1):=G 0 _ rfl;have y1:wr.cell? ⟨b,f+k*10+1,none⟩=some (.int .i64 t1):=G 1 _ rfl;have y2:wr.cell? ⟨b,f+k*10+2,none⟩=some (.string pl):=G 2 _ rfl;have y3:wr.cell? ⟨b,f+k*10+3,none⟩=some (.int .i64 pf):=G 3 _ rfl;have y4:wr.cell? ⟨b,f+k*10+4,none⟩=some (.int .i64 pt):=G 4 _ rfl;have y5:wr.cell? ⟨b,f+k*10+5,none⟩=some (.int .i64 pc):=G 5 _ rfl;have y6:wr.cell? ⟨b,f+k*10+6,none⟩=some (.int .i64 pa):=G 6 _ rfl;have y7:wr.cell? ⟨b,f+k*10+7,none⟩=some (.string lb):=G 7 _ rfl;have y8:wr.cell? ⟨b,f+k*10+8,none⟩=some (.string ot):=G 8 _ rfl;have y9:wr.cell? ⟨b,f+k*10+9,none⟩=some (.int .i64 ln):=G 9 _ rfl;clear G;unfold aU at hwq;dsimp only at X mq hwq
   go_wp2_with (go_at_call 41;refine X.mono ?_;rintro e' A ⟨rfl,hB'⟩)
   go_ret2
   exact⟨by rw[hN];exact hB',.inr ⟨hF,rfl⟩⟩
  obtain⟨okd,hok'⟩:=hokk y hp;have X:Calls Tryz.prog 41 #[.pointer (some ⟨c.hb,0,none⟩),.int .i64 e.2.1] wq λe' A=>e'=.returned (.bool true)/\∃L gs',Frm tg (λt=>4<t) wq A L/\Hist A N L c (y.map Itm.raw) cc gs' iv/\OkS d k y:=hpr.mono λe' A h=>by
   rcases h with⟨x,h,h1,h2⟩|⟨h,_⟩;rw[hp]at h;cases h;exact⟨h1,h2⟩;rw[hp]at h;cases h
  have hlen:y.length=its.length:=mapM_len hp;obtain⟨n,hn,m1,m2⟩:∃n:Nat,e.1=n/\1<=n/\n<=5:=⟨e.1.toNat,by
   obtain⟨_,ok⟩:=okd;omega⟩
  have hrun':FC d (sbD d) (ds.drop (k+1)) (rK d (y,cc) e)=FC d (sbD d) ds ([],[]):=by
   rw[<- hrun];conv=>rhs;unfold FC stepD
   rw[hp];rfl
  have al:=aAZ d (y,cc) e;have fa:∀w1 tg1 gs1,Frm tg (λt=>4<t) wq w1 tg1->Hist w1 N tg1 c (y.map Itm.raw) cc gs1 iv->OkS d k y->(∀(j:Nat) (u:Value),(aU e)[j]?=some u->w1.cell? ⟨wr.heap.size,j,none⟩=some u)/\
    (Instr.lookup 102 (.map (some M)) (.int .i64 n) false).run Tryz.prog w1=.ok (.func (.func (101+n)) #[.pointer (some ⟨c.hb,0,none⟩)] #[]) w1/\OkS d (k+1) (rK d (y,cc) e).1/\
    Calls Tryz.prog (101+n) #[.pointer (some ⟨c.hb,0,none⟩),.agg (aU e)] w1 λe' A=>e'=.returned (.tuple #[])/\∃tg gs iv,Hist A N tg c ((rK d (y,cc) e).1.map Itm.raw) (rK d (y,cc) e).2 gs iv/\Below N W A/\aBs A M ⟨c.hb,0,none⟩/\tg M=0/\M<A.heap.size:=by
   intro w1 tg1 gs1 F1 H1 ok1;have e1:w1.heap[wr.heap.size]?=wq.heap[wr.heap.size]?:=F1.lo sB (by rw[tB];omega);rw[nb]at e1;have sM:M<wq.heap.size:=qK hMs Bq.size;have A1:aBs w1 M ⟨c.hb,0,none⟩:=by
    obtain⟨D,g1,g2⟩:=hA;exact⟨D,dw g1 ((F1.lo sM (by rw[ht];omega)).trans (Bq.block M hMs)),g2⟩
   have t1:tg1 M=0:=(F1.tag M sM).trans ht;have B1:=bel w1 tg1 F1;have s1:M<w1.heap.size:=qK sM F1.chg.size;refine⟨λj u h=>by simp[World.cell?,e1,h],X7 A1 m1 m2,aDd E' ok1 okd,(aFw E' H1 B1 ok1 Z Z Z okd hn).mono ?_⟩;rintro e' A ⟨h,L,gs',iv',f,h'⟩;refine⟨h,L,gs',iv',h',cT H1.low H1.RW B1 f (by unfold Bh;omega),?_,(f.tag M s1).trans t1,qK s1 f.chg.size⟩;obtain⟨D,g1,g2⟩:=A1;exact⟨D,dw g1 (f.lo s1 (by rw[t1];unfold Bh;omega)),g2⟩
  have hen:∀args w,(callFunc (101+n) args).run Tryz.prog w=.ok (.enter (101+n) args) w:=by
   rcases(by omega:n=1\/n=2\/n=3\/n=4\/n=5)with rfl|rfl|rfl|rfl|rfl
   exact enters_of Tryz.func102 (by kernel_rfl) rfl;exact enters_of Tryz.func103 (by kernel_rfl) rfl;exact enters_of Tryz.func104 (by kernel_rfl) rfl;exact enters_of Tryz.func105 (by kernel_rfl) rfl;exact enters_of Tryz.func106 (by kernel_rfl) rfl
  obtain⟨q,hq⟩:∃q,101+n=q:=⟨_,rfl⟩;rw[hq]at fa hen;clear hpr hcell nb;obtain⟨k1,t1,⟨pl,pf,pt,pc,pa⟩,lb,ot,ln⟩:=e;have hn:k1=(n:Int):=hn;subst hn;have y0:wr.cell? ⟨b,f+k*10,none⟩=some (.int .i64 (n:Int)):=G 0 _ rfl;have y1:wr.cell? ⟨b,f+k*10+1,none⟩=some (.int .i64 t1):=G 1 _ rfl;have y2:wr.cell? ⟨b,f+k*10+2,none⟩=some (.string pl):=G 2 _ rfl;have y3:wr.cell? ⟨b,f+k*10+3,none⟩=some (.int .i64 pf):=G 3 _ rfl;have y4:wr.cell? ⟨b,f+k*10+4,none⟩=some (.int .i64 pt):=G 4 _ rfl;have y5:wr.cell? ⟨b,f+k*10+5,none⟩=some (.int .i64 pc):=G 5 _ rfl;have y6:wr.cell? ⟨b,f+k*10+6,none⟩=some (.int .i64 pa):=G 6 _ rfl;have y7:wr.cell? ⟨b,f+k*10+7,none⟩=some (.string lb):=G 7 _ rfl;have y8:wr.cell? ⟨b,f+k*10+8,none⟩=some (.string ot):=G 8 _ rfl;have y9:wr.cell? ⟨b,f+k*10+9,none⟩=some (.int .i64 ln):=G 9 _ rfl;clear G;dsimp only at X mq
  have fb:∀w1:World,(∀(j:Nat) (u:Value),(aU ((n:Int),t1,(pl,pf,pt,pc,pa),lb,ot,ln))[j]?=some u->w1.cell? ⟨wr.heap.size,j,none⟩=some u)->w1.cell? ⟨wr.heap.size,0,none⟩=some (.int .i64 n)/\w1.cell? ⟨wr.heap.size,1,none⟩=some (.int .i64 t1)/\w1.cell? ⟨wr.heap.size,2,none⟩=some (.string pl)/\w1.cell? ⟨wr.heap.size,3,none⟩=some (.int .i64 pf)/\w1.cell? ⟨wr.heap.size,4,none⟩=some (.int .i64 pt)/\w1.cell? ⟨wr.heap.size,5,none⟩=some (.int .i64 pc)/\w1.cell? ⟨wr.heap.size,6,none⟩=some (.int .i64 pa)/\w1.cell? ⟨wr.heap.size,7,none⟩=some (.string lb)/\w1.cell? ⟨wr.heap.size,8,none⟩=some (.string ot)/\w1.cell? ⟨wr.heap.size,9,none⟩=some (.int .i64 ln):=λw1 h=>⟨h 0 (.int .i64 n) rfl,h 1 _ rfl,h 2 _ rfl,h 3 _ rfl,h 4 _ rfl,h 5 _ rfl,h 6 _ rfl,h 7 _ rfl,h 8 _ rfl,h 9 _ rfl⟩;unfold aU at hwq fa;dsimp only at hwq fa
  go_wp2_with (first
   |(go_at_call 41;refine X.mono ?_;rintro e' w1 ⟨rfl,tg1,gs1,F1,H1,ok1⟩;obtain⟨f1,f2,f3,hcall⟩:=fa w1 tg1 gs1 F1 H1 ok1;obtain⟨m0,m1,m2,m3,m4,m5,m6,m7,m8,m9⟩:=fb w1 f1)
   |(refine hcall.mono ?_;rintro e' w2 ⟨rfl,tg2,gs2,iv2,H2,B2,A2,t2,s2⟩))
  go_roundw
  case rel=>exact⟨k+1,rK d (y,cc) _,tg2,gs2,iv2,Z,by simp,hrun',hok',by have:=al.1;omega,by have:=al.2;omega,f3,H2,B2,A2,t2,s2⟩
  case measure=>simp[intOf];omega
  obtain rfl:k=ds.length:=by omega
  rw[List.drop_length]at hrun;have hrun:some (its,cc)=FC d (sbD d) ds ([],[]):=hrun;have hpr:=IA (T:=sI) E' H hB Z oks Z;have bel:∀A L,Frm tg (λt=>4<t) wr A L->Below N W A:=λA L f=>cT H.low H.RW hB f Z;unfold sI at hpr;obtain⟨av,cv,hiv⟩:=H.rows.sl;subst hiv;have hgl:gs.length=its.length:=by have:=H.len;simpa using this
  rw[hgl]at hpr H;rcases hp:DT d (sbD d) sI (its,cc)with _|y
  ·have X:Calls Tryz.prog 41 #[.pointer (some ⟨c.hb,0,none⟩),.int .i64 9223372036854775807] wr λe' A=>e'=.returned (.bool false)/\Below N W A:=hpr.mono λe' A h=>by
    rcases h with⟨x,h,_⟩|⟨_,h,L,f⟩;exact absurd (hp.symm.trans h) (λe=>by cases e);exact⟨h,bel A L f⟩
   have hF:Jf d (sbD d) ds=none:=by
    unfold Jf;rw[<- hrun];exact hp
   clear hpr
   go_wp2_with (go_at_call 41;refine X.mono ?_;rintro e' A ⟨rfl,hB'⟩)
   go_ret2
   exact⟨by rw[hN];exact hB',.inr ⟨hF,rfl⟩⟩
  have X:Calls Tryz.prog 41 #[.pointer (some ⟨c.hb,0,none⟩),.int .i64 9223372036854775807] wr λe' A=>e'=.returned (.bool true)/\Below N W A/\A.cell? ⟨c.hb,7,none⟩=some (.slice av its.length cv)/\∃L gs',Hist A N L c (y.map Itm.raw) cc gs' (.slice av its.length cv)/\OkS d ds.length y:=hpr.mono λe' A h=>by
   rcases h with⟨x,h,h1,L,gs',f,h2,h3⟩|⟨h,_⟩;cases hp.symm.trans h;exact⟨h1,bel A L f,h2.cell (j:=7) rfl,L,gs',h2,h3⟩;exact absurd (hp.symm.trans h) (λe=>by cases e)
  have hF:Jf d (sbD d) ds=some y:=by
   unfold Jf;rw[<- hrun];exact hp
  have hlen:y.length=its.length:=mapM_len hp;clear hpr
  go_wp2_with (go_at_call 41;refine X.mono ?_;rintro e' w1 ⟨rfl,B1,x7,tg1,gs1,H1,ok1⟩)
  clear X hrun hokk H oks hA ht hMs hp bel;obtain⟨T0,hT0⟩:∃T0,5*y.length+5=T0:=⟨_,rfl⟩;have hgl1:gs1.length=y.length:=by have:=H1.len;simpa using this
  rw[<- hlen]at x7 H1 ⊢;have hl3:y.length<=120:=Z;clear hlen
  go_loopw [66,12] (λu v wr=>∃(q:Nat) (tz:Tag),q<=y.length/\u=.int .i64 q/\eU wr N tz T0 55 10 v q (((gs1.zip (y.map Itm.raw)).take q).flatMap λp=>Yj p.1 p.2)/\Frm tg1 (·=T0) w1 wr tz)
   (λu _ _=>y.length-(intOf u).toNat)
  case atStart=>exact⟨0,tg1,wK _,rfl,eU.nil,Frm.refl H1.new⟩
  case round=>
   obtain⟨q,tz,hq,rfl,hrow,F⟩:=hrel;have HI:∀(j:Nat) (g:Gh) (r:Raw),gs1[j]?=some g->(y.map Itm.raw)[j]?=some r->jF wr N tz j g r:=λj g r hg hr=>(H1.it j g r hg hr).fr F λt ht h=>by
    have:=(qC.1 hr).1;have:=ht.2;simp at *;omega
   by_cases hlt:q<y.length;obtain⟨i,hi⟩:∃i,y[q]?=some i:=⟨y[q],qB hlt⟩;obtain⟨g,hg⟩:∃g,gs1[q]?=some g:=⟨gs1[q]'Z,qB Z⟩;have hr:(y.map Itm.raw)[q]?=some i.raw:=aQ hi;have I:=HI q g _ hg hr;have er:=H1.rows.fr F Z;obtain⟨bi,ci,ei,_⟩:=er.pos Z;rw[hgl1]at ei;cases ei;have cp:wr.cell? ⟨bi,q,none⟩=some (.pointer (some ⟨g.b,0,none⟩)):=by
    rw[<- hgl1]at er;exact er.cell (by rw[qQ,hg];rfl)
   have q0:(0:Int)<=q:=Z;have q1:(q:Int)<y.length:=Z;obtain⟨s1,t1,e1⟩:=I.st.sl;obtain⟨s2,t2,e2⟩:=I.si.sl;obtain⟨s3,t3,e3⟩:=I.la.sl;obtain⟨s4,t4,e4⟩:=I.se.sl;obtain⟨gb,gst,gsi,gla,gse⟩:=g;dsimp only at e1 e2 e3 e4 cp;subst e1 e2 e3 e4;have x0:wr.cell? ⟨gb,0,none⟩=some (.string i.raw.po.1):=I.cell (j:=0) rfl;have x1:wr.cell? ⟨gb,1,none⟩=some (.int .i64 i.raw.po.2.1):=I.cell (j:=1) rfl;have x2:wr.cell? ⟨gb,2,none⟩=some (.int .i64 i.raw.po.2.2.1):=I.cell (j:=2) rfl;have x3:wr.cell? ⟨gb,3,none⟩=some (.int .i64 i.raw.po.2.2.2.1):=I.cell (j:=3) rfl;have x4:wr.cell? ⟨gb,4,none⟩=some (.int .i64 i.raw.po.2.2.2.2):=I.cell (j:=4) rfl;have x5:wr.cell? ⟨gb,5,none⟩=some (.slice s1 i.raw.st.length t1):=I.cell (j:=5) rfl;have x6:wr.cell? ⟨gb,6,none⟩=some (.bool i.raw.lo):=I.cell (j:=6) rfl;have x7:wr.cell? ⟨gb,7,none⟩=some (.slice s2 i.raw.si.length t2):=I.cell (j:=7) rfl;have x8:wr.cell? ⟨gb,8,none⟩=some (.slice s3 i.raw.la.length t3):=I.cell (j:=8) rfl;have x9:wr.cell? ⟨gb,9,none⟩=some (.slice s4 i.raw.se.length t4):=I.cell (j:=9) rfl;obtain⟨wy,hwy⟩:∃wy,wr.alloc (.cells #[.string i.raw.po.1,.int .i64 i.raw.po.2.1,.int .i64 i.raw.po.2.2.1,.int .i64 i.raw.po.2.2.2.1,.int .i64 i.raw.po.2.2.2.2,.slice s1 i.raw.st.length t1,.bool i.raw.lo,.slice s2 i.raw.si.length t2,.slice s3 i.raw.la.length t3,.slice s4 i.raw.se.length t4] 55)=wy:=⟨_,rfl⟩
   have nb:wy.heap[wr.heap.size]?=some (.cells #[.string i.raw.po.1,.int .i64 i.raw.po.2.1,.int .i64 i.raw.po.2.2.1,.int .i64 i.raw.po.2.2.2.1,.int .i64 i.raw.po.2.2.2.2,.slice s1 i.raw.st.length t1,.bool i.raw.lo,.slice s2 i.raw.si.length t2,.slice s3 i.raw.la.length t3,.slice s4 i.raw.se.length t4] 55 (0,0)):=by rw[<- hwy];exact World.alloc_heap_new wr _
   have Fy:Frm tz (λ_=>False) wr wy tz:=hwy▸Frm.alloc F.new _;have hN2:N<=wr.heap.size:=vP H1.RW F.chg.size;obtain⟨v',w7,tg7,hap,hv,_,F7,hv2⟩:=eU.app (P:=Tryz.prog) (T:=47) (ty:=47) Tryz.underlying47 aCI rfl rfl rfl rfl (by decide) Fy.new (hrow.fr Fy (λh=>h)) ⟨wr.heap.size,0,none⟩ 1 1 (Yj ⟨gb,.slice s1 i.raw.st.length t1,.slice s2 i.raw.si.length t2,.slice s3 i.raw.la.length t3,.slice s4 i.raw.se.length t4⟩ i.raw) rfl (λj u hj=>by
    have hj':(#[.string i.raw.po.1,.int .i64 i.raw.po.2.1,.int .i64 i.raw.po.2.2.1,.int .i64 i.raw.po.2.2.2.1,.int .i64 i.raw.po.2.2.2.2,.slice s1 i.raw.st.length t1,.bool i.raw.lo,.slice s2 i.raw.si.length t2,.slice s3 i.raw.la.length t3,.slice s4 i.raw.se.length t4]:Array Value)[j]?=some u:=by rw[<- yB];exact hj
    have he:((⟨wr.heap.size,0,none⟩:Addr).add j)=⟨wr.heap.size,j,none⟩:=by unfold Addr.add;split<;>simp_all
    rw[he];simp[World.cell?,nb,hj']) (λu hu=>by
    simp[Yj,qq]at hu;rcases hu with rfl|rfl|rfl|rfl|rfl|rfl|rfl|rfl|rfl|rfl<;>rfl) Z (by decide) (by have:=Fy.chg.size;omega)
   have htk:((gs1.zip (y.map Itm.raw)).take (q+1)).flatMap (λp=>Yj p.1 p.2)=((gs1.zip (y.map Itm.raw)).take q).flatMap (λp=>Yj p.1 p.2)++Yj ⟨gb,.slice s1 i.raw.st.length t1,.slice s2 i.raw.si.length t2,.slice s3 i.raw.la.length t3,.slice s4 i.raw.se.length t4⟩ i.raw:=by
    rw[wY,kX];have e:(gs1.zip (y.map Itm.raw))[q]?=some (⟨gb,.slice s1 i.raw.st.length t1,.slice s2 i.raw.si.length t2,.slice s3 i.raw.la.length t3,.slice s4 i.raw.se.length t4⟩,i.raw):=by rw[List.getElem?_zip_eq_some];exact⟨hg,hr⟩
    rw[e];simp
   rw[<- htk]at hv;have FF:Frm tg1 (·=T0) w1 w7 tg7:=F.trans ((Fy.sub λ_ h=>h.elim).trans F7)
   go_wp2_with (at_builtin;refine Lib.wpList_append_run _ rfl _ _ _ _ rfl _ _ rfl rfl _ _ hap ?_)
   go_roundw
   case rel=>
    exact⟨q+1,tg7,Z,by simp,hv,FF⟩
   case measure=>simp[intOf];omega
   obtain rfl:q=y.length:=by omega
   have BF:=cT H1.low H1.RW B1 F Z
   go_wp2
   go_ret2
   rw[hN];refine⟨BF,.inl ⟨y,_,gs1,hF,rfl,⟨by simpa using hgl1,?_,λj g r hg hr=>(HI j g r hg hr).st.own,λj g r hg hr=>(HI j g r hg hr).si.own,λj g r hg hr=>(HI j g r hg hr).la.own,λj g r hg hr=>(HI j g r hg hr).se.own⟩,hl3,ok1⟩⟩;rw[qM (by simp[hgl1])]at hrow;rw[vX];exact hrow.own
end Go.Eng.Top
