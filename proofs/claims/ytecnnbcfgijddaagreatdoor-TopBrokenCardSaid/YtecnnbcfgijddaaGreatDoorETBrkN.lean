/- TpC -/
import Derived.Test.YtecnnbcfgijddaaGreatDoorETBrkL
import Derived.Test.YtecnnbcfgijddaaGreatDoorETBrkM
import Derived.Laws.EntriesVeiled
set_option linter.unusedSimpArgs false
set_option linter.unusedVariables false
namespace Go.Eng.Top
open Go.Proofs Go.RowKit
variable {W W':World} {M p q b0:Nat} {ps:List ByteArray} {e:bZ} {lab:ByteArray->Bool}
def aBr(W:World)(h:Option Addr)(ds:List bZ):Prop:=∀(k:Nat) (e:bZ),ds[k]?=some e->∃b f,h=some ⟨b,f,none⟩/\b<W.heap.size/\∀(j:Nat) (u:Value),(aU e)[j]?=some u->W.cell? ⟨b,f+k*10+j,none⟩=some u
set_option maxRecDepth 100000 in
set_option maxHeartbeats 4000000 in
theorem aC6{n0 n1 n2:Value}{a3 a4 a5 ad:Option Addr}{l3 l4 l5 c3 c4 c5 cd:Nat}{ds:List bZ}(hd:ds.length<=120)(hD:aBr W ad ds)
  (hl:∀(W':World) (s:ByteArray),s.size<=1000->Calls Tryz.prog 99 #[.string s] W' λe w'=>e=.returned (.bool (lab s))/\Below W'.heap.size W' w') (hz:∀s,lab s=true->s.size<=1000) (hf:CP lab l3 l4 l5 [] 0 ds):
  Calls Tryz.prog 39 #[.agg #[n0,n1,n2,.slice a3 l3 c3,.slice a4 l4 c4,.slice a5 l5 c5],.slice ad ds.length cd] W λe w'=>e=.returned (.bool true)/\Below W.heap.size W w':=by
 have hmm:=@run_makeMap Tryz.prog;have h120:decide ((ds.length:Int)>120)=false:=qY Z;obtain⟨N,hN⟩:∃N,W.heap.size=N:=⟨_,rfl⟩;obtain⟨V1,hV1⟩:∃V1,W.alloc (.cells #[n0,n1,n2,.slice a3 l3 c3,.slice a4 l4 c4,.slice a5 l5 c5] 29)=V1:=⟨_,rfl⟩;obtain⟨V2,hV2⟩:∃V2,V1.alloc (.map #[] 0)=V2:=⟨_,rfl⟩;obtain⟨V3,hV3⟩:∃V3,V2.alloc (.cells #[.map (some (N+1))] 169)=V3:=⟨_,rfl⟩;obtain⟨V4,hV4⟩:∃V4,V3.alloc (.cells #[.func (.func 96) #[] #[]] 111)=V4:=⟨_,rfl⟩;obtain⟨V5,hV5⟩:∃V5,V4.alloc (.cells #[.func (.func 97) #[] #[.pointer (some ⟨N+1+1,0,none⟩)]] 170)=V5:=⟨_,rfl⟩;obtain⟨X,hV6⟩:∃X,V5.alloc (.map #[] 0)=X:=⟨_,rfl⟩;have z1:V1.heap.size=N+1:=by rw[<- hV1,qH,hN]
 have z2:V2.heap.size=N+1+1:=by rw[<- hV2,qH,z1]
 have z3:V3.heap.size=N+1+1+1:=by rw[<- hV3,qH,z2]
 have z4:V4.heap.size=N+1+1+1+1:=by rw[<- hV4,qH,z3]
 have z5:V5.heap.size=N+1+1+1+1+1:=by rw[<- hV5,qH,z4]
 have z6:X.heap.size=N+1+1+1+1+1+1:=by rw[<- hV6,qH,z5]
 have u5:Below (N+1+1+1+1+1) V5 X:=hV6▸(Below.refl _ _).alloc Z _;have u4:Below (N+1+1+1+1) V4 X:=Below.trans (hV5▸(Below.refl _ _).alloc Z _) (u5.mono Z);have u3:Below (N+1+1+1) V3 X:=Below.trans (hV4▸(Below.refl _ _).alloc Z _) (u4.mono Z);have u2:Below (N+1+1) V2 X:=Below.trans (hV3▸(Below.refl _ _).alloc Z _) (u3.mono Z);have u1:Below (N+1) V1 X:=Below.trans (hV2▸(Below.refl _ _).alloc Z _) (u2.mono Z);have u0:Below N W X:=Below.trans (hV1▸(Below.refl _ _).alloc Z _) (u1.mono Z);have k0:X.heap[N]?=some (.cells #[n0,n1,n2,.slice a3 l3 c3,.slice a4 l4 c4,.slice a5 l5 c5] 29 (0,0)):=(u1.block N Z).trans (by rw[<- hV1,<- hN];exact World.alloc_heap_new W _);have k2:X.heap[N+1+1]?=some (.cells #[.map (some (N+1))] 169 (0,0)):=(u3.block _ Z).trans (by rw[<- hV3,<- z2];exact World.alloc_heap_new V2 _);have k3:X.heap[N+1+1+1]?=some (.cells #[.func (.func 96) #[] #[]] 111 (0,0)):=(u4.block _ Z).trans (by rw[<- hV4,<- z3];exact World.alloc_heap_new V3 _);have k4:X.heap[N+1+1+1+1]?=some (.cells #[.func (.func 97) #[] #[.pointer (some ⟨N+1+1,0,none⟩)]] 170 (0,0)):=(u5.block _ Z).trans (by rw[<- hV5,<- z4];exact World.alloc_heap_new V4 _);have pm6:PM X (N+1) []:=by
  have h:PM V2 (N+1) []:=⟨.map [],by rw[<- hV2,<- z1];exact World.ownsMap_made _ _ _ _,⟨_,rfl⟩,λs=>rfl⟩;exact h.same (u2.block _ Z)
 have g0:X.ownsMap Tryz.prog 3 (fnR (XR (N+1+1) (N+1+1+1) (N+1+1+1+1) N)) (N+1+1+1+1+1) 0 (.map []):=by rw[<- hV6,<- z5];exact World.ownsMap_made _ _ _ _
 obtain⟨Y1,r1,g1,e1⟩:=lZ g0 Z (k:=1) rfl 98;obtain⟨Y2,r2,g2,e2⟩:=lZ g1 Z (k:=2) rfl 97;obtain⟨Y3,r3,g3,e3⟩:=lZ g2 Z (k:=3) rfl 97;obtain⟨Y4,r4,g4,e4⟩:=lZ g3 Z (k:=4) rfl 100;obtain⟨Y5,r5,g5,e5⟩:=lZ g4 Z (k:=5) rfl 101;have kp:∀{A B:World}{m:Nat}{D:DataW Unit}{R:Value->Option (DataW Unit×List MemPlace)}{b:Nat},A.ownsMap Tryz.prog 3 R b m D->A.grownBy B (some b)->∀{a:Addr}{v:Value},A.cell? a=some v->B.cell? a=some v:=by
  intro A B m D R b h hg a v hc;obtain⟨es,clock,hb,_⟩:=h;exact cell_kept hc hg (λr e=>by cases e;exact⟨_,hb,rfl⟩)
 have x0:X.cell? ⟨N+1+1+1+1,0,none⟩=some (.func (.func 97) #[] #[.pointer (some ⟨N+1+1,0,none⟩)]):=by simp[World.cell?,k4]
 have x1:=kp g0 e1 x0;have x2:=kp g1 e2 x1;have x3:=kp g2 e3 x2;have x4:=kp g3 e4 x3;have cY:Chg (·=N+1+1+1+1+1) X Y5:=by
  have st:∀{A B:World},Chg (·=N+1+1+1+1+1) X A->A.grownBy B (some (N+1+1+1+1+1))->Chg (·=N+1+1+1+1+1) X B:=λh g=>⟨g.os.trans h.os,g.tape.trans h.tape,g.output.trans h.output,vP h.size g.size,λb hb hno=>(g.block b (qK hb h.size) (λe=>hno (by cases e;rfl))).trans (h.block b hb hno)⟩;exact st (st (st (st (st (Chg.refl _ _) e1) e2) e3) e4) e5
 have c1:XR (N+1+1) (N+1+1+1) (N+1+1+1+1) N 98=#[.pointer (some ⟨N+1+1,0,none⟩),.pointer (some ⟨N+1+1+1,0,none⟩),.pointer (some ⟨N,0,none⟩)]:=rfl;have c2:XR (N+1+1) (N+1+1+1) (N+1+1+1+1) N 97=#[.pointer (some ⟨N+1+1,0,none⟩)]:=rfl;have c3':XR (N+1+1) (N+1+1+1) (N+1+1+1+1) N 100=#[.pointer (some ⟨N+1+1+1+1,0,none⟩),.pointer (some ⟨N+1+1,0,none⟩)]:=rfl;have c4':XR (N+1+1) (N+1+1+1) (N+1+1+1+1) N 101=#[.pointer (some ⟨N+1+1+1,0,none⟩),.pointer (some ⟨N,0,none⟩)]:=rfl;rw[c1]at r1;rw[c2]at r2 r3;rw[c3']at r4;rw[c4']at r5;clear u1 u2 u3 u4 u5;have hr5:Y5.ownsMap Tryz.prog 3 (fnR (XR (N+1+1) (N+1+1+1) (N+1+1+1+1) N)) (N+1+1+1+1+1) 5 FH:=g5;have s5:N+1+1+1+1+1+1<=Y5.heap.size:=by have:=cY.size;omega
 have b5:∀b,b<N+1+1+1+1+1->Y5.heap[b]?=X.heap[b]?:=λb hb=>cY.block b Z Z;have pm5:PM Y5 (N+1) []:=pm6.same (b5 _ Z);have fc:∀y:World,Chg (·=N+1) Y5 y->y.cell? ⟨N+1+1,0,none⟩=some (.map (some (N+1)))/\y.cell? ⟨N+1+1+1,0,none⟩=some (.func (.func 96) #[] #[])/\y.cell? ⟨N+1+1+1+1,0,none⟩=some (.func (.func 97) #[] #[.pointer (some ⟨N+1+1,0,none⟩)])/\
   y.cell? ⟨N,3,none⟩=some (.slice a3 l3 c3)/\y.cell? ⟨N,4,none⟩=some (.slice a4 l4 c4)/\y.cell? ⟨N,5,none⟩=some (.slice a5 l5 c5)/\y.ownsMap Tryz.prog 3 (fnR (XR (N+1+1) (N+1+1+1) (N+1+1+1+1) N)) (N+1+1+1+1+1) 5 FH/\∀b,b<N->y.heap[b]?=W.heap[b]?:=λy hw=>by
  have e0:=((hw.block N Z Z).trans (b5 _ Z)).trans k0;have e2:=((hw.block (N+1+1) Z Z).trans (b5 _ Z)).trans k2;have e3:=((hw.block (N+1+1+1) Z Z).trans (b5 _ Z)).trans k3;have e4:=((hw.block (N+1+1+1+1) Z Z).trans (b5 _ Z)).trans k4;exact⟨by simp[World.cell?,e2],by simp[World.cell?,e3],by simp[World.cell?,e4],by simp[World.cell?,e0],by simp[World.cell?,e0],by simp[World.cell?,e0],dw hr5 (hw.block _ Z Z),λb hb=>((hw.block b Z Z).trans (b5 b Z)).trans (u0.block b hb)⟩
 go_enter Tryz.func39,Tryz.ntmps39
 go_wp2
 clear k0 k2 k3 k4 pm6 g0 g1 g2 g3 g4 g5 r1 r2 r3 r4 r5 e1 e2 e3 e4 e5 x0 x1 x2 x3 x4 c1 c2 c3' c4' hV1 hV2 hV3 hV4 hV5 hV6 z1 z2 z3 z4 z5 kp
 go_loopw [28,9] (λu v y=>∃(k:Nat) (last:Int) (ps:List ByteArray),k<=ds.length/\u=.int .i64 k/\v=.int .i64 last/\CP lab l3 l4 l5 ps last (ds.drop k)/\(∀s∈ps,s.size<=1000)/\PM y (N+1) ps/\Chg (·=N+1) Y5 y)
  (λu _ _=>ds.length-(intOf u).toNat)
 case atStart=>exact⟨0,0,[],wK _,rfl,rfl,hf,(λs h=>by cases h),pm5,Chg.refl _ _⟩
 case round=>
  obtain⟨k,last,ps,hk,rfl,rfl,hfk,hzp,hm,hc⟩:=hrel;by_cases hlt:k<ds.length
  .obtain⟨e,he⟩:∃e,ds[k]?=some e:=⟨ds[k],qB hlt⟩;have ed:ds.drop k=e::ds.drop (k+1):=by rw[List.drop_eq_getElem_cons hlt];rw[qB hlt]at he;rw[wE he]
   rw[ed]at hfk;obtain⟨ok,hfk⟩:=hfk;obtain⟨b,f,rfl,hbW,hcell⟩:=hD k e he;have hbN:b<N:=Z;obtain⟨q0,q1,q2,q3,q4,q5,q6,q7⟩:=fc wr hc;have z:∀(j:Nat) (u:Value),(aU e)[j]?=some u->wr.cell? ⟨b,f+k*10+j,none⟩=some u:=λj u h=>by
    have:=hcell j u h;unfold World.cell? at this ⊢;rw[q7 b hbN];exact this
   obtain⟨L,hwq⟩:∃L,wr.alloc (.cells (aU e) 59)=L:=⟨_,rfl⟩;have Bq:Below wr.heap.size wr L:=hwq▸(Below.refl _ _).alloc (qL _) _;have cq:Chg (·=N+1) Y5 L:=hc.below Bq;obtain⟨p0,p1,p2,p3,p4,p5,p6,p7⟩:=fc L cq;have pmq:PM L (N+1) ps:=hm.same (Bq.block _ hm.lt);obtain⟨kk,hkk,kk1,kk2⟩:∃kk:Nat,e.1=kk/\1<=kk/\kk<=5:=⟨e.1.toNat,by
    obtain⟨_,_,ok⟩:=ok;omega⟩
   have hlk:=QT p6 kk1 kk2;have G:=aC1 p0 pmq p1 p2 p3 p4 p5 hl hz hzp ok hkk;have hd1:decide (e.2.1<last)=false:=qY (by have:=ok.1;omega);have hd2:decide (e.2.1>1000000)=false:=qY (by have:=ok.2.1;omega);have hen:∀args w,(callFunc (yh kk) args).run Tryz.prog w=.ok (.enter (yh kk) args) w:=by
    rcases(by omega:kk=1\/kk=2\/kk=3\/kk=4\/kk=5)with rfl|rfl|rfl|rfl|rfl
    exact enters_of Tryz.func98 (by kernel_rfl) rfl;exact enters_of Tryz.func97 (by kernel_rfl) rfl;exact enters_of Tryz.func97 (by kernel_rfl) rfl;exact enters_of Tryz.func100 (by kernel_rfl) rfl;exact enters_of Tryz.func101 (by kernel_rfl) rfl
   obtain⟨cf,hcf⟩:∃cf,yh kk=cf:=⟨_,rfl⟩;rw[hcf]at hlk G hen;obtain⟨cp,hcp⟩:∃cp,XR (N+1+1) (N+1+1+1) (N+1+1+1+1) N cf=cp:=⟨_,rfl⟩;rw[hcp]at hlk G;have nb:L.heap[wr.heap.size]?=some (.cells (aU e) 59 (0,0)):=by rw[<- hwq];exact World.alloc_heap_new wr _
   have hq0:(0:Int)<=k:=Z;have hq1:(k:Int)<ds.length:=Z;have fin:∀w':World,PM w' (N+1) (nxP ps e)/\Chg (·=N+1) L w'->w'.cell? ⟨wr.heap.size,1,none⟩=some (.int .i64 e.2.1)/\PM w' (N+1) (nxP ps e)/\Chg (·=N+1) Y5 w':=λw' ⟨h1,h2⟩=>by
    have hb2:w'.heap[wr.heap.size]?=L.heap[wr.heap.size]?:=h2.block _ (by have:=Bq.size;rw[<- hwq,qH];omega) (by have:=hc.size;omega);rw[nb]at hb2;exact⟨by simp[World.cell?,hb2,aU],h1,cq.trans' (h2.sub λb _ h=>.inl h)⟩
   have hzp':∀s∈nxP ps e,s.size<=1000:=λs hs=>by
    unfold nxP at hs;split at hs
    .rename_i h1;rcases qI.1 hs with h|h;exact hzp s h
     .obtain⟨_,_,ok⟩:=ok;rw[qX.1 h];rcases ok with⟨_,g,_⟩|⟨g,_⟩|⟨g,_⟩|⟨g,_⟩;exact hz _ g;all_goals omega
    exact hzp s hs
   clear q0 q1 q2 q3 q4 q5 q6 q7 p0 p1 p2 p3 p4 p5 p6 p7 hcell fc;obtain⟨k1,t1,⟨pl,pf,pt,pc,pa⟩,lb,ot,ln⟩:=e;have hkk:k1=(kk:Int):=hkk;subst hkk;have y0:wr.cell? ⟨b,f+k*10,none⟩=some (.int .i64 kk):=z 0 _ rfl;have y1:wr.cell? ⟨b,f+k*10+1,none⟩=some (.int .i64 t1):=z 1 _ rfl;have y2:wr.cell? ⟨b,f+k*10+2,none⟩=some (.string pl):=z 2 _ rfl;have y3:wr.cell? ⟨b,f+k*10+3,none⟩=some (.int .i64 pf):=z 3 _ rfl;have y4:wr.cell? ⟨b,f+k*10+4,none⟩=some (.int .i64 pt):=z 4 _ rfl;have y5:wr.cell? ⟨b,f+k*10+5,none⟩=some (.int .i64 pc):=z 5 _ rfl;have y6:wr.cell? ⟨b,f+k*10+6,none⟩=some (.int .i64 pa):=z 6 _ rfl;have y7:wr.cell? ⟨b,f+k*10+7,none⟩=some (.string lb):=z 7 _ rfl;have y8:wr.cell? ⟨b,f+k*10+8,none⟩=some (.string ot):=z 8 _ rfl;have y9:wr.cell? ⟨b,f+k*10+9,none⟩=some (.int .i64 ln):=z 9 _ rfl;have ld:∀(j:Nat) (u:Value),(aU ((kk:Int),t1,(pl,pf,pt,pc,pa),lb,ot,ln))[j]?=some u->L.cell? ⟨wr.heap.size,j,none⟩=some u:=λj u h=>by simp[World.cell?,nb,h]
   have m0:L.cell? ⟨wr.heap.size,0,none⟩=some (.int .i64 kk):=ld 0 _ rfl;have m1:L.cell? ⟨wr.heap.size,1,none⟩=some (.int .i64 t1):=ld 1 _ rfl;have m2:L.cell? ⟨wr.heap.size,2,none⟩=some (.string pl):=ld 2 _ rfl;have m3:L.cell? ⟨wr.heap.size,3,none⟩=some (.int .i64 pf):=ld 3 _ rfl;have m4:L.cell? ⟨wr.heap.size,4,none⟩=some (.int .i64 pt):=ld 4 _ rfl;have m5:L.cell? ⟨wr.heap.size,5,none⟩=some (.int .i64 pc):=ld 5 _ rfl;have m6:L.cell? ⟨wr.heap.size,6,none⟩=some (.int .i64 pa):=ld 6 _ rfl;have m7:L.cell? ⟨wr.heap.size,7,none⟩=some (.string lb):=ld 7 _ rfl;have m8:L.cell? ⟨wr.heap.size,8,none⟩=some (.string ot):=ld 8 _ rfl;have m9:L.cell? ⟨wr.heap.size,9,none⟩=some (.int .i64 ln):=ld 9 _ rfl;clear z ld nb;unfold aU at hwq G;dsimp only at hd1 hd2 hwq G fin
   go_wp2_with (refine G.mono ?_;rintro e w' ⟨rfl,hw⟩;obtain⟨hx,hp,hc'⟩:=fin _ hw)
   go_roundw
   case rel=>exact⟨k+1,t1,nxP ps _,Z,by simp,rfl,hfk,hzp',hp,hc'⟩
   case measure=>simp[intOf];omega
  obtain rfl:k=ds.length:=by omega
  go_wp2
  go_ret
  have s6:=u0.size;rw[hN];exact⟨rfl,hc.os.trans (cY.os.trans u0.os),hc.tape.trans (cY.tape.trans u0.tape),hc.output.trans (cY.output.trans u0.output),vP (vP s6 cY.size) hc.size,λb hb=>(hc.block b Z Z).trans ((cY.block b Z Z).trans (u0.block b hb))⟩
end Go.Eng.Top
