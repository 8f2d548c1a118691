/- PeCoV PeSvT PeSvDist PeSv1n PeSv2n PeSv3n PeMxn PeMxSn PeSv4n PeSv5n PeSvKn PeSvSn PeTt1n PeTt2n PeTr1n -/
import Derived.Test.YtlakcpmgefpfaaaGreatDoorECSortsA
import Derived.Test.YtlakcpmgefpfaaaGreatDoorECSortsB
import Derived.Test.YtlakcpmgefpfaaaGreatDoorECSortsC
import Derived.Lib.AppendZeros
import Derived.Lib.SliceRun
import Derived.Lib.Walk
import Derived.WalkKit
import Derived.Shelf.SlIter.Collect
import Derived.Test.YtlakcpmgefpfaaaGreatDoorProg
import Derived.Test.YtlakcpmgefpfaaaGreatDoorChecked
set_option linter.unusedSimpArgs false
set_option linter.unusedVariables false
namespace Go.Proofs
open Go.RowKit Go.Lib
def CY(n₀:Nat)(W:World)(v:Value)(zs:List Int): Prop:=
 ∃(a:Option Addr) (c:Nat),v=.slice a zs.length c/\(zs.length=0\/∃b o,a=some ⟨b,o,none⟩/\b<n₀/\∀j:Nat,j<zs.length->W.cell? ⟨b,o+j,none⟩=some (.int .i64 (zs.getD j 0)))
theorem CY.below {n₀:Nat} {A B:World} (h:Below n₀ A B) {v:Value} {zs:List Int}:CY n₀ A v zs->CY n₀ B v zs:=by
 rintro⟨a,c,h1,h2⟩;refine⟨a,c,h1,?_⟩;rcases h2 with h2 | ⟨b,o,h3,h4,h5⟩
 .exact .inl h2
 .exact .inr ⟨b,o,h3,h4,λj hj=>(h.cell (p:=⟨b,o+j,none⟩) h4).trans (h5 j hj)⟩
theorem EB: ∃i,Tryz.prog.info? 3=some i/\i.zero=some (.int .i64 0)/\i.size=1/\i.bytes=8:=by
 have h:(Tryz.prog.info? 3).map (λi=>(i.zero,i.size,i.bytes))=some (some (.int .i64 0),1,8):=by kernel_rfl
 cases e:Tryz.prog.info? 3 with
 | none=>rw[e]at h;cases h
 | some i=>rw[e]at h;cases i;simp only[Option.map_some,Option.some.injEq,Prod.mk.injEq]at h;exact⟨_,rfl,h.1,h.2.1,h.2.2⟩
theorem VC{w:World}{base:Nat}(ty:TypeId){v:Value}{n:Nat}{xs:List Value}(hown:w.ownsRow base 3 1 v n xs)(a:Addr)(m c:Nat)(news:List Value)(hl:news.length=m)(hnews:∀j u,news[j]?=some u->w.cell? (a.add j)=some u)(h1:∀u∈news,u.oneCell'=true)
  (hb:n+m<=1000000) (hbase:base<=w.heap.size):
  ∃v' w',(Builtin.append_ #[145,145] ty #[v,.slice (some a) m c]).run Tryz.prog w=.ok v' w'/\w'.ownsRow base 3 1 v' (n+m) (xs++news)/\w.grownBy w' v.ownBlock/\
   (v'=.slice none 0 0↔v=.slice none 0 0/\m=0)/\(v'.ownBlock=v.ownBlock\/v'.ownBlock=some w.heap.size):=by
 obtain⟨i,hi,hz,hs,hby⟩:=EB;have hl1:news.length=m*1:=by omega
 have hx:n+m<=maxLen:=by unfold maxLen;omega
 obtain⟨v',w',hr,h2,h3,h4⟩:=run_append_own (P:=Tryz.prog) w base 145 ty 3 i (.int .i64 0) 1 8 Tryz.underlying145 hi hz hs hby rfl (by decide) v n xs hown a m c news hl1 hnews h1 hx (by omega) hbase;refine⟨v',w',hr,h2,h3,h4,?_⟩;have hl2:news.length=m*i.size:=by rw[hs];exact hl1
 rcases hown.2 with⟨rfl,rfl⟩ | ⟨g,cap,cur,rfl,hbg,hg,hnc,hcm,hcs,htake⟩
 .by_cases hm:m=0
  .left;rw[h4.2 ⟨rfl,hm⟩]
  .right
   have hr2:=run_append_nil (P:=Tryz.prog) w 145 ty 3 i (.int .i64 0) Tryz.underlying145 hi hz a m c news hl2 hnews (by omega) (by omega) (by rw[hby];omega);rw[hr2]at hr;cases hr;rfl
 .by_cases hroom:n+m<=cap
  .left
   have hr2:=run_append_room (P:=Tryz.prog) w 145 ty 3 i Tryz.underlying145 hi g n cap cur hg a m c news hl2 hnews h1 hroom (by rw[hl2,hs];omega);rw[hr2]at hr;cases hr;rfl
  .right
   have holds:∀j u,xs[j]?=some u->w.cell? ((⟨g,0,none⟩:Addr).add j)=some u:=hown.cells (g:=g) rfl;have hr2:=run_append_grow (P:=Tryz.prog) w 145 ty 3 i (.int .i64 0) Tryz.underlying145 hi hz ⟨g,0,none⟩ n cap xs (by rw[hs];exact hown.1) holds a m c news hl2 hnews (by omega) (by omega) (growslice_fits (by omega) (by rw[hby];omega));rw[hr2]at hr;cases hr;rfl
def kp(n₀:Nat)(W:World)(rows:Nat->List Int): Prop:=
 ∃vs:Nat->Value,(∃cur:Array Value,cur.size=64/\W.heap[n₀]?=some (.cells cur 191 (0,0))/\∀j,j<64->cur[j]?=some (vs j))/\
  (∀j,j<64->W.ownsRow (n₀+1) 3 1 (vs j) (rows j).length ((rows j).map (Value.int .i64))/\(vs j=.slice none 0 0↔rows j=[]))/\
  ∀i j,i<64->j<64->i≠j->(vs i).ownBlock=none\/(vs i).ownBlock≠(vs j).ownBlock
theorem kp.cell {n₀:Nat} {W:World} {cur:Array Value} {j:Nat} {v:Value} (h:W.heap[n₀]?=some (.cells cur 191 (0,0))) (hj:cur[j]?=some v):W.cell? ⟨n₀,j,none⟩=some v/\W.frozen? ⟨n₀,j,none⟩=false:=by
 constructor<;>simp[World.cell?,World.frozen?,h,hj]
theorem aBr{n₀:Nat}{W:World}{rows:Nat->List Int}(h:kp n₀ W rows){j:Nat}(hj:j<64)(x:Int)(hlen:(rows j).length<10000)(ty:TypeId):
  ∃v v' W',(∃a q c,v=.slice a q c)/\(∃a q c,v'=.slice a q c)/\W.cell? ⟨n₀,j,none⟩=some v/\(W.alloc (.cells #[.int .i64 x] 3)).cell? ⟨n₀,j,none⟩=some v/\
   (Builtin.append_ #[145,145] ty #[v,.slice (some ⟨W.heap.size,0,none⟩) 1 1]).run Tryz.prog (W.alloc (.cells #[.int .i64 x] 3))=.ok v' W'/\
   W'.cell? ⟨n₀,j,none⟩=some v/\W'.frozen? ⟨n₀,j,none⟩=false/\Below n₀ W (W'.setCell ⟨n₀,j,none⟩ v')/\kp n₀ (W'.setCell ⟨n₀,j,none⟩ v') (λi=>if i=j then rows i++[x]else rows i):=by
 obtain⟨vs,⟨cur,hs,hb,hc⟩,hr,hd⟩:=h;have hn:n₀<W.heap.size:=(Array.getElem?_eq_some_iff.1 hb).1;obtain⟨ho,hnil⟩:=hr j hj;have hb1:(W.alloc (.cells #[.int .i64 x] 3)).heap[n₀]?=some (.cells cur 191 (0,0)):=(heap_alloc_old W _ hn).trans hb;obtain⟨v',W',hrun,ho',hg,hnil',hbl⟩:=VC ty (ho.alloc (.cells #[.int .i64 x] 3)) ⟨W.heap.size,0,none⟩ 1 1 [.int .i64 x] rfl (λi u hu=>by
  match i,hu with
  | 0,hu=>
   have hu:some (Value.int .i64 x)=some u:=hu;cases hu;have e:(⟨W.heap.size,0,none⟩:Addr).add 0=⟨W.heap.size,0,none⟩:=by simp[Addr.add]
   rw[e];unfold World.cell?;rw[heap_alloc_new W];rfl
  | i+1,hu=>simp at hu) (λu hu=>by simp at hu;subst hu;rfl) (by omega) (by simp;omega)
 have hown_lt:=(ho.alloc (.cells #[.int .i64 x] 3)).lt;have hb2:W'.heap[n₀]?=some (.cells cur 191 (0,0)):=by
  rw[hg.block n₀ (by simp;omega) (λe=>by have:=(hown_lt n₀ e.symm).1;omega)];exact hb1
 have c0:=kp.cell hb (hc j hj);have c1:=kp.cell hb1 (hc j hj);have c2:=kp.cell hb2 (hc j hj);have sl:∀{W:World} {v:Value} {n:Nat} {xs:List Value},W.ownsRow (n₀+1) 3 1 v n xs->∃a q c,v=.slice a q c:=λh=>by
  rcases h.2 with⟨rfl,_⟩ | ⟨g,cap,_,rfl,_⟩
  .exact⟨_,_,_,rfl⟩
  .exact⟨_,_,_,rfl⟩
 refine⟨vs j,v',W',sl ho,sl ho',c0.1,c1.1,hrun,c2.1,c2.2,?_,?_⟩
 .refine Below.setCell (((Below.refl n₀ W).alloc (by omega) _).grown hg (by simp;omega) (λk e=>by have:=(hown_lt k e).1;omega)) (Nat.le_refl _) v'
 .have hset:(W'.setCell ⟨n₀,j,none⟩ v').heap[n₀]?=some (.cells (cur.setIfInBounds j v') 191 (0,0)):=heap_setCell_same W' n₀ j cur 191 v' hb2;refine⟨λi=>if i=j then v' else vs i,⟨cur.setIfInBounds j v',by simpa using hs,hset,λi hi=>?_⟩,λi hi=>?_,λi k hi hk hne=>?_⟩
  .rw[Array.getElem?_setIfInBounds];by_cases e:i=j
   .subst e;simp only[↓reduceIte];rw[if_pos (by omega)]
   .dsimp only;rw[if_neg (λh=>e h.symm),if_neg e];exact hc i hi
  .by_cases e:i=j
   .subst e;simp only[↓reduceIte];refine⟨?_,?_⟩
    .have:=ownsRow_setCell_below ho' (a:=⟨n₀,i,none⟩) (by show n₀<n₀+1;omega) v';rw[List.length_append,List.map_append];exact this
    .rw[hnil'];simp
   .simp only[if_neg e];obtain⟨oi,ni⟩:=hr i hi;refine⟨ownsRow_setCell_below ((oi.alloc _).kept hg (hd i j hi hj e)) (a:=⟨n₀,j,none⟩) (by show n₀<n₀+1;omega) v',ni⟩
  .have old:∀q,q<64->∀b,(vs q).ownBlock=some b->b<W.heap.size:=λq hq b hb=>((hr q hq).1.lt b hb).2
   have sz:(W.alloc (.cells #[.int .i64 x] 3)).heap.size=W.heap.size+1:=by simp
   by_cases e:i=j
   .subst e;simp only[↓reduceIte,if_neg (λh=>hne h.symm:¬k=i)];rcases hbl with hbl | hbl
    .rw[hbl];exact hd i k hi hk hne
    .right;rw[hbl,sz]
     intro h;have:=old k hk _ h.symm;omega
   .simp only[if_neg e];by_cases e2:k=j
    .subst e2;simp only[↓reduceIte];rcases hbl with hbl | hbl
     .rw[hbl];exact hd i k hi hk hne
     .cases hv:(vs i).ownBlock with
      | none=>exact .inl rfl
      | some b=>
       right;rw[hbl,sz]
       intro h;cases h;have:=old i hi _ hv;omega
    .simp only[if_neg e2];exact hd i k hi hk hne
theorem kp.below {n₀:Nat} {W W':World} {rows:Nat->List Int} (h:kp n₀ W rows) (hB:Below W.heap.size W W'):kp n₀ W' rows:=by
 obtain⟨vs,⟨cur,hs,hb,hc⟩,hr,hd⟩:=h;have hn:n₀<W.heap.size:=(Array.getElem?_eq_some_iff.1 hb).1;refine⟨vs,⟨cur,hs,(hB.block _ hn).trans hb,hc⟩,λj hj=>⟨?_,(hr j hj).2⟩,hd⟩;obtain⟨⟨o1,o2⟩,_⟩:=hr j hj;refine⟨o1,?_⟩;rcases o2 with o2 | ⟨g,cap,c,h1,h2,h3,r⟩
 .exact .inl o2
 .exact .inr ⟨g,cap,c,h1,h2,(hB.block _ (Array.getElem?_eq_some_iff.1 h3).1).trans h3,r⟩
theorem aBs(W:World)(cur:Array Value)(hc:cur=Array.replicate 64 (.slice none 0 0)): kp W.heap.size (W.alloc (.cells cur 191)) λ_=>[]:=by
 subst hc;refine⟨λ_=>.slice none 0 0,⟨_,by simp,heap_alloc_new W _,λj hj=>by simp[hj]⟩,λj _=>⟨World.ownsRow_nil _ _ _ _,by simp⟩,λi j _ _ _=>.inl rfl⟩
def iK(key:Int->Int)(l:List Int)(k:Nat)(j:Nat): List Int:=(l.take k).filter λx=>decide (key x=(j:Int))
theorem EC{key:Int->Int}{l:List Int}{k J:Nat}(hk:k<l.length)(hJ:key (l.getD k 0)=J): (λi=>if i=J then iK key l k i++[l.getD k 0]else iK key l k i)=iK key l (k+1):=by
 funext i
 unfold iK;have e:l.getD k 0=l[k]:=by rw[List.getD_eq_getElem?_getD,List.getElem?_eq_getElem hk];rfl
 rw[List.take_add_one,List.getElem?_eq_getElem hk,List.filter_append,Option.toList_some,List.filter_cons,<- e,hJ,List.filter_nil];by_cases h:i=J
 .rw[if_pos h,if_pos (decide_eq_true (by omega))]
 .rw[if_neg h,if_neg (by rw[decide_eq_true_eq];omega),List.append_nil]
theorem Ys(w:World)(ty:TypeId)(g n cap:Nat)(cur:Array Value)(hg:w.heap[g]?=some (.cells cur 3 (0,0)))(hn:n<=cap)(hc:n<=cur.size):
  (Builtin.append_ #[145,145] ty #[.slice (some ⟨g,0,none⟩) n cap,.slice none 0 0]).run Tryz.prog w=.ok (.slice (some ⟨g,0,none⟩) n cap) w:=by
 obtain⟨i,hi,hz,hs,hby⟩:=EB;simp[Builtin.append_,run_underlying Tryz.underlying145,sizeOf,typeInfo,hi,Builtin.lenOf,Builtin.firstCells,hn,storeCells]
def qx(key:Int->Int)(l:List Int)(j:Nat): List Int:=(List.range j).flatMap λi=>iK key l l.length i
theorem vq(key:Int->Int)(l:List Int)(j:Nat): qx key l (j+1)=qx key l j++iK key l l.length j:=by
 unfold qx;rw[List.range_succ,List.flatMap_append,List.flatMap_cons,List.flatMap_nil,List.append_nil]
theorem A6(key:Int->Int)(l:List Int)(k j:Nat): (iK key l k j).length<=l.length:=by
 have:=List.length_filter_le (λx=>decide (key x=(j:Int))) (l.take k);rw[List.length_take]at this;unfold iK;omega
theorem Hq(key:Int->Int)(l:List Int)(h:l.length<=5000): ∀j,(qx key l j).length<=j*5000
 | 0=>by simp[qx]
 | j+1=>by
  have:=Hq key l h j;have:=A6 key l l.length j;rw[vq,List.length_append];omega
set_option maxRecDepth 100000 in
set_option maxHeartbeats 4000000 in
theorem Yr(vl:Value)(m:Int)(u1 u2:Value)(key:Int->Int)(l:List Int)(w:World)(hl:CY w.heap.size w vl l)(m0:2<=m)(m1:m<=64)(l5:l.length<=5000)(hkey:∀x∈l,0<=key x/\key x<m)
  (hK:∀x∈l,∀W,Below w.heap.size w W->Calls Tryz.prog 88 #[.int .i64 x,u1,u2] W λe w'=>e=.returned (.int .i64 (key x))/\Below W.heap.size W w'):
  Calls Tryz.prog 87 #[vl,.int .i64 m,.func (.func 88) #[] #[u1,u2]] w λe w'=>∃v,e=.returned v/\w'.ownsRow w.heap.size 3 1 v (qx key l m.toNat).length ((qx key l m.toNat).map (Value.int .i64))/\Below w.heap.size w w':=by
 obtain⟨M,rfl⟩:∃M:Nat,m=M:=⟨m.toNat,by omega⟩;obtain⟨i₀,hi,hz,hs,hby⟩:=EB;rw[Int.toNat_natCast];obtain⟨a,c,rfl,hl⟩:=hl;have mixed:Tryz.prog.follows .mixedOrders=true:=by kernel_rfl
 go_enter Tryz.func87,Tryz.ntmps87
 go_wp2
 go_loopw [15] (λi wr=>∃k:Nat,k<=l.length/\i=.int .i64 k/\kp w.heap.size wr (iK key l k)/\Below w.heap.size w wr)
  (λi _=>l.length-(RowKit.intOf i).toNat)
 case atStart=>exact⟨0,Nat.zero_le _,rfl,by
  have:=aBs w _ rfl;exact this,(Below.refl _ w).alloc (Nat.le_refl _) _⟩
 case round=>
  obtain⟨k,hk,rfl,hb,hB⟩:=hrel;by_cases hlt:k<l.length
  .rcases hl with hl | ⟨b,o,rfl,hbw,hc⟩
   .omega
   have hx:l.getD k 0∈l:=by
    rw[List.getD_eq_getElem?_getD,List.getElem?_eq_getElem hlt,Option.getD_some];exact List.getElem_mem _
   have hcx:wr.cell? ⟨b,o+k,none⟩=some (.int .i64 (l.getD k 0)):=(hB.cell (p:=⟨b,o+k,none⟩) hbw).trans (hc k hlt);obtain⟨kx0,kx1⟩:=hkey _ hx;have hKx:=hK _ hx wr hB;obtain⟨J,hJ⟩:∃J:Nat,key (l.getD k 0)=J:=⟨(key (l.getD k 0)).toNat,by omega⟩;have hJ64:J<64:=by omega
   rw[hJ]at hKx;have hrl:(iK key l k J).length<10000:=by
    have:=List.length_filter_le (λx=>decide (key x=(J:Int))) (l.take k);rw[List.length_take]at this;unfold iK;omega
   have hnext:=EC hlt hJ;generalize l.getD k 0=x at *
   go_wp2_with (first
    | (go_at_call 88;refine hKx.mono ?_;rintro e w1 ⟨rfl,hB1⟩;obtain⟨v,v',W',⟨av,nv,cv,rfl⟩,⟨av',nv',cv',rfl⟩,c0,c1,hrun,c2,f2,hB2,hb2⟩:=aBr (hb.below hB1) hJ64 x hrl 145)
    | (at_builtin;refine Lib.wpList_append_run _ rfl _ _ _ _ rfl _ _ rfl rfl _ _ hrun ?_)
    | go_in)
   rw[hnext]at hb2;exact⟨⟨k+1,by omega,by simp,hb2,hB.trans ((hB1.mono hB.size).trans hB2)⟩,by simp[RowKit.intOf];omega⟩
  .obtain rfl:k=l.length:=by omega
   obtain⟨wo,hwo⟩:∃wo:World,wo=wr:=⟨_,rfl⟩;rw[<- hwo]at hb hB ⊢;clear hwo
   go_wp2_with (first
    | (at_make;refine wpList_make_own _ rfl _ _ 145 rfl wo.heap.size 3 i₀ (.int .i64 0) 1 Tryz.underlying145 hi hz hs .i64 .i64 _ l.length rfl rfl rfl (by rw[hby];omega) (by unfold maxLen;omega) (Nat.le_refl _) ?_;intro w0 hown0 hgrow0)
    | go_in)
   go_loopw [35,11] (λi v wr=>∃j:Nat,j<=M/\i=.int .i64 j/\wr.ownsRow wo.heap.size 3 1 v (qx key l j).length ((qx key l j).map (Value.int .i64))/\(∃g n c,v=.slice (some ⟨g,0,none⟩) n c)/\Below wo.heap.size wo wr)
    (λi _ _=>M-(RowKit.intOf i).toNat)
   case atStart=>exact⟨0,Nat.zero_le _,rfl,hown0,⟨_,_,_,rfl⟩,(Below.refl _ wo).grown hgrow0 (Nat.le_refl _) (λk e=>by cases e)⟩
   case round=>
    obtain⟨j,hj,rfl,hown,⟨g,gn,gc,rfl⟩,hB2⟩:=hrel;by_cases hlt:j<M
    .have hbw:=hb.below hB2;obtain⟨vs,⟨cur,hs64,hcur,hvs⟩,hrows,_⟩:=hbw;have hcell:=kp.cell hcur (hvs j (by omega));obtain⟨hrow,hnil⟩:=hrows j (by omega);have hle1:=Hq key l l5 j;have hle2:=A6 key l l.length j;have hnx:=vq key l j;rcases hrow.2 with⟨hv,_⟩ | ⟨g2,cap2,cur2,hv,_,hg2,hn2,hm2,hc2,ht2⟩
     .have hr0:=hnil.1 hv;rw[hr0,List.append_nil]at hnx;rw[hv]at hcell;obtain⟨hc1,hc2⟩:=hcell;obtain⟨g3,cap3,cur3,e3,hb3,hg3,hn3,hm3,hc3,ht3⟩:=hown.2.resolve_left (λh=>by cases h.1);cases e3;have hrun:=Ys wr 145 _ _ _ cur3 hg3 hn3 (by omega)
      go_wp2_with (first
       | (at_builtin;refine Lib.wpList_append_run _ rfl _ _ _ _ rfl _ _ rfl rfl _ _ hrun ?_)
       | go_in)
      exact⟨⟨j+1,by omega,by simp,by rw[hnx];exact hown,⟨_,_,_,rfl⟩,hB2⟩,by simp[RowKit.intOf];omega⟩
     .rw[hv]at hcell;obtain⟨hc1,hc2'⟩:=hcell;have hcells:=hrow.cells (g:=g2) (by rw[hv];rfl);obtain⟨v',W',hrun,ho',hgr,hn',_⟩:=VC 145 hown ⟨g2,0,none⟩ (iK key l l.length j).length cap2 ((iK key l l.length j).map (Value.int .i64)) (List.length_map _) hcells
       (λu hu=>by obtain⟨y,_,rfl⟩:=List.mem_map.1 hu;rfl) (by omega) hB2.size
      obtain⟨g3,cap3,cur3,rfl,hb3,hg3,hn3,hm3,hc3,ht3⟩:=ho'.2.resolve_left (λh=>by have:=(hn'.1 h.1).1;cases this);have hlt3:=hown.lt
      go_wp2_with (first
       | (at_builtin;refine Lib.wpList_append_run _ rfl _ _ _ _ rfl _ _ rfl rfl _ _ hrun ?_)
       | go_in)
      exact⟨⟨j+1,by omega,by simp,by rw[hnx,List.length_append,List.map_append];exact ho',⟨_,_,_,rfl⟩,hB2.grown hgr hB2.size (λk e=>(hlt3 k e).1)⟩,by simp[RowKit.intOf];omega⟩
    .obtain rfl:j=M:=by omega
     go_wp2
     go_ret
     exact⟨_,rfl,ownsRow_base_a hown hB.size,hB.trans (hB2.mono hB.size)⟩
end Go.Proofs
namespace Go.Eng.Sv
abbrev Line:=ByteArray×Int×Int×Int×Int×Int
abbrev Ll:=List Line
def bj(l:Line): Int:=l.2.1
def lTo(l:Line): Int:=l.2.2.1
def lAt(l:Line): Int:=l.2.2.2.1
def aW(l:Line): Int:=l.2.2.2.2.1
def cell(xs:List Int)(a b:Nat): Int:=xs.getD (a*12+b) 0
def dR(xs:List Int)(a b len:Int): List Int:=
 bif decide (cell xs a.toNat b.toNat=-1)||decide (len<cell xs a.toNat b.toNat)then xs.set (a.toNat*12+b.toNat) len else xs
def Ff: List Int:=(List.range 144).map λi=>if i/12=i%12 then 0 else -1
def nV(ls:Ll): List Int:=ls.foldl (λxs l=>dR xs (bj l) (lTo l) (aW l)) Ff
def xh(xs:List Int)(q:Nat): List Int:=
 bif (cell xs (q/12%12) (q/144) != -1)&&(cell xs (q/144) (q%12) != -1)then dR xs (q/12%12:Nat) (q%12:Nat) (cell xs (q/12%12) (q/144)+cell xs (q/144) (q%12))else xs
def fwN(ls:Ll)(k:Nat): List Int:=(List.range k).foldl xh (nV ls)
def x4(ls:Ll): List Int:=fwN ls 1728
structure ct (n:Nat) (ls:Ll):Prop where
 n12:n<=12
 at_:∀l∈ls,0<=bj l/\bj l<n/\0<=lTo l/\lTo l<n/\bj l≠lTo l/\1<=aW l/\aW l<=5000
theorem UL{xs:List Int}{a b c d:Nat}{x:Int}(hb:b<12)(hd:d<12)(e:a*12+b<xs.length):
  cell (xs.set (a*12+b) x) c d=if c=a/\d=b then x else cell xs c d:=by
 unfold cell;rw[List.getD_eq_getElem?_getD,List.getElem?_set,List.getD_eq_getElem?_getD];by_cases h:c=a/\d=b
 .obtain⟨rfl,rfl⟩:=h;simp[e]
 .rw[if_neg h,if_neg (by omega)]
theorem gu(xs:List Int)(a b len:Int): (dR xs a b len).length=xs.length:=by
 unfold dR;cases(decide (cell xs a.toNat b.toNat=-1)||decide (len<cell xs a.toNat b.toNat))<;>simp
theorem di{xs:List Int}(f:xs.length=144){a b:Nat}(i:a<12)(hb:b<12){len:Int}{c d:Nat}(hd:d<12):
  cell (dR xs a b len) c d=if c=a/\d=b/\(cell xs a b=-1\/len<cell xs a b)then len else cell xs c d:=by
 unfold dR;simp only[Int.toNat_natCast];by_cases h:cell xs a b=-1\/len<cell xs a b
 .have:(decide (cell xs a b=-1)||decide (len<cell xs a b))=true:=by simpa using h
  rw[this,cond_true,UL hb hd (by omega)];by_cases e:c=a/\d=b
  .rw[if_pos e,if_pos ⟨e.1,e.2,h⟩]
  .rw[if_neg e,if_neg λg=>e ⟨g.1,g.2.1⟩]
 .have:(decide (cell xs a b=-1)||decide (len<cell xs a b))=false:=by
   rw[Bool.eq_false_iff];simpa using h
  rw[this,cond_false,if_neg λg=>h g.2.2]
theorem nU(ls:Ll): (nV ls).length=144:=by
 unfold nV;have:∀(ls:Ll) (xs:List Int),(ls.foldl (λxs l=>dR xs (bj l) (lTo l) (aW l)) xs).length=xs.length:=by
  intro ls;induction ls with
  | nil=>intro xs;rfl
  | cons l ls b=>intro xs;rw[List.foldl_cons,b,gu]
 rw[this];rfl
theorem Ak(xs:List Int)(q:Nat): (xh xs q).length=xs.length:=by
 unfold xh;cases(cell xs (q/12%12) (q/144) != -1)&&(cell xs (q/144) (q%12) != -1)<;>simp[gu]
theorem yx(ls:Ll)(k:Nat): fwN ls (k+1)=xh (fwN ls k) k:=by
 unfold fwN;rw[List.range_succ,List.foldl_append];rfl
theorem po(ls:Ll): ∀k,(fwN ls k).length=144
 | 0=>nU ls
 | k+1=>by rw[yx,Ak,po ls k]
inductive Walk (ls:Ll):Nat->Nat->Int->Prop
 | nil (a:Nat):Walk ls a a 0
 | snoc {a:Nat} {n:Int} (l:Line):l∈ls->Walk ls a (bj l).toNat n->Walk ls a (lTo l).toNat (n+aW l)
inductive Wk (ls:Ll) (k:Nat):Nat->Nat->Int->Prop
 | refl (a:Nat):Wk ls k a a 0
 | edge (l:Line):l∈ls->Wk ls k (bj l).toNat (lTo l).toNat (aW l)
 | via {a b c:Nat} {m n:Int}:c<k->Wk ls k a c m->Wk ls k c b n->Wk ls k a b (m+n)
theorem Walk.trans {ls:Ll} {a b c:Nat} {m n:Int} (h:Walk ls a b m) (g:Walk ls b c n):Walk ls a c (m+n):=by
 induction g with
 | nil=>simpa using h
 | snoc l f _ e=>rw[<- Int.add_assoc];exact .snoc l f e
theorem Wk.nonneg {N:Nat} {ls:Ll} (ok:ct N ls) {k a b:Nat} {n:Int} (h:Wk ls k a b n):0<=n:=by
 induction h with
 | refl=>exact Int.le_refl _
 | edge l e=>have:=(ok.at_ l e).2.2.2.2.2.1;omega
 | via _ _ _ g f=>omega
theorem Wk.split {N:Nat} {ls:Ll} (ok:ct N ls) {k a b:Nat} {n:Int} (h:Wk ls (k+1) a b n):
  (∃m,m<=n/\Wk ls k a b m)\/∃r j,r+j<=n/\Wk ls k a k r/\Wk ls k k b j:=by
 induction h with
 | refl a=>exact .inl ⟨0,Int.le_refl _,.refl a⟩
 | edge l X=>exact .inl ⟨_,Int.le_refl _,.edge l X⟩
 | @via a b c m n z _ _ L G=>
  by_cases e:c=k
  .subst e
   right
   have T:∃r,r<=m/\Wk ls c a c r:=by
    rcases L with⟨x,f,g⟩ | ⟨x,y,f,g,i⟩
    .exact⟨x,f,g⟩
    .have:=i.nonneg ok;exact⟨x,by omega,g⟩
   have O:∃j,j<=n/\Wk ls c c b j:=by
    rcases G with⟨x,f,g⟩ | ⟨x,y,f,g,i⟩
    .exact⟨x,f,g⟩
    .have:=g.nonneg ok;exact⟨y,by omega,i⟩
   obtain⟨x,f,g⟩:=T;obtain⟨y,Z,i⟩:=O;exact⟨x,y,by omega,g,i⟩
  .have z:c<k:=by omega
   rcases L with⟨x,f,g⟩ | ⟨x,y,f,g,i⟩<;>rcases G with⟨u,V,q⟩ | ⟨u,v,V,q,A⟩
   .exact .inl ⟨x+u,by omega,.via z g q⟩
   .exact .inr ⟨x+u,v,by omega,.via z g q,A⟩
   .exact .inr ⟨x,y+u,by omega,g,.via z i q⟩
   .have:=i.nonneg ok;have:=q.nonneg ok;exact .inr ⟨x,v,by omega,g,A⟩
structure Zs (ls:Ll) (xs:List Int):Prop where
 len:xs.length=144
 diag:∀a,a<12->cell xs a a=0
 walk:∀a b,a<12->b<12->cell xs a b=-1\/(0<=cell xs a b/\Walk ls a b (cell xs a b))
def Below(xs:List Int)(a b:Nat)(n:Int): Prop:=cell xs a b≠-1/\cell xs a b<=n
def aCy(ls:Ll)(k:Nat)(xs:List Int): Prop:=∀a b n,a<12->b<12->Wk ls k a b n->Below xs a b n
theorem li{xs:List Int}(f:xs.length=144){a b c d:Nat}(i:a<12)(hb:b<12)(hd:d<12){len n:Int}(e:len≠-1)(h:Below xs c d n): Below (dR xs a b len) c d n:=by
 unfold Below at h ⊢;rw[di f i hb hd];split
 .rename_i g;obtain⟨rfl,rfl,g⟩:=g;exact⟨e,by omega⟩
 .exact h
theorem AU{xs:List Int}(f:xs.length=144){a b:Nat}(h:a<12)(hb:b<12){len:Int}(e:len≠-1): Below (dR xs a b len) a b len:=by
 unfold Below;rw[di f h hb hb];split
 .exact⟨e,Int.le_refl _⟩
 .rename_i g;simp only[true_and,not_or]at g;exact⟨g.1,by omega⟩
theorem su{ls:Ll}{xs:List Int}(h:Zs ls xs){a b:Nat}(f:a<12)(hb:b<12){len:Int}(i:0<=len)(hw:Walk ls a b len): Zs ls (dR xs a b len):=by
 refine⟨by rw[gu];exact h.len,λc e=>?_,λc d e hd=>?_⟩
 .rw[di h.len f hb e];split
  .rename_i g;obtain⟨rfl,rfl,g⟩:=g;have:=h.diag c e;omega
  .exact h.diag c e
 .rw[di h.len f hb hd];split
  .rename_i g;obtain⟨rfl,rfl,g⟩:=g;exact .inr ⟨i,hw⟩
  .exact h.walk c d e hd
theorem l9{a b:Nat}(e:a<12)(hb:b<12): cell Ff a b=if a=b then 0 else -1:=by
 unfold cell Ff;rw[List.getD_eq_getElem?_getD,List.getElem?_map,List.getElem?_range (by omega)];simp only[Option.map_some,Option.getD_some];rw[show(a*12+b)/12=a by omega,show(a*12+b)%12=b by omega]
theorem JA(ls:Ll): Zs ls Ff:=by
 refine⟨rfl,λa f=>by rw[l9 f f,if_pos rfl],λa b f hb=>?_⟩;rw[l9 f hb];split
 .rename_i e;subst e;exact .inr ⟨Int.le_refl _,.nil a⟩
 .exact .inl rfl
theorem toNat_lt{N:Nat}{x:Int}(f:0<=x)(e:x<N)(b:N<=12): x.toNat<12:=by omega
theorem td{N:Nat}{ls:Ll}(ok:ct N ls): ∀(rs:Ll) (xs:List Int),(∀l∈rs,l∈ls)->Zs ls xs->(∀a b,a<12->b<12->cell xs a b<=5000)->
  Zs ls (rs.foldl (λxs l=>dR xs (bj l) (lTo l) (aW l)) xs)/\
  (∀a b n,a<12->b<12->Below xs a b n->Below (rs.foldl (λxs l=>dR xs (bj l) (lTo l) (aW l)) xs) a b n)/\
  (∀l∈rs,Below (rs.foldl (λxs l=>dR xs (bj l) (lTo l) (aW l)) xs) (bj l).toNat (lTo l).toNat (aW l))/\
  (∀a b,a<12->b<12->cell (rs.foldl (λxs l=>dR xs (bj l) (lTo l) (aW l)) xs) a b<=5000)
 | [],xs,_,h,hb=>⟨h,λ_ _ _ _ _ h=>h,(λl u=>by cases u),hb⟩
 | l::rs,xs,i,h,hb=>by
  have u:=i l (by simp);obtain⟨z,O,y,L,o5,o6,G⟩:=ok.at_ l u;have j:=toNat_lt z O ok.n12;have f:=toNat_lt y L ok.n12;have e:dR xs (bj l) (lTo l) (aW l)=dR xs ((bj l).toNat:Nat) ((lTo l).toNat:Nat) (aW l):=by
   rw[Int.toNat_of_nonneg z,Int.toNat_of_nonneg y]
  have hw:Walk ls (bj l).toNat (lTo l).toNat (aW l):=by
   have:=Walk.snoc l u (.nil (bj l).toNat)
   rwa [Int.zero_add]at this
  obtain⟨Z,A,X,V⟩:=td ok rs (dR xs (bj l) (lTo l) (aW l)) (λx g=>i x (by simp[g])) (by rw[e];exact su h j f (by omega) hw) (λa b v r=>by
   rw[e,di h.len j f r];split
   .exact G
   .exact hb a b v r)
  rw[List.foldl_cons];refine⟨Z,λa b n v r T=>A a b n v r (by rw[e];exact li h.len j f r (by omega) T),λx g=>?_,V⟩;rcases List.mem_cons.1 g with rfl | g
  .exact A _ _ _ j f (by rw[e];exact AU h.len j f (by omega))
  .exact X x g
theorem EV{N:Nat}{ls:Ll}(ok:ct N ls): Zs ls (nV ls)/\aCy ls 0 (nV ls)/\∀a b,a<12->b<12->cell (nV ls) a b<=5000:=by
 obtain⟨v,u,r,j⟩:=td ok ls Ff (λ_ h=>h) (JA ls) (λa b i g=>by rw[l9 i g];split<;>omega);refine⟨v,λa b n e hb hw=>?_,j⟩;cases hw with
 | refl=>refine u a a 0 e e ?_;unfold Below;rw[l9 e e,if_pos rfl];omega
 | edge l f=>exact r l f
 | via x=>omega
structure Mid (ls:Ll) (o i:Nat) (xs:List Int):Prop where
 sane:Zs ls xs
 compl:aCy ls o xs
 done:∀a b m n,a<12->b<12->a*12+b<i->Wk ls o a o m->Wk ls o o b n->Below xs a b (m+n)
 edge:∀a,a<12->cell xs a o<=5000*2 ^ o/\cell xs o a<=5000*2 ^ o
 all:∀a b,a<12->b<12->cell xs a b<=2*(5000*2 ^ o)
theorem Mid.step {N:Nat} {ls:Ll} (ok:ct N ls) {o i:Nat} (v:o<12) (hi:i<144) {xs:List Int} (h:Mid ls o i xs):Mid ls o (i+1) (xh xs (o*144+i)):=by
 have e1:(o*144+i)/12%12=i/12:=by omega
 have e2:(o*144+i)/144=o:=by omega
 have e3:(o*144+i)%12=i%12:=by omega
 have x:i/12<12:=by omega
 have hb:i%12<12:=by omega
 unfold xh;rw[e1,e2,e3];cases u:(cell xs (i/12) o != -1)&&(cell xs o (i%12) != -1)with
 | false=>
  rw[cond_false];refine⟨h.sane,h.compl,λa b m n j f Z z y=>?_,h.edge,h.all⟩;by_cases e:a*12+b<i
  .exact h.done a b m n j f e z y
  .have O:a=i/12:=by omega
   have L:b=i%12:=by omega
   have X:=h.compl a o m j v z;have V:=h.compl o b n v f y;rw[<- O,<- L]at u;simp only[Bool.and_eq_false_iff,bne_eq_false_iff_eq]at u;rcases u with u | u
   .exact(X.1 u).elim
   .exact(V.1 u).elim
 | true=>
  rw[cond_true];simp only[Bool.and_eq_true,bne_iff_ne,ne_eq]at u;obtain⟨c1,c2⟩:=u;obtain⟨p1,p2⟩:=(h.sane.walk _ _ x v).resolve_left c1;obtain⟨p3,p4⟩:=(h.sane.walk _ _ v hb).resolve_left c2;have r:cell xs (i/12) o+cell xs o (i%12)≠-1:=by omega
  refine⟨su h.sane x hb (by omega) (p2.trans p4),λa b n j f w=>li h.sane.len x hb f r (h.compl a b n j f w),λa b m n j f Z z y=>?_,λa j=>?_,λa b j f=>?_⟩
  .by_cases e:a*12+b<i
   .exact li h.sane.len x hb f r (h.done a b m n j f e z y)
   .have O:a=i/12:=by omega
    have L:b=i%12:=by omega
    have X:=(h.compl a o m j v z).2;have V:=(h.compl o b n v f y).2;rw[<- O,<- L]at r ⊢;have T:=AU (a:=a) (b:=b) h.sane.len j f r;exact⟨T.1,by have:=T.2;omega⟩
  .have hd:=h.sane.diag o v;have q:=h.edge a j;constructor
   .rw[di h.sane.len x hb v];split
    .rename_i g;obtain⟨rfl,G,A⟩:=g;rw[<- G,hd]at A;have:=q.1;omega
    .exact q.1
   .rw[di h.sane.len x hb j];split
    .rename_i g;obtain⟨G,rfl,A⟩:=g;rw[<- G,hd]at A;have:=q.2;omega
    .exact q.2
  .rw[di h.sane.len x hb f];split
   .have q1:=(h.edge (i/12) x).1;have q2:=(h.edge (i%12) hb).2;omega
   .exact h.all a b j f
theorem Mid.next {N:Nat} {ls:Ll} (ok:ct N ls) {o:Nat} (j:o+1<12) {xs:List Int} (h:Mid ls o 144 xs):Mid ls (o+1) 0 xs:=by
 have e:5000*2 ^ (o+1)=2*(5000*2 ^ o:Int):=by rw[Int.pow_succ];omega
 refine⟨h.sane,λa b n f i w=>?_,λa b m n f i y=>by omega,λa f=>by rw[e];exact⟨h.all a (o+1) f j,h.all (o+1) a j f⟩,λa b f i=>?_⟩
 .rcases w.split ok with⟨m,hm,g⟩ | ⟨u,r,hm,x,v⟩
  .have:=h.compl a b m f i g;exact⟨this.1,by have:=this.2;omega⟩
  .have:=h.done a b u r f i (by omega) x v;exact⟨this.1,by have:=this.2;omega⟩
 .have:=h.all a b f i;have z:(0:Int)<=5000*2 ^ o:=Int.mul_nonneg (by decide) (Int.le_of_lt (Int.pow_pos (by decide)));rw[e];omega
theorem YT{N:Nat}{ls:Ll}(ok:ct N ls): ∀(o:Nat),o<12->∀i,i<=144->Mid ls o i (fwN ls (o*144+i)):=by
 intro o;have row:∀o,o<12->Mid ls o 0 (fwN ls (o*144))->∀i,i<=144->Mid ls o i (fwN ls (o*144+i)):=by
  intro o f h i;induction i with
  | zero=>intro _;exact h
  | succ i g=>
   intro hi;rw[<- Nat.add_assoc,yx];exact(g (by omega)).step ok f (by omega)
 induction o with
 | zero=>
  intro _;refine row 0 (by decide) ?_;obtain⟨v,u,j⟩:=EV ok;refine⟨v,u,λa b m n e r x=>by omega,λa e=>⟨?_,?_⟩,λa b e r=>?_⟩
  .have:=j a 0 e (by decide);show cell (nV ls) a 0<=5000*2 ^ 0;omega
  .have:=j 0 a (by decide) e;show cell (nV ls) 0 a<=5000*2 ^ 0;omega
  .have:=j a b e r;simp only[Int.pow_zero,Int.mul_one];show cell (nV ls) a b<=_;omega
 | succ o g=>
  intro f;refine row (o+1) f ?_;have:=(g (by omega) 144 (Nat.le_refl _)).next ok f
  rw[show o*144+144=(o+1)*144 by omega]at this;exact this
theorem BU{N:Nat}{ls:Ll}(ok:ct N ls){k:Nat}(r:k<=1728){a b:Nat}(g:a<12)(hb:b<12): -1<=cell (fwN ls k) a b/\cell (fwN ls k) a b<=20480000:=by
 have h:∃o i,o<12/\i<=144/\k=o*144+i:=by
  by_cases e:k=1728
  .exact⟨11,144,by decide,by decide,by omega⟩
  .exact⟨k/144,k%144,by omega,by omega,by omega⟩
 obtain⟨o,i,j,hi,rfl⟩:=h;have m:=YT ok o j i hi;have x:=m.all a b g hb;have f:=m.sane.walk a b g hb;have v:(2:Int) ^ o<=2 ^ 11:=by
  have:(2:Nat) ^ o<=2 ^ 11:=Nat.pow_le_pow_right (by decide) (by omega)
  exact_mod_cast this
 have u:(2:Int) ^ 11=2048:=by decide
 constructor
 .rcases f with f | f<;>omega
 .omega
structure lP (ls:Ll) (a:Nat) (d:Nat->Int):Prop where
 self:d a=0
 low:∀b,b<12->-1<=d b
 line:∀l∈ls,0<=d (bj l).toNat->0<=d (lTo l).toNat/\d (lTo l).toNat<=d (bj l).toNat+aW l
 last:∀b,b<12->b≠a->0<=d b->∃l∈ls,(lTo l).toNat=b/\0<=d (bj l).toNat/\d b=d (bj l).toNat+aW l
theorem lP.walk {N:Nat} {ls:Ll} (ok:ct N ls) {a:Nat} {d:Nat->Int} (h:lP ls a d) {b:Nat} {n:Int} (w:Walk ls a b n):0<=d b/\d b<=n:=by
 induction w with
 | nil=>rw[h.self];exact⟨Int.le_refl _,Int.le_refl _⟩
 | snoc l f _ e=>have:=h.line l f e.1;have:=e.2;omega
theorem Walk.wk {N:Nat} {ls:Ll} (ok:ct N ls) {a b:Nat} {n:Int} (w:Walk ls a b n):Wk ls 12 a b n:=by
 induction w with
 | nil=>exact .refl _
 | snoc l e _ f=>
  have o:=ok.at_ l e;exact .via (toNat_lt o.1 o.2.1 ok.n12) f (.edge l e)
theorem lP.toWalk {N:Nat} {ls:Ll} (ok:ct N ls) {a:Nat} {d:Nat->Int} (h:lP ls a d):∀(k b:Nat),b<12->0<=d b->(d b).toNat<=k->Walk ls a b (d b):=by
 intro k;induction k with
 | zero=>
  intro b hb g v;by_cases e:b=a
  .subst e;rw[h.self];exact .nil b
  .obtain⟨l,f,r,j,i⟩:=h.last b hb e g;have:=(ok.at_ l f).2.2.2.2.2.1;omega
 | succ k u=>
  intro b hb g v;by_cases e:b=a
  .subst e;rw[h.self];exact .nil b
  .obtain⟨l,f,r,j,i⟩:=h.last b hb e g;have o:=ok.at_ l f;have:=o.2.2.2.2.2.1;have w:=u _ (toNat_lt o.1 o.2.1 ok.n12) j (by omega);have:=Walk.snoc l f w;rw[r,<- i]at this;exact this
theorem lP.unique {N:Nat} {ls:Ll} (ok:ct N ls) {a:Nat} {d e:Nat->Int} (h:lP ls a d) (g:lP ls a e) {b:Nat} (hb:b<12):d b=e b:=by
 have i:=h.low b hb;have f:=g.low b hb;by_cases p:0<=d b
 .have:=g.walk ok (h.toWalk ok _ b hb p (Nat.le_refl _));have:=h.walk ok (g.toWalk ok _ b hb this.1 (Nat.le_refl _));omega
 .by_cases q:0<=e b
  .have:=h.walk ok (g.toWalk ok _ b hb q (Nat.le_refl _));omega
  .omega
def at1(row:List Int)(b:Nat): Int:=row.getD b 0
def gj(row:List Int)(l:Line): List Int:=
 bif decide (0<=at1 row (bj l).toNat)&&(decide (at1 row (lTo l).toNat<0)||decide (at1 row (lTo l).toNat>at1 row (bj l).toNat+aW l))then row.set (lTo l).toNat (at1 row (bj l).toNat+aW l)else row
def oG(m:Nat)(a:Nat): List Int:=(List.range m).map λb=>if b=a then 0 else -1
def zu(ls:Ll)(row:List Int): List Int:=ls.foldl gj row
def bfN(ls:Ll)(m a r:Nat): List Int:=(List.range r).foldl (λrow _=>zu ls row) (oG m a)
theorem Zl{row:List Int}{i b:Nat}{x:Int}(hi:i<row.length): at1 (row.set i x) b=if b=i then x else at1 row b:=by
 unfold at1;rw[List.getD_eq_getElem?_getD,List.getElem?_set,List.getD_eq_getElem?_getD];by_cases h:i=b
 .subst h;simp[hi]
 .rw[if_neg h,if_neg (λe=>h e.symm)]
theorem kb(row:List Int)(l:Line): (gj row l).length=row.length:=by
 unfold gj;cases(decide (0<=at1 row (bj l).toNat)&&(decide (at1 row (lTo l).toNat<0)||decide (at1 row (lTo l).toNat>at1 row (bj l).toNat+aW l)))<;>simp
theorem oD{row:List Int}{l:Line}(f:(lTo l).toNat<row.length)(b:Nat): at1 (gj row l) b =
  if b=(lTo l).toNat/\0<=at1 row (bj l).toNat/\(at1 row (lTo l).toNat<0\/at1 row (lTo l).toNat>at1 row (bj l).toNat+aW l)then at1 row (bj l).toNat+aW l else at1 row b:=by
 unfold gj;by_cases h:0<=at1 row (bj l).toNat/\(at1 row (lTo l).toNat<0\/at1 row (lTo l).toNat>at1 row (bj l).toNat+aW l)
 .have e:(decide (0<=at1 row (bj l).toNat)&&(decide (at1 row (lTo l).toNat<0)||decide (at1 row (lTo l).toNat>at1 row (bj l).toNat+aW l)))=true:=by simpa using h
  rw[e,cond_true,Zl f];by_cases hb:b=(lTo l).toNat
  .rw[if_pos hb,if_pos ⟨hb,h⟩]
  .rw[if_neg hb,if_neg λg=>hb g.1]
 .have e:(decide (0<=at1 row (bj l).toNat)&&(decide (at1 row (lTo l).toNat<0)||decide (at1 row (lTo l).toNat>at1 row (bj l).toNat+aW l)))=false:=by
   rw[Bool.eq_false_iff];simpa using h
  rw[e,cond_false,if_neg λg=>h g.2]
def Abv(m:Nat)(d:Nat->Int)(row:List Int): Prop:=row.length=m/\∀b,b<m->at1 row b=-1\/(0<=d b/\d b<=at1 row b)
def U4(d:Nat->Int)(row:List Int)(b:Nat): Prop:=0<=d b/\at1 row b=d b
section
variable {m:Nat} {ls:Ll} {a:Nat} {d:Nat->Int}
theorem Ko(ok:ct m ls)(h:lP ls a d){row:List Int}(e:Abv m d row){l:Line}(f:l∈ls): Abv m d (gj row l):=by
 have o:=ok.at_ l f;refine⟨by rw[kb];exact e.1,λb hb=>?_⟩;rw[oD (by rw[e.1];omega)];split
 .rename_i g;obtain⟨rfl,j,i⟩:=g;rcases e.2 (bj l).toNat (by omega)with q | q
  .omega
  .have:=h.line l f q.1
   right
   omega
 .exact e.2 b hb
theorem wv(ok:ct m ls)(h:lP ls a d){row:List Int}(f:Abv m d row){l:Line}(i:l∈ls){b:Nat}(hb:b<m)(e:U4 d row b): U4 d (gj row l) b:=by
 have o:=ok.at_ l i;refine⟨e.1,?_⟩;rw[oD (by rw[f.1];omega)];split
 .rename_i g;obtain⟨rfl,r,j⟩:=g;rcases f.2 (bj l).toNat (by omega)with q | q
  .omega
  .have:=h.line l i q.1;have:=e.1;have:=e.2;omega
 .exact e.2
theorem J9(ok:ct m ls){row:List Int}(e:Abv m d row){l:Line}(f:l∈ls)(b:U4 d row (bj l).toNat)(h:0<=d (lTo l).toNat)(i:d (lTo l).toNat=d (bj l).toNat+aW l): U4 d (gj row l) (lTo l).toNat:=by
 have o:=ok.at_ l f;refine⟨h,?_⟩;have u:=b.2;have r:=b.1;rw[oD (by rw[e.1];omega)];split
 .omega
 .rename_i g;have j:¬(0<=at1 row (bj l).toNat/\(at1 row (lTo l).toNat<0\/at1 row (lTo l).toNat>at1 row (bj l).toNat+aW l)):=λq=>g ⟨rfl,q⟩
  rcases e.2 (lTo l).toNat (by omega)with q | q<;>omega
theorem VX(ok:ct m ls)(h:lP ls a d): ∀(rs:Ll) (row:List Int),(∀l∈rs,l∈ls)->Abv m d row->Abv m d (rs.foldl gj row)/\(∀b,b<m->U4 d row b->U4 d (rs.foldl gj row) b)/\
  ∀l∈rs,U4 d row (bj l).toNat->0<=d (lTo l).toNat->d (lTo l).toNat=d (bj l).toNat+aW l->U4 d (rs.foldl gj row) (lTo l).toNat
 | [],row,_,g=>⟨g,λ_ _ h=>h,(λl e=>by cases e)⟩
 | x::rs,row,f,g=>by
  have i:=f x (by simp);have ox:=ok.at_ x i;obtain⟨z,v,y⟩:=VX ok h rs (gj row x) (λl e=>f l (by simp[e])) (Ko ok h g i);rw[List.foldl_cons];refine⟨z,λb hb j=>v b hb (wv ok h g i hb j),λl e j u r=>?_⟩;have o:=ok.at_ l (f l e);rcases List.mem_cons.1 e with rfl | e
  .exact v _ (by omega) (J9 ok g i j u r)
  .exact y l e (wv ok h g i (by omega) j) u r
def rank(m:Nat)(d:Nat->Int)(b:Nat): Nat:=((List.range m).filter λx=>decide (0<=d x/\d x<d b)).length
theorem filter_lt{α:Type}{p q:α->Bool}: ∀{l:List α} {x:α},(∀y,p y=true->q y=true)->x∈l->p x=false->q x=true->(l.filter p).length<(l.filter q).length
 | [],_,_,h,_,_=>by cases h
 | y::l,x,b,f,j,i=>by
  have le:∀l:List α,(l.filter p).length<=(l.filter q).length:=by
   intro l;induction l with
   | nil=>exact Nat.le_refl _
   | cons z l e=>
    simp only[List.filter_cons];cases g:p z with
    | true=>rw[b z g];simpa using e
    | false=>cases q z<;>simp<;>omega
  rcases List.mem_cons.1 f with rfl | f
  .simp only[List.filter_cons,j,i,Bool.false_eq_true,if_false,if_true,List.length_cons];have:=le l;omega
  .have e:=filter_lt b f j i;simp only[List.filter_cons];cases g:p y with
   | true=>rw[b y g];simpa using e
   | false=>cases q y<;>simp<;>omega
theorem Ni{b c:Nat}(f:c<m)(h:0<=d c)(g:d c<d b): rank m d c<rank m d b:=by
 refine filter_lt (x:=c) (λy e=>?_) (List.mem_range.2 f) ?_ ?_
 .have:=of_decide_eq_true e;exact decide_eq_true (by omega)
 .exact decide_eq_false (by omega)
 .exact decide_eq_true (by omega)
theorem CM{x:Nat}(b:x<m): at1 (oG m a) x=if x=a then 0 else -1:=by
 unfold at1 oG;rw[List.getD_eq_getElem?_getD,List.getElem?_map,List.getElem?_range b];rfl
theorem zv(ls:Ll)(m a r:Nat): bfN ls m a (r+1)=zu ls (bfN ls m a r):=by
 unfold bfN;rw[List.range_succ,List.foldl_append];rfl
theorem US(ok:ct m ls)(h:lP ls a d)(v:a<m): ∀r,Abv m d (bfN ls m a r)/\∀b,b<m->0<=d b->rank m d b<=r->U4 d (bfN ls m a r) b
 | 0=>by
  have e:bfN ls m a 0=oG m a:=rfl;rw[e];refine⟨⟨by simp[oG],λb hb=>?_⟩,λb hb f G=>?_⟩
  .rw[CM hb];split
   .rename_i e;subst e;right;rw[h.self];omega
   .exact .inl rfl
  .by_cases e:b=a
   .subst e;exact⟨f,by rw[CM hb,if_pos rfl,h.self]⟩
   .obtain⟨l,i,j,u,z⟩:=h.last b (Nat.lt_of_lt_of_le hb ok.n12) e f;have:=(ok.at_ l i).2.2.2.2.2.1;have:=Ni (m:=m) (d:=d) (b:=b) (c:=a) v (by rw[h.self];omega) (by rw[h.self];omega);omega
 | r+1=>by
  obtain⟨O,y⟩:=US ok h v r;obtain⟨f1,V,T⟩:=VX ok h ls (bfN ls m a r) (λ_ h=>h) O;rw[zv];refine⟨f1,λb hb f G=>?_⟩;by_cases e:b=a
  .have:rank m d b<=r\/rank m d b=r+1:=by omega
   have X:rank m d b=0:=by
    unfold rank;rw[List.length_eq_zero_iff,List.filter_eq_nil_iff];intro x _;rw[e,h.self];exact λg=>by have:=of_decide_eq_true g;omega
   exact V b hb (y b hb f (by omega))
  .obtain⟨l,i,j,u,z⟩:=h.last b (Nat.lt_of_lt_of_le hb ok.n12) e f;have o:=ok.at_ l i;have L:=Ni (m:=m) (d:=d) (b:=b) (c:=(bj l).toNat) (by omega) u (by omega);have A:=y _ (by omega) u (by omega);have:=T l i A (by rw[j];exact f) (by rw[j];exact z)
   rwa [j]at this
end
end Go.Eng.Sv
set_option maxRecDepth 100000
noncomputable section
namespace Go.Eng.Sv
open Go.Proofs
abbrev I: Ty:=.int .i64
abbrev U: Ty:=.int .u8
abbrev B: Ty:=.sl .bool
abbrev R: Ty:=.sl I
abbrev LC: Type:=List (Int×List Bool×Li)
abbrev LB: Type:=List ByteArray
abbrev C: Ty:=.pair I (.pair B R)
abbrev S: Ty:=.str
abbrev cal(z:Int)(w:List Bool)(h:Li): AV:=.agg [.dat I z,.dat B w,.dat R h]
def kw: List ByteArray:=[⟨#[99,97,108,101,110,100,97,114]⟩,⟨#[111,112,101,114,97,116,111,114]⟩,⟨#[111,102,102,105,99,101]⟩,⟨#[108,105,110,101]⟩,⟨#[99,108,97,115,115]⟩,⟨#[122,111,110,101]⟩,⟨#[119,101,101,107]⟩,⟨#[104,111,108,105,100,97,121]⟩,⟨#[112,111,99,107,101,116,115]⟩,⟨#[112,97,115,115,101,115]⟩,⟨#[109,105,110,117,116,101,115]⟩,⟨#[99,111,100,101,115]⟩,⟨#[97,116]⟩,⟨#[116,114,97,118,101,108]⟩,⟨#[108,111,97,100]⟩,⟨#[99,117,116]⟩,⟨#[100,101,108,105,118,101,114]⟩]
def ji(b:Int): Bool:=decide (97<=b/\b<=122)
def eZ(b:Int): Bool:=decide (48<=b/\b<=57)
def dI(v a b:Int): Bool:=decide (a<=v/\v<=b)
def nameB(b:Int): Bool:=ji b||eZ b||decide (b=95)
def tW(b:Int): Bool:=eZ b||decide (65<=b/\b<=90)
def isKey(s:ByteArray): Bool:=kw.any λw=>w.toList==s.toList
def b7(s:ByteArray): Bool:=decide (1<=s.size/\s.size<=16)&&ji ((s.data.getD 0 0).toNat:Int)&&(s.data.toList.all λb=>nameB (b.toNat:Int))&&!isKey s
def cP(s:ByteArray): Bool:=decide (1<=s.size/\s.size<=8)&&s.data.toList.all λb=>tW (b.toNat:Int)
def nP(s:ByteArray)(k:Int): Prop:=0<=k/\k<=s.size/\(s.data.toList.take k.toNat).all (λb=>nameB (b.toNat:Int))=true
def oq(s:ByteArray)(k:Int): Prop:=0<=k/\k<=s.size/\(s.data.toList.take k.toNat).all (λb=>tW (b.toNat:Int))=true
def pi(s:ByteArray)(k:Int): Prop:=0<=k/\k<=17/\(kw.take k.toNat).any (λw=>w.toList==s.toList)=false
def ax(z:Int)(w:List Bool)(h:Li): Bool:=decide (-720<=z/\z<=840/\w.length=7/\h.length<=40)&&(List.range (h.length-1)).all λi=>decide (h.getD i 0<h.getD (i+1) 0)
def ga(w:List Bool)(h:Li): Bool:=decide (w.length<=20)&&decide (h.length<=60)
def qD(h:Li)(k:Int): Prop:=1<=k/\(k<=h.length\/k=1)/\h.length<=40/\∀i:Nat,(i:Int)+1<k->h.getD i 0<h.getD (i+1) 0
def iN(k:Int): Int:=if k=3 then 12 else if k=4 then 40 else if k=5 then 4 else 6
def K0: Kt:=λf args m=>none
def G0: List (Nat×AV):=[(0,.ia S kw)]
def KI0: FuncId->List AV->Option iV:=λ_ _=>none
noncomputable def mkc(K:Kt): Cfg:=⟨Tryz.prog,G0,K,λ_=>false,KI0,false,λ_ _ _=>none,λ_=>false⟩
def GF(h:Li): Ann:=⟨λid s=>match id with
 | 4=>some {α:=Int,inv:=λk=>qD h k,st:=λk=>put s [(3,.dat I k)],μ:=λk=>Dc (Dh (Df h) k)}
 | _=>none,λ_ _=>none,λ_ _=>none⟩
theorem wT(z:Int)(w:List Bool)(h:Li)(g:
 let c1:=Dp z (-720);let c2:=Di c1;let c3:=Ea c1 true (Eh z 840);let c4:=Di c3;let c5:=Ea c3 true (Ec (Df w) 7);let c6:=Di c5;let c7:=Ea c5 true (Eh (Df h) 40);let f:=(z,w,h);true/\(True->(c2->c2->c2)/\(c2->c2->c2)/\(Dj true c2->c2)/\(c4->c4->c4)/\(c4->c4->c4)/\(c4->c4->c4)/\(Dj true c4->c4)/\(c6->c6->c6)/\(c6->c6->c6)/\(c6->c6->c6)/\(Dj true c6->c6)/\(c7->false=ax z w h/\True)/\(c7=false->(∃x,qD h x/\f=f/\1=x/\True)/\∀(x:Int),let c9:=Dp x (Df h);let b:=x-1;let e:=Ei (Du h (Dc x) 0) (Du h (Dc b) 0);let c12:=x+1;qD h x->(c9->0<=x/\x<Df h/\inR .i64 b/\0<=b/\b<Df h/\(e->false=ax z w h/\True)/\(e=false->inR .i64 c12/\∃y,qD h y/\(f=f/\c12=y/\True)/\Dc (Df h-y)<Dc (Df h-x)))/\(c9=false->true=ax z w h/\True)))):
  evF (mkc K0) (lvA [(4,[1,2,3])] (GF h)) 161 [cal z w h] [] ⟨True,.dat .bool (ax z w h),[]⟩:=oE g
theorem KO(z:Int)(w:List Bool)(h:Li)(g:
 let c1:=Dp z (-720);let c2:=Di c1;let c3:=Ea c1 true (Eh z 840);let c4:=Di c3;let c13:=c4->c4->c4;let c5:=Ea c3 true (Ec (Df w) 7);let c6:=Di c5;let c14:=c6->c6->c6;let c7:=Ea c5 true (Eh (Df h) 40);let f:=(z,w,h);true/\(True->(c2->c2->c2)/\(c2->c2->c2)/\(Dj true c2->c2)/\c13/\c13/\c13/\(Dj true c4->c4)/\c14/\c14/\c14/\(Dj true c6->c6)/\(c7->false=ax z w h/\True)/\(c7=false->(∃x,qD h x/\f=f/\1=x/\True)/\∀(x:Int),let c9:=Dp x (Df h);let b:=x-1;let e:=Ed (Du h (Dc b) 0) (Du h (Dc x) 0);let c12:=x+1;qD h x->(c9->inR .i64 b/\0<=b/\b<Df h/\0<=x/\x<Df h/\(e->false=ax z w h/\True)/\(e=false->inR .i64 c12/\∃y,qD h y/\(f=f/\c12=y/\True)/\Dc (Df h-y)<Dc (Df h-x)))/\(c9=false->true=ax z w h/\True)))):
  evF (mkc K0) (lvA [(4,[1,2,3])] (GF h)) 118 [cal z w h] [] ⟨True,.dat .bool (ax z w h),[]⟩:=oE g
theorem Qu(z:Int)(w:List Bool)(h:Li)(b:
 let c1:=Ei (Df w) 20;let c2:=c1->c1->c1;true/\(True->c2/\c2/\c2/\(Dj true c1->c1)/\Ea c1 (Ei (Df h) 60) false=ga w h/\True)):
  evF (mkc K0) az 167 [cal z w h] [] ⟨True,.dat .bool (ga w h),[]⟩:=oE b
theorem IE(b:Int)(e:
 let c1:=Ed b 97;true/\(True->(c1->c1->c1)/\(Dj true c1->c1)/\Ea c1 (Ei b 122) false=ji b/\True)):
  evF (mkc K0) az 283 [.dat U b] [] ⟨True,.dat .bool (ji b),[]⟩:=oE e
theorem IG(b:Int)(e:
 let c1:=Ed b 48;true/\(True->(c1->c1->c1)/\(Dj true c1->c1)/\Ea c1 (Ei b 57) false=eZ b/\True)):
  evF (mkc K0) az 284 [.dat U b] [] ⟨True,.dat .bool (eZ b),[]⟩:=oE e
theorem Rh(b:Int)(e:
 let c1:=Ed b 48;true/\(True->(c1->c1->c1)/\(Dj true c1->c1)/\Ea c1 (Ei b 57) false=eZ b/\True)):
  evF (mkc K0) az 297 [.dat U b] [] ⟨True,.dat .bool (eZ b),[]⟩:=oE e
theorem KZ(v a b:Int)(e:
 let c1:=Ed v a->Ed v a->Ed v a;true/\(True->c1/\c1/\(Dj true (Ed v a)->Ed v a)/\Ea (Ed v a) (Ei v b) false=dI v a b/\True)):
  evF (mkc K0) az 248 [.dat I v,.dat I a,.dat I b] [] ⟨True,.dat .bool (dI v a b),[]⟩:=oE e
theorem IN(v a b:Int)(e:
 let c1:=Ed v a->Ed v a->Ed v a;true/\(True->c1/\c1/\(Dj true (Ed v a)->Ed v a)/\Ea (Ed v a) (Ei v b) false=dI v a b/\True)):
  evF (mkc K0) az 300 [.dat I v,.dat I a,.dat I b] [] ⟨True,.dat .bool (dI v a b),[]⟩:=oE e
theorem QR(k:Int)(b:
 let c1:=Eb k 3;let c2:=Eb k 4;let c3:=Eb k 5;true/\(True->(c1->12=iN k/\True)/\(c1=false->(c2->40=iN k/\True)/\(c2=false->(c3->4=iN k/\True)/\(c3=false->6=iN k/\True))))):
  evF (mkc K0) az 226 [.dat I k] [] ⟨True,.dat I (iN k),[]⟩:=oE b
theorem WT(b:
 true/\(True->[ByteArray.mk #[(99:UInt8),(97:UInt8),(108:UInt8),(101:UInt8),(110:UInt8),(100:UInt8),(97:UInt8),(114:UInt8)],ByteArray.mk #[(111:UInt8),(112:UInt8),(101:UInt8),(114:UInt8),(97:UInt8),(116:UInt8),(111:UInt8),(114:UInt8)],ByteArray.mk #[(111:UInt8),(102:UInt8),(102:UInt8),(105:UInt8),(99:UInt8),(101:UInt8)],ByteArray.mk #[(108:UInt8),(105:UInt8),(110:UInt8),(101:UInt8)],ByteArray.mk #[(99:UInt8),(108:UInt8),(97:UInt8),(115:UInt8),(115:UInt8)],ByteArray.mk #[(122:UInt8),(111:UInt8),(110:UInt8),(101:UInt8)],ByteArray.mk #[(119:UInt8),(101:UInt8),(101:UInt8),(107:UInt8)],ByteArray.mk #[(104:UInt8),(111:UInt8),(108:UInt8),(105:UInt8),(100:UInt8),(97:UInt8),(121:UInt8)],ByteArray.mk #[(112:UInt8),(111:UInt8),(99:UInt8),(107:UInt8),(101:UInt8),(116:UInt8),(115:UInt8)],ByteArray.mk #[(112:UInt8),(97:UInt8),(115:UInt8),(115:UInt8),(101:UInt8),(115:UInt8)],ByteArray.mk #[(109:UInt8),(105:UInt8),(110:UInt8),(117:UInt8),(116:UInt8),(101:UInt8),(115:UInt8)],ByteArray.mk #[(99:UInt8),(111:UInt8),(100:UInt8),(101:UInt8),(115:UInt8)],ByteArray.mk #[(97:UInt8),(116:UInt8)],ByteArray.mk #[(116:UInt8),(114:UInt8),(97:UInt8),(118:UInt8),(101:UInt8),(108:UInt8)],ByteArray.mk #[(108:UInt8),(111:UInt8),(97:UInt8),(100:UInt8)],ByteArray.mk #[(99:UInt8),(117:UInt8),(116:UInt8)],ByteArray.mk #[(100:UInt8),(101:UInt8),(108:UInt8),(105:UInt8),(118:UInt8),(101:UInt8),(114:UInt8)]]=kw/\True)):
  evF (mkc K0) az 303 [] [] ⟨True,.dat (.sl S) kw,[]⟩:=oE b
def K1: Kt:=λf args m=>match f,args,m with
 | 161,[.agg [.dat (.int .i64) z,.dat (.sl .bool) w,.dat (.sl (.int .i64)) h]],[]=>some ⟨True,.dat .bool (ax z w h),[]⟩
 | 118,[.agg [.dat (.int .i64) z,.dat (.sl .bool) w,.dat (.sl (.int .i64)) h]],[]=>some ⟨True,.dat .bool (ax z w h),[]⟩
 | 167,[.agg [.dat (.int .i64) z,.dat (.sl .bool) w,.dat (.sl (.int .i64)) h]],[]=>some ⟨True,.dat .bool (ga w h),[]⟩
 | 283,[.dat (.int .u8) b],[]=>some ⟨True,.dat .bool (ji b),[]⟩
 | 284,[.dat (.int .u8) b],[]=>some ⟨True,.dat .bool (eZ b),[]⟩
 | 297,[.dat (.int .u8) b],[]=>some ⟨True,.dat .bool (eZ b),[]⟩
 | 248,[.dat (.int .i64) v,.dat (.int .i64) a,.dat (.int .i64) b],[]=>some ⟨True,.dat .bool (dI v a b),[]⟩
 | 300,[.dat (.int .i64) v,.dat (.int .i64) a,.dat (.int .i64) b],[]=>some ⟨True,.dat .bool (dI v a b),[]⟩
 | 226,[.dat (.int .i64) k],[]=>some ⟨True,.dat I (iN k),[]⟩
 | 303,[],[]=>some ⟨True,.dat (.sl S) kw,[]⟩
 | _,_,_=>none
def YK(s:ByteArray): Ann:=⟨λid st=>match id with
 | 4=>some {α:=Int,inv:=λk=>nP s k,st:=λk=>put st [(24,.dat I k)],μ:=λk=>Dc (Dh (Et s) k)}
 | 10=>some {α:=Int,inv:=λk=>pi s k,st:=λk=>put st [(42,.dat I k)],μ:=λk=>Dc (Dh 17 k)}
 | _=>none,λ_ _=>none,λ_ _=>none⟩
def YL(s:ByteArray): Ann:=⟨λid st=>match id with
 | 4=>some {α:=Int,inv:=λk=>oq s k,st:=λk=>put st [(16,.dat I k)],μ:=λk=>Dc (Dh (Et s) k)}
 | _=>none,λ_ _=>none,λ_ _=>none⟩
def aFT(s:ByteArray): Ann:=⟨λid st=>match id with
 | 3=>some {α:=Int,inv:=λk=>pi s k,st:=λk=>put st [(4,.dat I k)],μ:=λk=>Dc (Dh 17 k)}
 | _=>none,λ_ _=>none,λ_ _=>none⟩
theorem Dm(v:Int)(b:
 let c1:=dI v 0 1439;true/\(True->True/\c1=c1/\True)):
  evF (mkc K1) az 202 [.dat I v] [] ⟨True,.dat .bool (dI v 0 1439),[]⟩:=oE b
theorem KY(s:ByteArray)(h:
 let c15:=Fp s;let c1:=Dp (Et s) 1;let c2:=Di c1;let c3:=Ea c1 true (Eh (Et s) 16);let c4:=Di c3;let e:=c4->c4->c4;let c5:=Ea c3 true (Di (ji (Gf s 0)));true/\(True->(c2->c2->c2)/\(c2->c2->c2)/\(Dj true c2->c2)/\e/\(c4->Dl 0 0)/\(c4->0<Et s)/\e/\(c4->True)/\e/\(Dj true c4->c4)/\(c5->false=b7 s/\True)/\(c5=false->(∃x,nP s x/\s=s/\Fp s=Fp s/\Df c15=Df c15/\0=x/\True)/\∀(x:Int),let c6:=Dp x (Df c15);let c7:=Du c15 (Dc x) 0;let b:=Di (ji c7);let c9:=Ea b (Di (eZ c7)) false;let g:=Ea c9 (Ec c7 95) false;let f:=x+1;nP s x->(c6->0<=x/\x<Df c15/\True/\(b->b->b)/\(b->True)/\(b->b->b)/\(Dj true b->b)/\(c9->c9->c9)/\(Dj true c9->c9)/\(g->false=b7 s/\True)/\(g=false->inR .i64 f/\∃y,nP s y/\(s=s/\Fp s=Fp s/\Df c15=Df c15/\f=y/\True)/\Dc (Et s-y)<Dc (Et s-x)))/\(c6=false->Dk kw=17/\(∃x,pi s x/\s=s/\kw=kw/\0=x/\True)/\∀(x:Int),let c12:=Dp x 17;let c13:=Fv s (Du kw (Dc x) (ByteArray.mk #[]));let c14:=x+1;pi s x->(c12->0<=x/\x<Dx 17/\Dk kw=17/\(c13->false=b7 s/\True)/\(c13=false->inR .i64 c14/\∃y,pi s y/\(s=s/\kw=kw/\c14=y/\True)/\Dc (17-y)<Dc (17-x)))/\(c12=false->true=b7 s/\True))))):
  evF (mkc K1) (lvA [(4,[0,2,4,6,22,23,24,41,42]),(10,[0,2,6,41,42])] (YK s)) 236 [.dat S s] [] ⟨True,.dat .bool (b7 s),[]⟩:=oE h
theorem K9(s:ByteArray)(f:
 let b:=Fp s;let c1:=Dp (Et s) 1;let c2:=Di c1;let c3:=Ea c1 true (Eh (Et s) 8);true/\(True->(c2->c2->c2)/\(c2->c2->c2)/\(Dj true c2->c2)/\(c3->false=cP s/\True)/\(c3=false->(∃x,oq s x/\Fp s=Fp s/\Df b=Df b/\0=x/\True)/\∀(x:Int),let c4:=Dp x (Df b);let c5:=Du b (Dc x) 0;let c6:=Di (eZ c5);let c12:=c6->c6->c6;let c7:=Dp c5 65;let e:=Di c7;let g:=Ea c6 (Ea c7 true (Eh c5 90)) false;let c9:=x+1;oq s x->(c4->0<=x/\x<Df b/\True/\c12/\c12/\(Dj c6 e->Dj c6 e->Dj c6 e)/\c12/\(c6->Dj c6 e->Dj c6 e)/\(Dj true c6->c6)/\(g->false=cP s/\True)/\(g=false->inR .i64 c9/\∃y,oq s y/\(Fp s=Fp s/\Df b=Df b/\c9=y/\True)/\Dc (Et s-y)<Dc (Et s-x)))/\(c4=false->true=cP s/\True)))):
  evF (mkc K1) (lvA [(4,[2,4,14,15,16])] (YL s)) 247 [.dat S s] [] ⟨True,.dat .bool (cP s),[]⟩:=oE f
theorem aAo(s:ByteArray)(b:
 true/\(True->True/\(∃x,pi s x/\s=s/\kw=kw/\0=x/\True)/\∀(x:Int),let c1:=Dp x (Df kw);let c2:=Fv (Du kw (Dc x) (ByteArray.mk #[])) s;let c3:=x+1;pi s x->(c1->0<=x/\x<Df kw/\(c2->true=isKey s/\True)/\(c2=false->inR IntKind.i64 c3/\∃y,pi s y/\(s=s/\kw=kw/\c3=y/\True)/\Dc (17-y)<Dc (17-x)))/\(c1=false->false=isKey s/\True))):
  evF (mkc K1) (lvA [(3,[0,2,3,4])] (aFT s)) 296 [.dat S s] [] ⟨True,.dat .bool (isKey s),[]⟩:=oE b
def K2: Kt:=λf args m=>match f,args,m with
 | 202,[.dat (.int .i64) v],[]=>some ⟨True,.dat .bool (dI v 0 1439),[]⟩
 | 236,[.dat .str s],[]=>some ⟨True,.dat .bool (b7 s),[]⟩
 | 247,[.dat .str s],[]=>some ⟨True,.dat .bool (cP s),[]⟩
 | 296,[.dat .str s],[]=>some ⟨True,.dat .bool (isKey s),[]⟩
 | _,_,_=>K1 f args m
theorem ql(x y:Bool): Ea x true y=(x||y):=by cases x<;>rfl
theorem iZ(x y:Bool): Ea x y false=(x&&y):=by cases x<;>rfl
theorem hm: Tryz.prog.follows .mixedOrders=true:=by kernel_rfl
theorem KS0: aj Tryz.prog G0 K0:=λf args m c h=>by cases h
theorem aK: bm Tryz.prog G0 KI0:=λf args c h=>by cases h
def PD(z:Int)(w:List Bool)(h:Li): Prop:=(-720<=z/\z<=840/\w.length=7/\h.length<=40)/\∀i:Nat,i+1<h.length->h.getD i 0<h.getD (i+1) 0
theorem cA{z:Int}{w:List Bool}{h:Li}: ax z w h=true↔PD z w h:=by
 unfold ax PD;rw[qC,qE,qN];refine and_congr_right λ_=>⟨λg i hi=>?_,λg i hi=>?_⟩
 .have:=g i (vF.2 (by omega));simpa using this
 .have:=vF.1 hi;simpa using g i (by omega)
theorem oM{z:Int}{w:List Bool}{h:Li}(e:¬PD z w h): false=ax z w h:=by
 cases b:ax z w h with
 | false=>rfl
 | true=>exact(e (cA.1 b)).elim
theorem BN{h:Li}(b:¬(h.length:Int)>40): qD h 1:=⟨qL _,.inr rfl,by omega,λi hi=>by omega⟩
theorem wa{h:Li}{x:Int}(b:qD h x)(g:x<h.length)(f:h.getD (x-1).toNat 0<h.getD x.toNat 0): qD h (x+1):=by
 obtain⟨z,y,r,j⟩:=b;refine⟨by omega,by omega,r,λi hi=>?_⟩;by_cases e:(i:Int)+1<x
 .exact j i e
 .have v:(x-1).toNat=i:=by omega
  have u:x.toNat=i+1:=by omega
  rwa [v,u]at f
theorem BO{z:Int}{w:List Bool}{h:Li}{x:Int}(b:qD h x)(f:x<h.length)(g:h.getD x.toNat 0<=h.getD (x-1).toNat 0): false=ax z w h:=by
 refine oM λe=>?_
 have:=b.1;have:=e.2 (x-1).toNat (by omega);rw[show(x-1).toNat+1=x.toNat by omega]at this;omega
theorem BP{z:Int}{w:List Bool}{h:Li}{x:Int}(b:qD h x)(e:¬x<h.length)(j:-720<=z)(g:z<=840)(f:w.length=7): true=ax z w h:=
 (cA.2 ⟨⟨j,g,f,by have:=b.2.2.1;omega⟩,λi hi=>b.2.2.2 i (by omega)⟩).symm
theorem DO(z:Int)(w:List Bool)(h:Li): af Tryz.prog G0 161 [cal z w h] [] ⟨True,.dat .bool (ax z w h),[]⟩:=by
 refine ae (c:=mkc K0) KS0 aK hm (wT z w h ⟨rfl,λ_=>?_⟩);simp only[qc,Dj,Es,Di,qd,Dt,Eb,Ec,Dp,Eh,Ei,Ed,Ey,Df,Et,Dl,Dn,Eo,Dy,Dw,Dh,Dq,Ee,Fh,Dc,Dx,Dk,Dz,Ej,Du,Eu,Ez,En,Ef,Fe,Fj,Fg,Ep,Em,Ew,Fb];refine⟨λhb=>oM λr=>?_,λ⟨⟨⟨G,A⟩,y⟩,u⟩=>⟨BN u,λx e=>⟨λb=>?_,λg=>BP e g (by omega) (by omega) (by omega)⟩⟩⟩
 .obtain⟨⟨V,T,O,L⟩,_⟩:=r;omega
 .have j:=e.1;have i:=e.2.2.1;refine⟨by omega,b,⟨by omega,by omega⟩,by omega,by omega,λf=>BO e b f,λv=>⟨⟨by omega,by omega⟩,x+1,wa e b (by omega),rfl,by omega⟩⟩
theorem SH(z:Int)(w:List Bool)(h:Li): af Tryz.prog G0 118 [cal z w h] [] ⟨True,.dat .bool (ax z w h),[]⟩:=by
 refine ae (c:=mkc K0) KS0 aK hm (KO z w h ⟨rfl,λ_=>?_⟩);simp only[qc,Dj,Es,Di,qd,Dt,Eb,Ec,Dp,Eh,Ei,Ed,Ey,Df,Et,Dl,Dn,Eo,Dy,Dw,Dh,Dq,Ee,Fh,Dc,Dx,Dk,Dz,Ej,Du,Eu,Ez,En,Ef,Fe,Fj,Fg,Ep,Em,Ew,Fb];refine⟨λhb=>oM λr=>?_,λ⟨⟨⟨G,A⟩,y⟩,u⟩=>⟨BN u,λx e=>⟨λb=>?_,λg=>BP e g (by omega) (by omega) (by omega)⟩⟩⟩
 .obtain⟨⟨V,T,O,L⟩,_⟩:=r;omega
 .have j:=e.1;have i:=e.2.2.1;refine⟨⟨by omega,by omega⟩,by omega,by omega,by omega,b,λf=>BO e b f,λv=>⟨⟨by omega,by omega⟩,x+1,wa e b (by omega),rfl,by omega⟩⟩
theorem X8(z:Int)(w:List Bool)(h:Li): af Tryz.prog G0 167 [cal z w h] [] ⟨True,.dat .bool (ga w h),[]⟩:=by
 refine ae (c:=mkc K0) KS0 aK hm (Qu z w h ⟨rfl,λ_=>?_⟩);simp only[qc,Dj,Es,Di,ga,Ei,Df]
 congr 1<;>congr 1<;>exact propext (by omega)
theorem lO(p q:Prop)[Decidable p][Decidable q]: (decide p&&decide q)=decide (p/\q):=by by_cases e:p<;>by_cases b:q<;>simp[e,b]
theorem ML(b:Int): af Tryz.prog G0 283 [.dat U b] [] ⟨True,.dat .bool (ji b),[]⟩:=by
 refine ae (c:=mkc K0) KS0 aK hm (IE b ⟨rfl,λ_=>?_⟩);simp only[qc,Dj,Es,Di,ji,Ed,Ei,lO,kQ]
theorem MM(b:Int): af Tryz.prog G0 284 [.dat U b] [] ⟨True,.dat .bool (eZ b),[]⟩:=by
 refine ae (c:=mkc K0) KS0 aK hm (IG b ⟨rfl,λ_=>?_⟩);simp only[qc,Dj,Es,Di,eZ,Ed,Ei,lO,kQ]
theorem Yd(b:Int): af Tryz.prog G0 297 [.dat U b] [] ⟨True,.dat .bool (eZ b),[]⟩:=by
 refine ae (c:=mkc K0) KS0 aK hm (Rh b ⟨rfl,λ_=>?_⟩);simp only[qc,Dj,Es,Di,eZ,Ed,Ei,lO,kQ]
theorem SJ(v a b:Int): af Tryz.prog G0 248 [.dat I v,.dat I a,.dat I b] [] ⟨True,.dat .bool (dI v a b),[]⟩:=by
 refine ae (c:=mkc K0) KS0 aK hm (KZ v a b ⟨rfl,λ_=>?_⟩);simp only[qc,Dj,Es,Di,dI,Ed,Ei,lO,kQ]
theorem MP(v a b:Int): af Tryz.prog G0 300 [.dat I v,.dat I a,.dat I b] [] ⟨True,.dat .bool (dI v a b),[]⟩:=by
 refine ae (c:=mkc K0) KS0 aK hm (IN v a b ⟨rfl,λ_=>?_⟩);simp only[qc,Dj,Es,Di,dI,Ed,Ei,lO,kQ]
theorem Ya(k:Int): af Tryz.prog G0 226 [.dat I k] [] ⟨True,.dat I (iN k),[]⟩:=by
 refine ae (c:=mkc K0) KS0 aK hm (QR k ⟨rfl,λ_=>?_⟩);simp only[qc,Dj,Es,Di,qd,Dt,Eb,Ec,Dp,Eh,Ei,Ed,Ey,Df,Et,Dl,Dn,Eo,Dy,Dw,Dh,Dq,Ee,Fh,Dc,Dx,Dk,Dz,Ej,Du,Eu,Ez,En,Ef,Fe,Fj,Fg,Ep,Em,Ew,Fb,iN];refine⟨λh=>by rw[if_pos h],λb=>⟨λh=>by rw[if_neg b,if_pos h],λe=>⟨λh=>by rw[if_neg b,if_neg e,if_pos h],λh=>by rw[if_neg b,if_neg e,if_neg h]⟩⟩⟩
theorem aA9: af Tryz.prog G0 303 [] [] ⟨True,.dat (.sl S) kw,[]⟩:=
 ae (c:=mkc K0) KS0 aK hm (WT ⟨rfl,λ_=>⟨rfl,trivial⟩⟩)
theorem KS1: aj Tryz.prog G0 K1:=by
 intro f args m c h;unfold K1 at h;split at h
 .cases h;exact DO _ _ _
 .cases h;exact SH _ _ _
 .cases h;exact X8 _ _ _
 .cases h;exact ML _
 .cases h;exact MM _
 .cases h;exact Yd _
 .cases h;exact SJ _ _ _
 .cases h;exact MP _ _ _
 .cases h;exact Ya _
 .cases h;exact aA9
 .cases h
theorem J3(s:ByteArray)(i:Nat): (Fp s).getD i 0=((s.data.getD i 0).toNat:Int):=by
 show(List.map (λb:UInt8=>(b.toNat:Int)) s.data.toList).getD i 0=_;rw[qA,qO,zT,qK];cases s.data[i]?<;>rfl
theorem Cm(s:ByteArray)(x:Int): (Fp s).getD x.toNat 0=Gf s x:=J3 s x.toNat
theorem qm(s:ByteArray): (Fp s).length=s.size:=by
 show(List.map _ s.data.toList).length=s.data.size;rw[vG,vK]
theorem mg(s:ByteArray): s.data.toList.length=s.size:=vK
theorem gR{α:Type}{l:List α}{p:α->Bool}{d:α}{k:Nat}(h:(l.take k).all p=true)(e:k<l.length)(b:p (l.getD k d)=true): (l.take (k+1)).all p=true:=by
 rw[wO,qB e,kN,h];rw[qA,qB e]at b;simpa using b
theorem pE{α:Type}{l:List α}{p:α->Bool}{d:α}{k:Nat}(e:k<l.length)(b:p (l.getD k d)=false): l.all p=false:=by
 rw[qA,qB e]at b;rw[qBt];exact⟨l[k],wE e,by simpa using b⟩
theorem V4{α:Type}{l:List α}{p:α->Bool}{d:α}{k:Nat}(e:k<l.length)(b:p (l.getD k d)=true): l.any p=true:=by
 rw[qA,qB e]at b;exact xX.2 ⟨l[k],wE e,by simpa using b⟩
theorem wz{α:Type}{l:List α}{p:α->Bool}{d:α}{k:Nat}(h:(l.take k).any p=false)(e:k<l.length)(b:p (l.getD k d)=false): (l.take (k+1)).any p=false:=by
 rw[wO,qB e,List.any_append,h];rw[qA,qB e]at b;simpa using b
theorem om(s:ByteArray)(i:Nat): s.data.toList.getD i 0=s.data.getD i 0:=by
 rw[qA,zT,qK]
theorem EK(s:ByteArray): nP s 0:=⟨qL _,qV _,by simp⟩
theorem FU(s:ByteArray): oq s 0:=⟨qL _,qV _,by simp⟩
theorem vL(s:ByteArray): pi s 0:=⟨qL _,by decide,by simp⟩
theorem EL{s:ByteArray}{x:Int}(h:nP s x)(f:x<s.size)(b:nameB (Gf s x)=true): nP s (x+1):=by
 obtain⟨i,g,e⟩:=h;refine⟨by omega,by omega,?_⟩;rw[show(x+1).toNat=x.toNat+1 by omega];exact gR (d:=0) e (by rw[mg];omega) (by rw[om];exact b)
theorem FV{s:ByteArray}{x:Int}(h:oq s x)(f:x<s.size)(b:tW (Gf s x)=true): oq s (x+1):=by
 obtain⟨i,g,e⟩:=h;refine⟨by omega,by omega,?_⟩;rw[show(x+1).toNat=x.toNat+1 by omega];exact gR (d:=0) e (by rw[mg];omega) (by rw[om];exact b)
theorem Jj{s:ByteArray}{x:Int}(h:nP s x)(f:¬x<s.size): (s.data.toList.all λb=>nameB (b.toNat:Int))=true:=by
 obtain⟨i,g,e⟩:=h
 rwa [qQ (by rw[mg];omega)]at e
theorem JU{s:ByteArray}{x:Int}(h:oq s x)(f:¬x<s.size): (s.data.toList.all λb=>tW (b.toNat:Int))=true:=by
 obtain⟨i,g,e⟩:=h
 rwa [qQ (by rw[mg];omega)]at e
theorem TG{s:ByteArray}{x:Int}(h:nP s x)(f:x<s.size)(e:nameB (Gf s x)=false): (s.data.toList.all λb=>nameB (b.toNat:Int))=false:=
 pE (d:=0) (k:=x.toNat) (by rw[mg];have:=h.1;omega) (by rw[om];exact e)
theorem UB{s:ByteArray}{x:Int}(h:oq s x)(f:x<s.size)(e:tW (Gf s x)=false): (s.data.toList.all λb=>tW (b.toNat:Int))=false:=
 pE (d:=0) (k:=x.toNat) (by rw[mg];have:=h.1;omega) (by rw[om];exact e)
theorem vQ{s:ByteArray}{x:Int}(h:pi s x)(g:x<17)(b:s.toList≠(kw.getD x.toNat ⟨#[]⟩).toList): pi s (x+1):=by
 obtain⟨j,i,f⟩:=h;refine⟨by omega,by omega,?_⟩;rw[show(x+1).toNat=x.toNat+1 by omega];exact wz (d:=⟨#[]⟩) f (by show x.toNat<17;omega) (by simpa using λe=>b e.symm)
theorem VH{s:ByteArray}{x:Int}(h:pi s x)(e:x<17)(b:s.toList=(kw.getD x.toNat ⟨#[]⟩).toList): isKey s=true:=
 V4 (d:=⟨#[]⟩) (k:=x.toNat) (by have:=h.1;show x.toNat<17;omega) (by simpa using b.symm)
theorem BH{s:ByteArray}{x:Int}(h:pi s x)(e:¬x<17): isKey s=false:=by
 obtain⟨g,f,b⟩:=h;have:x=17:=by omega
 subst this;exact b
theorem EJ{s:ByteArray}(h:b7 s=true->False): false=b7 s:=by
 cases e:b7 s with
 | false=>rfl
 | true=>exact(h e).elim
theorem OR{s:ByteArray}(h:cP s=true->False): false=cP s:=by
 cases e:cP s with
 | false=>rfl
 | true=>exact(h e).elim
theorem jT{s:ByteArray}: b7 s=true↔(1<=s.size/\s.size<=16)/\ji (Gf s 0)=true/\(s.data.toList.all λb=>nameB (b.toNat:Int))=true/\isKey s=false:=by
 unfold b7;simp only[qC,qE,zK,qDe];exact Iff.rfl
theorem m3{s:ByteArray}: cP s=true↔(1<=s.size/\s.size<=8)/\(s.data.toList.all λb=>tW (b.toNat:Int))=true:=by
 unfold cP;simp only[qC,qE]
theorem EM{b:Int}(g:ji b=false)(f:eZ b=false)(e:b≠95): nameB b=false:=by simp[nameB,g,f,e]
theorem I2(v:Int): af Tryz.prog G0 202 [.dat I v] [] ⟨True,.dat .bool (dI v 0 1439),[]⟩:=
 ae (c:=mkc K1) KS1 aK hm (Dm v ⟨rfl,λ_=>⟨trivial,rfl,trivial⟩⟩)
theorem TI{b:Int}(h:ji b=false->eZ b=false->b=95): nameB b=true:=by
 unfold nameB;cases f:ji b with
 | true=>rfl
 | false=>cases e:eZ b with
  | true=>rfl
  | false=>simpa using h f e
theorem UD{b:Int}(h:eZ b=false->65<=b/\b<=90): tW b=true:=by
 unfold tW;cases e:eZ b with
 | true=>rfl
 | false=>simpa using h e
theorem FX{b:Int}(e:eZ b=false)(f:b<65\/b>90): tW b=false:=by
 unfold tW;rw[e];simp;omega
theorem SI(s:ByteArray): af Tryz.prog G0 236 [.dat S s] [] ⟨True,.dat .bool (b7 s),[]⟩:=by
 refine ae (c:=mkc K1) KS1 aK hm (KY s ⟨rfl,λ_=>?_⟩);simp only[qc,Dj,Es,Di,qd,Dt,Eb,Ec,Dp,Eh,Ei,Ed,Ey,Df,Et,Dl,Dn,Eo,Dy,Dw,Dh,Dq,Ee,Fh,Dc,Dx,Dk,Dz,Ej,Du,Eu,Ez,En,Ef,Fe,Fj,Fg,Ep,Em,Ew,Fb,Cm,qm];refine⟨λ_=>qL _,λh=>by omega,λh=>EJ λg=>?_,λ⟨⟨V,T⟩,A⟩=>⟨EK s,λx f=>⟨λb=>?_,λr=>?_⟩⟩⟩
 .rw[jT]at g;rcases h with h | h
  .omega
  .rw[g.2.1]at h;cases h
 .refine⟨f.1,b,λ⟨⟨O,L⟩,G⟩=>EJ λg=>?_,λhb=>⟨⟨by have:=f.1;omega,by omega⟩,x+1,EL f b (TI λv u=>hb ⟨v,u⟩),rfl,by have:=f.1;omega⟩⟩;have:=TG f b (EM O L G);rw[(jT.1 g).2.2.1]at this;cases this
 .refine⟨rfl,vL s,λy e=>⟨λb=>⟨e.1,by omega,rfl,λz=>EJ λg=>?_,λj=>⟨⟨by have:=e.1;omega,by omega⟩,y+1,vQ e b j,rfl,by have:=e.1;omega⟩⟩,λi=>(jT.2 ⟨by omega,A,Jj f r,BH e i⟩).symm⟩⟩;have:=VH e b z;rw[(jT.1 g).2.2.2]at this;cases this
theorem SK(s:ByteArray): af Tryz.prog G0 247 [.dat S s] [] ⟨True,.dat .bool (cP s),[]⟩:=by
 refine ae (c:=mkc K1) KS1 aK hm (K9 s ⟨rfl,λ_=>?_⟩);simp only[qc,Dj,Es,Di,qd,Dt,Eb,Ec,Dp,Eh,Ei,Ed,Ey,Df,Et,Dl,Dn,Eo,Dy,Dw,Dh,Dq,Ee,Fh,Dc,Dx,Dk,Dz,Ej,Du,Eu,Ez,En,Ef,Fe,Fj,Fg,Ep,Em,Ew,Fb,Cm,qm];refine⟨λh=>OR λg=>by rw[m3]at g;omega,λ⟨v,u⟩=>⟨FU s,λx e=>⟨λb=>?_,λf=>(m3.2 ⟨by omega,JU e f⟩).symm⟩⟩⟩
 refine⟨e.1,b,λ⟨r,j⟩=>OR λg=>?_,λhb=>⟨⟨by have:=e.1;omega,by omega⟩,x+1,FV e b (UD λi=>by have:=hb i;omega),rfl,by have:=e.1;omega⟩⟩;have:=UB e b (FX r j);rw[(m3.1 g).2]at this;cases this
theorem aEa(s:ByteArray): af Tryz.prog G0 296 [.dat S s] [] ⟨True,.dat .bool (isKey s),[]⟩:=by
 refine ae (c:=mkc K1) KS1 aK hm (aAo s ⟨rfl,λ_=>?_⟩);simp only[qc,Dj,Es,Di,qd,Dt,Eb,Ec,Dp,Eh,Ei,Ed,Ey,Df,Et,Dl,Dn,Eo,Dy,Dw,Dh,Dq,Ee,Fh,Dc,Dx,Dk,Dz,Ej,Du,Eu,Ez,En,Ef,Fe,Fj,Fg,Ep,Em,Ew,Fb];have j:(kw.length:Int)=17:=rfl
 refine⟨vL s,λy b=>⟨λg=>⟨b.1,g,λi=>(VH b (by omega) i.symm).symm,λf=>⟨⟨by have:=b.1;omega,by omega⟩,y+1,vQ b (by omega) (λe=>f e.symm),rfl,by have:=b.1;omega⟩⟩,λh=>(BH b (by omega)).symm⟩⟩
theorem KS2: aj Tryz.prog G0 K2:=by
 intro f args m c h;unfold K2 at h;split at h
 .cases h;exact I2 _
 .cases h;exact SI _
 .cases h;exact SK _
 .cases h;exact aEa _
 .exact KS1 _ _ _ _ h
abbrev Of: Ty:=.pair S (.pair I (.pair I (.pair I (.pair I (.pair I (.sl S))))))
abbrev Ln: Ty:=.pair S (.pair I (.pair I (.pair I (.pair I I))))
abbrev Kl: Ty:=.pair S (.pair I I)
abbrev Fa: Ty:=.pair I (.pair I I)
abbrev N: Ty:=.pair (.sl C) (.pair (.sl S) (.pair (.sl S) (.pair (.sl Of) (.pair (.sl Ln) (.sl Kl)))))
abbrev Off:=ByteArray×Int×Int×Int×Int×Int×List ByteArray
abbrev Lo:=List Off
abbrev Cla:=ByteArray×Int×Int
abbrev Lk:=List Cla
abbrev Net:=List (Int×List Bool×Li)×List ByteArray×List ByteArray×Lo×Ll×Lk
abbrev net(cs:LC)(ns os:LB)(fs:Lo)(ls:Ll)(ks:Lk): AV:=.agg [.dat (.sl C) cs,.dat (.sl S) ns,.dat (.sl S) os,.dat (.sl Of) fs,.dat (.sl Ln) ls,.dat (.sl Kl) ks]
def dF(i n:Int): Bool:=decide (0<=i/\i<n)
def idx(i n:Int): Prop:=0<=i/\i<n
def qf(i n:Int): Prop:=0<=i/\i<n/\i<=1000
def jX(l:List ByteArray)(k:Int): Prop:=0<=k/\k<=l.length/\(l.take k.toNat).all cP=true
def cQ(n:Net)(o:Off): Bool:=dF o.2.1 n.2.2.1.length&&dF o.2.2.1 n.1.length&&decide (o.2.2.2.2.2.2.length<=20)&&o.2.2.2.2.2.2.all cP&&dI o.2.2.2.1 2 64&&dI o.2.2.2.2.1 1 4&&dI o.2.2.2.2.2.1 1 240
def cT(n:Net)(l:Line): Bool:=dF l.2.1 n.2.2.2.1.length&&dF l.2.2.1 n.2.2.2.1.length&&decide (l.2.1≠l.2.2.1)&&dI l.2.2.2.1 0 1439&&dI l.2.2.2.2.1 1 5000&&dI l.2.2.2.2.2 1 40
def ij(k:Cla): Bool:=dI k.2.1 0 1439&&dI k.2.2 0 1439
def aA(cs:List (Int×List Bool×Li))(ns:List ByteArray): List ByteArray:=(List.range cs.length).map λi=>ns.getD i ⟨#[]⟩
def aC(fs:Lo): List ByteArray:=fs.map (·.1)
def aD(ls:Ll): List ByteArray:=ls.map (·.1)
def aE(ks:Lk): List ByteArray:=ks.map (·.1)
def bh(cs:List (Int×List Bool×Li)): List Bool:=cs.map λc=>ax c.1 c.2.1 c.2.2
def bP(os:List ByteArray): List Bool:=os.map λ_=>true
def cI(n:Net): List Bool:=n.2.2.2.1.map (cQ n)
def cy(n:Net): List Bool:=n.2.2.2.2.1.map (cT n)
def bn(ks:Lk): List Bool:=ks.map ij
def fX(l:List ByteArray)(i:Int): ByteArray:=l.getD i.toNat ⟨#[]⟩
def bA(l:List ByteArray)(i:Int): Int:=if b7 (fX l i)then 0 else 1
def rule2(l:List ByteArray)(i:Int): Int:=if(l.take i.toNat).any (λw=>w.toList==(fX l i).toList)then 4 else 0
def bK(g:List Bool)(i:Int): Int:=if g.getD i.toNat false then 0 else 1
def uv(l:List ByteArray)(i k:Int): Prop:=0<=k/\k<=i/\(l.take k.toNat).any (λw=>w.toList==(fX l i).toList)=false
def bV(l:List ByteArray)(g:List Bool)(i k:Int): Prop:=0<=k/\k<=3/\(0<k->bA l i=0)/\(1<k->rule2 l i=0)/\(2<k->bK g i=0)
def HZ(l:List ByteArray)(g:List Bool)(i:Int): Int:=if bA l i≠0 then bA l i else if rule2 l i≠0 then rule2 l i else bK g i
def aQ(kind:Int)(l:List ByteArray)(g:List Bool)(k:Int): List (Int×Int×Int):=(List.range k.toNat).filterMap λi:Nat=>if HZ l g i=0 then none else some (kind,(i:Int),HZ l g i)
def Jh(kind lim:Int)(l:List ByteArray): List (Int×Int×Int):=if lim<l.length then[(kind,lim,2)]else[]
def bz(kind lim:Int)(l:List ByteArray)(g:List Bool): List (Int×Int×Int):=aQ kind l g (min l.length lim)++Jh kind lim l
def cJ(k n lim:Int): Prop:=0<=k/\k<=n/\k<=lim
def FC(n:Net): List (Int×Int×Int):=if n.2.1.length=n.1.length then[]else[(1,-1,1)]
def aO(n:Net)(k:Int): List ByteArray:=if k=1 then aA n.1 n.2.1 else if k=2 then n.2.2.1 else if k=3 then aC n.2.2.2.1 else if k=4 then aD n.2.2.2.2.1 else if k=5 then aE n.2.2.2.2.2 else[]
def Ol(n:Net)(k:Int): List Bool:=if k=1 then bh n.1 else if k=2 then bP n.2.2.1 else if k=3 then cI n else if k=4 then cy n else if k=5 then bn n.2.2.2.2.2 else[]
def iR(n:Net)(k:Int): List (Int×Int×Int):=FC n++(List.range (k.toNat-1)).flatMap λj:Nat=>bz (j+1) (iN (j+1)) (aO n (j+1)) (Ol n (j+1))
def ew(n:Net): List (Int×Int×Int):=iR n 6
def mL(n:Net): Bool:=decide (n.1.length<=10/\n.2.1.length<=10/\n.2.2.1.length<=10/\n.2.2.2.1.length<=16/\n.2.2.2.2.1.length<=50/\n.2.2.2.2.2.length<=8)
theorem QU(i:Int)(xs:List Of.den)(b:
 let c1:=Ed i 0;let c3:=c1->c1->c1;let c2:=Df xs;true/\(True->c3/\c3/\c3/\(Dj true c1->c1)/\Ea c1 (Dp i c2) false=dF i c2/\True)):
  evF (mkc K2) az 252 [.dat I i,.dat (.sl Of) xs] [] ⟨True,.dat .bool (dF i (Df xs)),[]⟩:=oE b
theorem WU(i:Int)(xs:List S.den)(b:
 let c1:=Ed i 0;let c2:=c1->c1->c1;true/\(True->c2/\c2/\c2/\(Dj true c1->c1)/\Ea c1 (Dp i (Df xs)) false=dF i (Df xs)/\True)):
  evF (mkc K2) az 245 [.dat I i,.dat (.sl S) xs] [] ⟨True,.dat .bool (dF i (Df xs)),[]⟩:=oE b
theorem WV(i:Int)(xs:List C.den)(b:
 let c1:=Ed i 0;let c3:=c1->c1->c1;let c2:=Df xs;true/\(True->c3/\c3/\c3/\(Dj true c1->c1)/\Ea c1 (Dp i c2) false=dF i c2/\True)):
  evF (mkc K2) az 246 [.dat I i,.dat (.sl C) xs] [] ⟨True,.dat .bool (dF i (Df xs)),[]⟩:=oE b
def K3: Kt:=kOr 252 (aw [.val I,.val (.sl Of)] (λ_=>True) λ(i,xs,_)=>.dat .bool (dF i (Df xs)))
 (kOr 245 (aw [.val I,.val (.sl S)] (λ_=>True) λ(i,xs,_)=>.dat .bool (dF i (Df xs)))
 (kOr 246 (aw [.val I,.val (.sl C)] (λ_=>True) λ(i,xs,_)=>.dat .bool (dF i (Df xs))) K2))
def aB0(l:List ByteArray): Ann:=⟨λid st=>match id with
 | 4=>some {α:=Int,inv:=λk=>jX l k,st:=λk=>put st [(30,.dat I k)],μ:=λk=>Dc (Dh (Df l) k)}
 | _=>none,λ_ _=>none,λ_ _=>none⟩
theorem w8(cs:LC)(ns os:LB)(A:Lo)(ls:Ll)(v:Lk)(G:ByteArray)(u r j i h:Int)(b:List ByteArray)(z:
 let c1:=Di (dF u (Df os));let c2:=Di c1;let c13:=c2->c2->c2;let c3:=Ea c1 true (Di (dF r (Df cs)));let c4:=Di c3;let c14:=c4->c4->c4;let c5:=Ea c3 true (Eh (Df b) 20);let c6:=(G,u,r,j,i,h,b);let c7:=cQ (cs,ns,os,A,ls,v) c6;let e:=dI j 2 64;let c9:=Ea e (dI i 1 4) false;true/\(True->True/\c13/\c13/\c13/\c13/\(c2->True)/\c13/\(Dj true c2->c2)/\c14/\c14/\c14/\(Dj true c4->c4)/\(c5->false=c7/\True)/\(c5=false->(∃x,jX b x/\c6=c6/\b=b/\Df b=Df b/\0=x/\True)/\∀(x:Int),let g:=Dp x (Df b);let f:=Di (cP (Du b (Dc x) (ByteArray.mk #[])));let c12:=x+1;jX b x->(g->0<=x/\x<Df b/\True/\(f->false=c7/\True)/\(f=false->inR .i64 c12/\∃y,jX b y/\(c6=c6/\b=b/\Df b=Df b/\c12=y/\True)/\Dc (Df b-y)<Dc (Df b-x)))/\(g=false->True/\(e->e->e)/\(e->e->e)/\(e->True)/\(Dj true e->e)/\(c9->c9->c9)/\(c9->c9->c9)/\(c9->True)/\(Dj true c9->c9)/\Ea c9 (dI h 1 240) false=c7/\True)))):
  evF (mkc K3) (lvA [(4,[3,4,6,28,29,30])] (aB0 b)) 194 [net cs ns os A ls v,.agg [.dat .str G,.dat (.int .i64) u,.dat (.int .i64) r,.dat (.int .i64) j,.dat (.int .i64) i,.dat (.int .i64) h,.dat (.sl .str) b]] [] ⟨True,.dat .bool (cQ (cs,ns,os,A,ls,v) (G,u,r,j,i,h,b)),[]⟩:=oE z
theorem DC(cs:LC)(ns os:LB)(i:Lo)(ls:Ll)(v:Lk)(y:ByteArray)(h g u r j:Int)(x:
 let c1:=Df i;let c2:=Di (dF h c1);let c3:=Di c2;let b:=c3->c3->c3;let c4:=Ea c2 true (Di (dF g c1));let c5:=Di c4;let f:=c5->c5->c5;let c6:=Ea c4 true (Eb h g);let c7:=cT (cs,ns,os,i,ls,v) (y,h,g,u,r,j);let e:=dI u 0 1439;let c9:=Ea e (dI r 1 5000) false;true/\(True->True/\b/\b/\b/\b/\(c3->True)/\b/\(Dj true c3->c3)/\f/\f/\f/\f/\(Dj true c5->c5)/\(c6->false=c7/\True)/\(c6=false->True/\(e->e->e)/\(e->e->e)/\(e->True)/\(Dj true e->e)/\(c9->c9->c9)/\(c9->c9->c9)/\(c9->True)/\(Dj true c9->c9)/\Ea c9 (dI j 1 40) false=c7/\True))):
  evF (mkc K3) az 198 [net cs ns os i ls v,.agg [.dat .str y,.dat (.int .i64) h,.dat (.int .i64) g,.dat (.int .i64) u,.dat (.int .i64) r,.dat (.int .i64) j]] [] ⟨True,.dat .bool (cT (cs,ns,os,i,ls,v) (y,h,g,u,r,j)),[]⟩:=oE x
def K4: Kt:=kOr 194 (aw [.row N,.row Of] (λ_=>True) λ(n,o,_)=>.dat .bool (cQ n o))
 (kOr 198 (aw [.row N,.row Ln] (λ_=>True) λ(n,l,_)=>.dat .bool (cT n l)) K3)
theorem tS(i:Int)(cs:LC)(ns os:LB)(f:Lo)(ls:Ll)(e:Lk)(b:
 let c1:=Dp i (Df ns);let c2:=fX (aA cs ns) i;true/\(idx i (Df cs)->(c1->0<=i/\i<Df ns/\Du ns (Dc i) (ByteArray.mk #[])=c2/\True)/\(c1=false->ByteArray.mk #[]=c2/\True))):
  evF (mkc K4) az 186 [.dat I i,.ip N (cs,ns,os,f,ls,e)] [] ⟨idx i (Df cs),.dat S (fX (aA cs ns) i),[]⟩:=oE b
theorem tF(i:Int)(cs:LC)(ns os:LB)(f:Lo)(ls:Ll)(e:Lk)(b:
 true/\(idx i (Df os)->0<=i/\i<Df os/\Du os (Dc i) (ByteArray.mk #[])=fX os i/\True)):
  evF (mkc K4) az 188 [.dat I i,.ip N (cs,ns,os,f,ls,e)] [] ⟨idx i (Df os),.dat S (fX os i),[]⟩:=oE b
theorem aAg(e:ByteArray)(b:
 true/\(True->true/\True)):
  evF (mkc K4) az 190 [.agg [.dat .str e]] [] ⟨True,.dat .bool true,[]⟩:=oE b
theorem tE(i:Int)(cs:LC)(ns os:LB)(b:Lo)(ls:Ll)(f:Lk)(e:
 let c1:=Df b;true/\(idx i c1->0<=i/\i<c1/\(Du b (Dc i) (ByteArray.mk #[],(0:Int),(0:Int),(0:Int),(0:Int),(0:Int),Dt ByteArray)).1=fX (aC b) i/\True)):
  evF (mkc K4) az 191 [.dat I i,.ip N (cs,ns,os,b,ls,f)] [] ⟨idx i (Df b),.dat S (fX (aC b) i),[]⟩:=oE e
theorem aAf(cs:LC)(ns os:LB)(f:Lo)(ls:Ll)(b:Lk)(v:ByteArray)(u r j i h:Int)(g:List ByteArray)(e:
 let c1:=cQ (cs,ns,os,f,ls,b) (v,u,r,j,i,h,g);true/\(True->True/\c1=c1/\True)):
  evF (mkc K4) az 193 [.agg [.dat .str v,.dat (.int .i64) u,.dat (.int .i64) r,.dat (.int .i64) j,.dat (.int .i64) i,.dat (.int .i64) h,.dat (.sl .str) g],.ip N (cs,ns,os,f,ls,b)] [] ⟨True,.dat .bool (cQ (cs,ns,os,f,ls,b) (v,u,r,j,i,h,g)),[]⟩:=oE e
theorem sI(i:Int)(cs:LC)(ns os:LB)(f:Lo)(ls:Ll)(e:Lk)(b:
 let c1:=Df ls;true/\(idx i c1->0<=i/\i<c1/\(Du ls (Dc i) (ByteArray.mk #[],(0:Int),(0:Int),(0:Int),(0:Int),(0:Int))).1=fX (aD ls) i/\True)):
  evF (mkc K4) az 195 [.dat I i,.ip N (cs,ns,os,f,ls,e)] [] ⟨idx i (Df ls),.dat S (fX (aD ls) i),[]⟩:=oE b
theorem aAe(cs:LC)(ns os:LB)(f:Lo)(ls:Ll)(b:Lk)(u:ByteArray)(r j i h g:Int)(e:
 let c1:=cT (cs,ns,os,f,ls,b) (u,r,j,i,h,g);true/\(True->True/\c1=c1/\True)):
  evF (mkc K4) az 197 [.agg [.dat .str u,.dat (.int .i64) r,.dat (.int .i64) j,.dat (.int .i64) i,.dat (.int .i64) h,.dat (.int .i64) g],.ip N (cs,ns,os,f,ls,b)] [] ⟨True,.dat .bool (cT (cs,ns,os,f,ls,b) (u,r,j,i,h,g)),[]⟩:=oE e
theorem oX(i:Int)(cs:LC)(ns os:LB)(f:Lo)(ls:Ll)(b:Lk)(e:
 let c1:=Df b;true/\(idx i c1->0<=i/\i<c1/\(Du b (Dc i) (ByteArray.mk #[],(0:Int),(0:Int))).1=fX (aE b) i/\True)):
  evF (mkc K4) az 199 [.dat I i,.ip N (cs,ns,os,f,ls,b)] [] ⟨idx i (Df b),.dat S (fX (aE b) i),[]⟩:=oE e
theorem aAd(g:ByteArray)(e b:Int)(f:
 let c1:=dI e 0 1439;true/\(True->True/\(c1->c1->c1)/\(c1->c1->c1)/\(c1->True)/\(Dj true c1->c1)/\Ea c1 (dI b 0 1439) false=ij (g,e,b)/\True)):
  evF (mkc K4) az 201 [.agg [.dat .str g,.dat (.int .i64) e,.dat (.int .i64) b]] [] ⟨True,.dat .bool (ij (g,e,b)),[]⟩:=oE f
def K5: Kt:=kOr 186 (aw [.val I,.ptr N] (λ(i,(cs,ns,os,fs,ls,ks),_)=>idx i (Df cs)) λ(i,(cs,ns,os,fs,ls,ks),_)=>.dat S (fX (aA cs ns) i))
 (kOr 188 (aw [.val I,.ptr N] (λ(i,(cs,ns,os,fs,ls,ks),_)=>idx i (Df os)) λ(i,(cs,ns,os,fs,ls,ks),_)=>.dat S (fX (os) i))
 (kOr 190 (aw [.row S] (λ_=>True) λ_=>.dat .bool true)
 (kOr 191 (aw [.val I,.ptr N] (λ(i,(cs,ns,os,fs,ls,ks),_)=>idx i (Df fs)) λ(i,(cs,ns,os,fs,ls,ks),_)=>.dat S (fX (aC fs) i))
 (kOr 193 (aw [.row Of,.ptr N] (λ_=>True) λ(o,n,_)=>.dat .bool (cQ n o))
 (kOr 195 (aw [.val I,.ptr N] (λ(i,(cs,ns,os,fs,ls,ks),_)=>idx i (Df ls)) λ(i,(cs,ns,os,fs,ls,ks),_)=>.dat S (fX (aD ls) i))
 (kOr 197 (aw [.row Ln,.ptr N] (λ_=>True) λ(l,n,_)=>.dat .bool (cT n l))
 (kOr 199 (aw [.val I,.ptr N] (λ(i,(cs,ns,os,fs,ls,ks),_)=>idx i (Df ks)) λ(i,(cs,ns,os,fs,ls,ks),_)=>.dat S (fX (aE ks) i))
 (kOr 201 (aw [.row Kl] (λ_=>True) λ(k,_)=>.dat .bool (ij k)) K4))))))))
def twA(l:List ByteArray)(i:Int): Ann:=⟨λid st=>match id with
 | 2=>some {α:=Int,inv:=λk=>uv l i k,st:=λk=>put st [(6,.dat I k)],μ:=λk=>Dc (Dh i k)}
 | _=>none,λ_ _=>none,λ_ _=>none⟩
theorem oB(i:Int)(cs:LC)(ns os:LB)(f:Lo)(ls:Ll)(e:Lk)(b:
 let c1:=Di (b7 (fX (aA cs ns) i));let c2:=bA (aA cs ns) i;true/\(idx i (Df cs)->idx i (Df cs)/\True/\(c1->1=c2/\True)/\(c1=false->0=c2/\True))):
  evF (mkc K5) az 235 [.dat I i,.ipv (.fn 186 [.ip N (cs,ns,os,f,ls,e)])] [] ⟨idx i (Df cs),.dat I (bA (aA cs ns) i),[]⟩:=oE b
theorem iA(i:Int)(cs:LC)(ns os:LB)(f:Lo)(ls:Ll)(e:Lk)(b:
 let c6:=aA cs ns;let c1:=Df cs;let c2:=(cs,ns,os,f,ls,e);let c3:=rule2 c6 i;true/\(qf i c1->(∃x,uv c6 i x/\i=i/\c2=c2/\i=i/\0=x/\True)/\∀(x:Int),let c4:=Fv (fX c6 x) (fX c6 i);let c5:=x+1;uv c6 i x->(Dp x i->idx x c1/\idx i c1/\(c4->4=c3/\True)/\(c4=false->inR IntKind.i64 c5/\∃y,uv c6 i y/\(i=i/\c2=c2/\i=i/\c5=y/\True)/\Dc (i-y)<Dc (i-x)))/\(Dp x i=false->0=c3/\True))):
  evF (mkc K5) (lvA [(2,[0,1,3,4,5,6])] (twA (aA cs ns) i)) 237 [.dat I i,.ipv (.fn 186 [.ip N (cs,ns,os,f,ls,e)])] [] ⟨qf i (Df cs),.dat I (rule2 (aA cs ns) i),[]⟩:=oE b
theorem gM(i:Int)(cs:LC)(ns os:LB)(f:Lo)(ls:Ll)(e:Lk)(b:
 let c1:=Df cs;let c2:=Du cs (Dc i) ((0:Int),Dt Bool,Dt Int);let c4:=Di (ax c2.1 c2.2.1 c2.2.2);true/\(idx i c1->0<=i/\i<c1/\True/\(c4->1=bK (bh cs) i/\True)/\(c4=false->0=bK (bh cs) i/\True))):
  evF (mkc K5) az 238 [.dat I i,.ipv (.fn 161 []),.ip (.sl C) cs] [] ⟨idx i (Df cs),.dat I (bK (bh cs) i),[]⟩:=oE b
theorem oA(i:Int)(cs:LC)(ns os:LB)(f:Lo)(ls:Ll)(e:Lk)(b:
 let c1:=Di (b7 (fX os i));true/\(idx i (Df os)->idx i (Df os)/\True/\(c1->1=bA os i/\True)/\(c1=false->0=bA os i/\True))):
  evF (mkc K5) az 239 [.dat I i,.ipv (.fn 188 [.ip N (cs,ns,os,f,ls,e)])] [] ⟨idx i (Df os),.dat I (bA (os) i),[]⟩:=oE b
theorem gT(i:Int)(cs:LC)(ns os:LB)(f:Lo)(ls:Ll)(e:Lk)(b:
 let c4:=Df os;let c1:=(cs,ns,os,f,ls,e);true/\(qf i c4->(∃x,uv os i x/\i=i/\c1=c1/\i=i/\0=x/\True)/\∀(x:Int),let c2:=Fv (fX os x) (fX os i);let c3:=x+1;uv os i x->(Dp x i->idx x c4/\idx i c4/\(c2->4=rule2 os i/\True)/\(c2=false->inR .i64 c3/\∃y,uv os i y/\(i=i/\c1=c1/\i=i/\c3=y/\True)/\Dc (i-y)<Dc (i-x)))/\(Dp x i=false->0=rule2 os i/\True))):
  evF (mkc K5) (lvA [(2,[0,1,3,4,5,6])] (twA (os) i)) 240 [.dat I i,.ipv (.fn 188 [.ip N (cs,ns,os,f,ls,e)])] [] ⟨qf i (Df os),.dat I (rule2 (os) i),[]⟩:=oE b
theorem gL(i:Int)(cs:LC)(ns os:LB)(f:Lo)(ls:Ll)(e:Lk)(b:
 true/\(idx i (Df os)->0<=i/\i<Df os/\True/\(Di true->1=bK (bP os) i/\True)/\(Di true=false->0=bK (bP os) i/\True))):
  evF (mkc K5) az 241 [.dat I i,.ipv (.fn 190 []),.ip (.sl S) os] [] ⟨idx i (Df os),.dat I (bK (bP os) i),[]⟩:=oE b
theorem kI(i:Int)(cs:LC)(ns os:LB)(b:Lo)(ls:Ll)(f:Lk)(e:
 let c1:=Di (b7 (fX (aC b) i));true/\(idx i (Df b)->idx i (Df b)/\True/\(c1->1=bA (aC b) i/\True)/\(c1=false->0=bA (aC b) i/\True))):
  evF (mkc K5) az 242 [.dat I i,.ipv (.fn 191 [.ip N (cs,ns,os,b,ls,f)])] [] ⟨idx i (Df b),.dat I (bA (aC b) i),[]⟩:=oE e
theorem gS(i:Int)(cs:LC)(ns os:LB)(b:Lo)(ls:Ll)(f:Lk)(e:
 let c1:=Df b;let c2:=(cs,ns,os,b,ls,f);true/\(qf i c1->(∃x,uv (aC b) i x/\i=i/\c2=c2/\i=i/\0=x/\True)/\∀(x:Int),let c3:=Fv (fX (aC b) x) (fX (aC b) i);let c4:=x+1;uv (aC b) i x->(Dp x i->idx x c1/\idx i c1/\(c3->4=rule2 (aC b) i/\True)/\(c3=false->inR .i64 c4/\∃y,uv (aC b) i y/\(i=i/\c2=c2/\i=i/\c4=y/\True)/\Dc (i-y)<Dc (i-x)))/\(Dp x i=false->0=rule2 (aC b) i/\True))):
  evF (mkc K5) (lvA [(2,[0,1,3,4,5,6])] (twA (aC b) i)) 243 [.dat I i,.ipv (.fn 191 [.ip N (cs,ns,os,b,ls,f)])] [] ⟨qf i (Df b),.dat I (rule2 (aC b) i),[]⟩:=oE e
theorem gH(i:Int)(cs:LC)(ns os:LB)(b:Lo)(ls:Ll)(f:Lk)(g:
 let c1:=Df b;let c2:=(cs,ns,os,b,ls,f);let c9:=Di (cQ c2 (Du b (Dc i) (ByteArray.mk #[],(0:Int),(0:Int),(0:Int),(0:Int),(0:Int),Dt ByteArray)));let e:=bK (cI c2) i;true/\(idx i c1->0<=i/\i<c1/\True/\(c9->1=e/\True)/\(c9=false->0=e/\True))):
  evF (mkc K5) az 244 [.dat I i,.ipv (.fn 193 [.ip N (cs,ns,os,b,ls,f)]),.ip (.sl Of) b] [] ⟨idx i (Df b),.dat I (bK (cI (cs,ns,os,b,ls,f)) i),[]⟩:=oE g
theorem iX(i:Int)(cs:LC)(ns os:LB)(f:Lo)(ls:Ll)(e:Lk)(b:
 let c1:=Di (b7 (fX (aD ls) i));true/\(idx i (Df ls)->idx i (Df ls)/\True/\(c1->1=bA (aD ls) i/\True)/\(c1=false->0=bA (aD ls) i/\True))):
  evF (mkc K5) az 249 [.dat I i,.ipv (.fn 195 [.ip N (cs,ns,os,f,ls,e)])] [] ⟨idx i (Df ls),.dat I (bA (aD ls) i),[]⟩:=oE b
theorem gO(i:Int)(cs:LC)(ns os:LB)(f:Lo)(ls:Ll)(e:Lk)(b:
 let c1:=Df ls;let c2:=(cs,ns,os,f,ls,e);true/\(qf i c1->(∃x,uv (aD ls) i x/\i=i/\c2=c2/\i=i/\0=x/\True)/\∀(x:Int),let c3:=Fv (fX (aD ls) x) (fX (aD ls) i);let c4:=x+1;uv (aD ls) i x->(Dp x i->idx x c1/\idx i c1/\(c3->4=rule2 (aD ls) i/\True)/\(c3=false->inR .i64 c4/\∃y,uv (aD ls) i y/\(i=i/\c2=c2/\i=i/\c4=y/\True)/\Dc (i-y)<Dc (i-x)))/\(Dp x i=false->0=rule2 (aD ls) i/\True))):
  evF (mkc K5) (lvA [(2,[0,1,3,4,5,6])] (twA (aD ls) i)) 250 [.dat I i,.ipv (.fn 195 [.ip N (cs,ns,os,f,ls,e)])] [] ⟨qf i (Df ls),.dat I (rule2 (aD ls) i),[]⟩:=oE b
theorem gF(i:Int)(cs:LC)(ns os:LB)(f:Lo)(ls:Ll)(b:Lk)(e:
 let c1:=Df ls;let c2:=(cs,ns,os,f,ls,b);let g:=Di (cT c2 (Du ls (Dc i) (ByteArray.mk #[],(0:Int),(0:Int),(0:Int),(0:Int),(0:Int))));let c9:=bK (cy c2) i;true/\(idx i c1->0<=i/\i<c1/\True/\(g->1=c9/\True)/\(g=false->0=c9/\True))):
  evF (mkc K5) az 251 [.dat I i,.ipv (.fn 197 [.ip N (cs,ns,os,f,ls,b)]),.ip (.sl Ln) ls] [] ⟨idx i (Df ls),.dat I (bK (cy (cs,ns,os,f,ls,b)) i),[]⟩:=oE e
theorem iB(i:Int)(cs:LC)(ns os:LB)(f:Lo)(ls:Ll)(b:Lk)(e:
 let c1:=Di (b7 (fX (aE b) i));true/\(idx i (Df b)->idx i (Df b)/\True/\(c1->1=bA (aE b) i/\True)/\(c1=false->0=bA (aE b) i/\True))):
  evF (mkc K5) az 253 [.dat I i,.ipv (.fn 199 [.ip N (cs,ns,os,f,ls,b)])] [] ⟨idx i (Df b),.dat I (bA (aE b) i),[]⟩:=oE e
theorem gN(i:Int)(cs:LC)(ns os:LB)(f:Lo)(ls:Ll)(b:Lk)(e:
 let c1:=Df b;let c2:=(cs,ns,os,f,ls,b);true/\(qf i c1->(∃x,uv (aE b) i x/\i=i/\c2=c2/\i=i/\0=x/\True)/\∀(x:Int),let c3:=Fv (fX (aE b) x) (fX (aE b) i);let c4:=x+1;uv (aE b) i x->(Dp x i->idx x c1/\idx i c1/\(c3->4=rule2 (aE b) i/\True)/\(c3=false->inR .i64 c4/\∃y,uv (aE b) i y/\(i=i/\c2=c2/\i=i/\c4=y/\True)/\Dc (i-y)<Dc (i-x)))/\(Dp x i=false->0=rule2 (aE b) i/\True))):
  evF (mkc K5) (lvA [(2,[0,1,3,4,5,6])] (twA (aE b) i)) 254 [.dat I i,.ipv (.fn 199 [.ip N (cs,ns,os,f,ls,b)])] [] ⟨qf i (Df b),.dat I (rule2 (aE b) i),[]⟩:=oE e
theorem gE(i:Int)(cs:LC)(ns os:LB)(f:Lo)(ls:Ll)(b:Lk)(e:
 let c1:=Df b;let c4:=Di (ij (Du b (Dc i) (ByteArray.mk #[],(0:Int),(0:Int))));true/\(idx i c1->0<=i/\i<c1/\True/\(c4->1=bK (bn b) i/\True)/\(c4=false->0=bK (bn b) i/\True))):
  evF (mkc K5) az 255 [.dat I i,.ipv (.fn 201 []),.ip (.sl Kl) b] [] ⟨idx i (Df b),.dat I (bK (bn b) i),[]⟩:=oE e
def K6: Kt:=
 kOr 235 (aw [.val I,.fnp 186 N] (λ(i,(cs,ns,os,fs,ls,ks),_)=>idx i (Df cs)) λ(i,(cs,ns,os,fs,ls,ks),_)=>.dat I (bA (aA cs ns) i)) <|
 kOr 237 (aw [.val I,.fnp 186 N] (λ(i,(cs,ns,os,fs,ls,ks),_)=>qf i (Df cs)) λ(i,(cs,ns,os,fs,ls,ks),_)=>.dat I (rule2 (aA cs ns) i)) <|
 kOr 238 (aw [.val I,.fnp0 161,.ptr (.sl C)] (λ(i,_,cs,_)=>idx i (Df cs)) λ(i,_,cs,_)=>.dat I (bK (bh cs) i)) <|
 kOr 239 (aw [.val I,.fnp 188 N] (λ(i,(cs,ns,os,fs,ls,ks),_)=>idx i (Df os)) λ(i,(cs,ns,os,fs,ls,ks),_)=>.dat I (bA (os) i)) <|
 kOr 240 (aw [.val I,.fnp 188 N] (λ(i,(cs,ns,os,fs,ls,ks),_)=>qf i (Df os)) λ(i,(cs,ns,os,fs,ls,ks),_)=>.dat I (rule2 (os) i)) <|
 kOr 241 (aw [.val I,.fnp0 190,.ptr (.sl S)] (λ(i,_,os,_)=>idx i (Df os)) λ(i,_,os,_)=>.dat I (bK (bP os) i)) <|
 kOr 242 (aw [.val I,.fnp 191 N] (λ(i,(cs,ns,os,fs,ls,ks),_)=>idx i (Df fs)) λ(i,(cs,ns,os,fs,ls,ks),_)=>.dat I (bA (aC fs) i)) <|
 kOr 243 (aw [.val I,.fnp 191 N] (λ(i,(cs,ns,os,fs,ls,ks),_)=>qf i (Df fs)) λ(i,(cs,ns,os,fs,ls,ks),_)=>.dat I (rule2 (aC fs) i)) <|
 kOr 244 (aw [.val I,.fnp 193 N,.ptr (.sl Of)] (λ(i,(cs,ns,os,fs,ls,ks),xs,_)=>idx i (Df fs)/\xs=fs) λ(i,(cs,ns,os,fs,ls,ks),_,_)=>.dat I (bK (cI (cs,ns,os,fs,ls,ks)) i)) <|
 kOr 249 (aw [.val I,.fnp 195 N] (λ(i,(cs,ns,os,fs,ls,ks),_)=>idx i (Df ls)) λ(i,(cs,ns,os,fs,ls,ks),_)=>.dat I (bA (aD ls) i)) <|
 kOr 250 (aw [.val I,.fnp 195 N] (λ(i,(cs,ns,os,fs,ls,ks),_)=>qf i (Df ls)) λ(i,(cs,ns,os,fs,ls,ks),_)=>.dat I (rule2 (aD ls) i)) <|
 kOr 251 (aw [.val I,.fnp 197 N,.ptr (.sl Ln)] (λ(i,(cs,ns,os,fs,ls,ks),xs,_)=>idx i (Df ls)/\xs=ls) λ(i,(cs,ns,os,fs,ls,ks),_,_)=>.dat I (bK (cy (cs,ns,os,fs,ls,ks)) i)) <|
 kOr 253 (aw [.val I,.fnp 199 N] (λ(i,(cs,ns,os,fs,ls,ks),_)=>idx i (Df ks)) λ(i,(cs,ns,os,fs,ls,ks),_)=>.dat I (bA (aE ks) i)) <|
 kOr 254 (aw [.val I,.fnp 199 N] (λ(i,(cs,ns,os,fs,ls,ks),_)=>qf i (Df ks)) λ(i,(cs,ns,os,fs,ls,ks),_)=>.dat I (rule2 (aE ks) i)) <|
 kOr 255 (aw [.val I,.fnp0 201,.ptr (.sl Kl)] (λ(i,_,ks,_)=>idx i (Df ks)) λ(i,_,ks,_)=>.dat I (bK (bn ks) i)) <|
 K5
def Cj(kind lim:Int)(l:List ByteArray)(g:List Bool): Ann:=⟨λid st=>match id with
 | 4=>some {α:=Int,inv:=λk=>cJ k (Df l) lim,st:=λk=>gC (put st [(25,.dat I k),(12,.buf 100 (Dk (aQ kind l g k)))]) 100 (.buf 177 Fa (aQ kind l g k) []),μ:=λk=>Dc (Dh lim k)}
 | 7=>match st.sig.T 13 with
  | .dat (.int .i64) i=>some {α:=Int,inv:=λk=>bV l g i k,st:=λk=>put st [(29,.dat I k),(12,.buf 100 (Dk (aQ kind l g i)))],μ:=λk=>Dc (Dh 3 k)}
  | _=>none
 | _=>none,λ_ _=>none,λ_ _=>none⟩
theorem aAm(cs:LC)(ns os:LB)(L:Lo)(ls:Ll)(G:Lk)(z:
 let f:=aA cs ns;let c1:=Df cs;let c2:=Eu c1 6;let c3:=(cs,ns,os,L,ls,G);let c4:=Eh c1 6;let c5:=[((1:Int),(6:Int),(2:Int))];let c6:=bz 1 6 f (bh cs);true/\(True->1=1/\0=0/\(∃x,let c7:=aQ 1 f (bh cs) x;cJ x (Df f) 6/\(1:Int)=(1:Int)/\(6:Int)=(6:Int)/\cs=cs/\Value.slice none 0 0=Value.slice none 0 0/\1=1/\0=0/\0=0/\Dk c7=0/\c7=Dt (Int×Int×Int)/\c2=c2/\0=x/\c3=c3/\c3=c3/\cs=cs/\c7=Dt (Int×Int×Int)/\True)/\∀(x:Int),let A:=Df f;let c9:=aQ 1 f (bh cs) x;let e:=Dk c9;let c12:=x+1;let c13:=e+Dk c5;let c14:=Ef c9 c5;cJ x A 6->(Dp x c2->1=1/\0=0/\(∃b,bV f (bh cs) x b/\(1:Int)=(1:Int)/\(6:Int)=(6:Int)/\cs=cs/\Value.slice none 0 0=Value.slice none 0 0/\1=1/\0=0/\0=0/\e=e/\x=x/\c2=c2/\x=x/\c3=c3/\c3=c3/\cs=cs/\0=b/\c3=c3/\c3=c3/\cs=cs/\c9=c9/\True)/\∀(b:Int),let c15:=Dp b 3;let v:=Du [bA f x,rule2 f x,bK (bh cs) x] (Dc b) 0;let u:=Ec v 0;let r:=[((1:Int),x,v)];let g:=e+Dk r;let j:=b+1;bV f (bh cs) x b->(c15->0<=b/\b<Dx 3/\(Dc b=0->idx x c1)/\(Dc b=1->qf x c1)/\(Dc b=2->idx x c1)/\(u->e=e/\(g*24)<=140737488355328/\g<=9223372036854775807/\inR .i64 c12/\∃y,let i:=aQ 1 f (bh cs) y;
 cJ y A 6/\((1:Int)=(1:Int)/\(6:Int)=(6:Int)/\cs=cs/\Value.slice none 0 0=Value.slice none 0 0/\1=1/\0=0/\0=0/\g=Dk i/\c2=c2/\c12=y/\c3=c3/\c3=c3/\cs=cs/\Ef c9 r=i/\True)/\Dc (6-y)<Dc (6-x))/\(u=false->inR .i64 j/\∃y,bV f (bh cs) x y/\((1:Int)=(1:Int)/\(6:Int)=(6:Int)/\cs=cs/\Value.slice none 0 0=Value.slice none 0 0/\1=1/\0=0/\0=0/\e=e/\x=x/\c2=c2/\x=x/\c3=c3/\c3=c3/\cs=cs/\j=y/\c3=c3/\c3=c3/\cs=cs/\c9=c9/\True)/\Dc (3-y)<Dc (3-b)))/\(c15=false->inR .i64 c12/\∃y,let h:=aQ 1 f (bh cs) y;cJ y A 6/\((1:Int)=(1:Int)/\(6:Int)=(6:Int)/\cs=cs/\Value.slice none 0 0=Value.slice none 0 0/\1=1/\0=0/\0=0/\e=Dk h/\c2=c2/\c12=y/\c3=c3/\c3=c3/\cs=cs/\c9=h/\True)/\Dc (6-y)<Dc (6-x)))/\(Dp x c2=false->(c4->e=e/\(c13*24)<=140737488355328/\c13<=9223372036854775807/\Dk c14=c13/\c14=c6/\True)/\(c4=false->e=e/\c9=c6/\True)))):
  evF (mkc K6) (lvA [(4,[0,1,7,10,11,12,13,15,16,24,25,28,29]),(7,[0,1,7,10,11,12,13,15,16,24,25,28,29])] (Cj 1 6 (aA cs ns) (bh cs))) 187 [.dat I 1,.dat I 6,.dat (.sl C) cs,.fn 186 [.ip N (cs,ns,os,L,ls,G)],.fn 161 []] [] ⟨True,.dat (.sl Fa) (bz 1 6 (aA cs ns) (bh cs)),[]⟩:=oE z
theorem aAl(cs:LC)(ns os:LB)(A:Lo)(ls:Ll)(z:Lk)(v:
 let c9:=Df os;let c1:=Eu c9 6;let c2:=(cs,ns,os,A,ls,z);let c3:=Eh c9 6;let c4:=[((2:Int),(6:Int),(2:Int))];let c5:=bz 2 6 os (bP os);true/\(True->1=1/\0=0/\(∃x,let c6:=aQ 2 os (bP os) x;cJ x c9 6/\(2:Int)=(2:Int)/\(6:Int)=(6:Int)/\os=os/\Value.slice none 0 0=Value.slice none 0 0/\1=1/\0=0/\0=0/\Dk c6=0/\c6=Dt (Int×Int×Int)/\c1=c1/\0=x/\c2=c2/\c2=c2/\os=os/\c6=Dt (Int×Int×Int)/\True)/\∀(x:Int),let c7:=aQ 2 os (bP os) x;let e:=Dk c7;let f:=x+1;let h:=e+Dk c4;let c12:=Ef c7 c4;cJ x c9 6->(Dp x c1->1=1/\0=0/\(∃b,bV os (bP os) x b/\(2:Int)=(2:Int)/\(6:Int)=(6:Int)/\os=os/\Value.slice none 0 0=Value.slice none 0 0/\1=1/\0=0/\0=0/\e=e/\x=x/\c1=c1/\x=x/\c2=c2/\c2=c2/\os=os/\0=b/\c2=c2/\c2=c2/\os=os/\c7=c7/\True)/\∀(b:Int),let c13:=Dp b 3;let c14:=Du [bA os x,rule2 os x,bK (bP os) x] (Dc b) 0;let c15:=Ec c14 0;let u:=[((2:Int),x,c14)];let g:=e+Dk u;let r:=b+1;bV os (bP os) x b->(c13->0<=b/\b<Dx 3/\(Dc b=0->idx x c9)/\(Dc b=1->qf x c9)/\(Dc b=2->idx x c9)/\(c15->e=e/\(g*24)<=140737488355328/\g<=9223372036854775807/\inR .i64 f/\∃y,let j:=aQ 2 os (bP os) y;
 cJ y c9 6/\((2:Int)=(2:Int)/\(6:Int)=(6:Int)/\os=os/\Value.slice none 0 0=Value.slice none 0 0/\1=1/\0=0/\0=0/\g=Dk j/\c1=c1/\f=y/\c2=c2/\c2=c2/\os=os/\Ef c7 u=j/\True)/\Dc (6-y)<Dc (6-x))/\(c15=false->inR .i64 r/\∃y,bV os (bP os) x y/\((2:Int)=(2:Int)/\(6:Int)=(6:Int)/\os=os/\Value.slice none 0 0=Value.slice none 0 0/\1=1/\0=0/\0=0/\e=e/\x=x/\c1=c1/\x=x/\c2=c2/\c2=c2/\os=os/\r=y/\c2=c2/\c2=c2/\os=os/\c7=c7/\True)/\Dc (3-y)<Dc (3-b)))/\(c13=false->inR IntKind.i64 f/\∃y,let i:=aQ 2 os (bP os) y;cJ y c9 6/\((2:Int)=(2:Int)/\(6:Int)=(6:Int)/\os=os/\Value.slice none 0 0=Value.slice none 0 0/\1=1/\0=0/\0=0/\e=Dk i/\c1=c1/\f=y/\c2=c2/\c2=c2/\os=os/\c7=i/\True)/\Dc (6-y)<Dc (6-x)))/\(Dp x c1=false->(c3->e=e/\(h*24)<=140737488355328/\h<=9223372036854775807/\Dk c12=h/\c12=c5/\True)/\(c3=false->e=e/\c7=c5/\True)))):
  evF (mkc K6) (lvA [(4,[0,1,7,10,11,12,13,15,16,24,25,28,29]),(7,[0,1,7,10,11,12,13,15,16,24,25,28,29])] (Cj 2 6 (os) (bP os))) 189 [.dat I 2,.dat I 6,.dat (.sl S) os,.fn 188 [.ip N (cs,ns,os,A,ls,z)],.fn 190 []] [] ⟨True,.dat (.sl Fa) (bz 2 6 (os) (bP os)),[]⟩:=oE v
theorem aAk(cs:LC)(ns os:LB)(b:Lo)(ls:Ll)(i:Lk)(G:
 let g:=Df (aC b);let c1:=(cs,ns,os,b,ls,i);let c2:=cI c1;let c3:=Df b;let c4:=Eu c3 12;let c5:=Eh c3 12;let c6:=[((3:Int),(12:Int),(2:Int))];let c7:=bz 3 12 (aC b) c2;true/\(True->1=1/\0=0/\(∃x,let L:=aQ 3 (aC b) c2 x;cJ x g 12/\(3:Int)=(3:Int)/\(12:Int)=(12:Int)/\b=b/\Value.slice none 0 0=Value.slice none 0 0/\1=1/\0=0/\0=0/\Dk L=0/\L=Dt (Int×Int×Int)/\c4=c4/\0=x/\c1=c1/\c1=c1/\c1=c1/\b=b/\L=Dt (Int×Int×Int)/\True)/\∀(x:Int),let c9:=aQ 3 (aC b) c2 x;let f:=Dk c9;let c12:=x+1;let c13:=f+Dk c6;let c14:=Ef c9 c6;cJ x g 12->(Dp x c4->1=1/\0=0/\(∃e,bV (aC b) c2 x e/\(3:Int)=(3:Int)/\(12:Int)=(12:Int)/\b=b/\Value.slice none 0 0=Value.slice none 0 0/\1=1/\0=0/\0=0/\f=f/\x=x/\c4=c4/\x=x/\c1=c1/\c1=c1/\c1=c1/\b=b/\0=e/\c1=c1/\c1=c1/\c1=c1/\b=b/\c9=c9/\True)/\∀(e:Int),let c15:=Dp e 3;let A:=Du [bA (aC b) x,rule2 (aC b) x,bK c2 x] (Dc e) 0;let z:=Ec A 0;let v:=[((3:Int),x,A)];let h:=f+Dk v;let u:=e+1;bV (aC b) c2 x e->(c15->0<=e/\e<Dx 3/\(Dc e=0->idx x c3)/\(Dc e=1->qf x c3)/\(Dc e=2->idx x c3/\b=b)/\(z->f=f/\(h*24)<=140737488355328/\h<=9223372036854775807/\inR .i64 c12/\∃y,let r:=aQ 3 (aC b) c2 y;
 cJ y g 12/\((3:Int)=(3:Int)/\(12:Int)=(12:Int)/\b=b/\Value.slice none 0 0=Value.slice none 0 0/\1=1/\0=0/\0=0/\h=Dk r/\c4=c4/\c12=y/\c1=c1/\c1=c1/\c1=c1/\b=b/\Ef c9 v=r/\True)/\Dc (12-y)<Dc (12-x))/\(z=false->inR .i64 u/\∃y,bV (aC b) c2 x y/\((3:Int)=(3:Int)/\(12:Int)=(12:Int)/\b=b/\Value.slice none 0 0=Value.slice none 0 0/\1=1/\0=0/\0=0/\f=f/\x=x/\c4=c4/\x=x/\c1=c1/\c1=c1/\c1=c1/\b=b/\u=y/\c1=c1/\c1=c1/\c1=c1/\b=b/\c9=c9/\True)/\Dc (3-y)<Dc (3-e)))/\(c15=false->inR .i64 c12/\∃y,let j:=aQ 3 (aC b) c2 y;cJ y g 12/\((3:Int)=(3:Int)/\(12:Int)=(12:Int)/\b=b/\Value.slice none 0 0=Value.slice none 0 0/\1=1/\0=0/\0=0/\f=Dk j/\c4=c4/\c12=y/\c1=c1/\c1=c1/\c1=c1/\b=b/\c9=j/\True)/\Dc (12-y)<Dc (12-x)))/\(Dp x c4=false->(c5->f=f/\(c13*24)<=140737488355328/\c13<=9223372036854775807/\Dk c14=c13/\c14=c7/\True)/\(c5=false->f=f/\c9=c7/\True)))):
  evF (mkc K6) (lvA [(4,[0,1,7,10,11,12,13,15,16,24,25,28,29]),(7,[0,1,7,10,11,12,13,15,16,24,25,28,29])] (Cj 3 12 (aC b) (cI (cs,ns,os,b,ls,i)))) 192 [.dat I 3,.dat I 12,.dat (.sl Of) b,.fn 191 [.ip N (cs,ns,os,b,ls,i)],.fn 193 [.ip N (cs,ns,os,b,ls,i)]] [] ⟨True,.dat (.sl Fa) (bz 3 12 (aC b) (cI (cs,ns,os,b,ls,i))),[]⟩:=oE G
theorem aAj(cs:LC)(ns os:LB)(i:Lo)(ls:Ll)(h:Lk)(G:
 let f:=Df (aD ls);let c1:=(cs,ns,os,i,ls,h);let c2:=cy c1;let c3:=Df ls;let c4:=Eu c3 40;let c5:=Eh c3 40;let c6:=[((4:Int),(40:Int),(2:Int))];let c7:=bz 4 40 (aD ls) c2;true/\(True->1=1/\0=0/\(∃x,let L:=aQ 4 (aD ls) c2 x;cJ x f 40/\(4:Int)=(4:Int)/\(40:Int)=(40:Int)/\ls=ls/\Value.slice none 0 0=Value.slice none 0 0/\1=1/\0=0/\0=0/\Dk L=0/\L=Dt (Int×Int×Int)/\c4=c4/\0=x/\c1=c1/\c1=c1/\c1=c1/\ls=ls/\L=Dt (Int×Int×Int)/\True)/\∀(x:Int),let c9:=aQ 4 (aD ls) c2 x;let e:=Dk c9;let c12:=x+1;let c13:=e+Dk c6;let c14:=Ef c9 c6;cJ x f 40->(Dp x c4->1=1/\0=0/\(∃b,bV (aD ls) c2 x b/\(4:Int)=(4:Int)/\(40:Int)=(40:Int)/\ls=ls/\Value.slice none 0 0=Value.slice none 0 0/\1=1/\0=0/\0=0/\e=e/\x=x/\c4=c4/\x=x/\c1=c1/\c1=c1/\c1=c1/\ls=ls/\0=b/\c1=c1/\c1=c1/\c1=c1/\ls=ls/\c9=c9/\True)/\∀(b:Int),let c15:=Dp b 3;let A:=Du [bA (aD ls) x,rule2 (aD ls) x,bK c2 x] (Dc b) 0;let z:=Ec A 0;let v:=[((4:Int),x,A)];let g:=e+Dk v;let u:=b+1;bV (aD ls) c2 x b->(c15->0<=b/\b<Dx 3/\(Dc b=0->idx x c3)/\(Dc b=1->qf x c3)/\(Dc b=2->idx x c3/\ls=ls)/\(z->e=e/\(g*24)<=140737488355328/\g<=9223372036854775807/\inR .i64 c12/\∃y,let r:=aQ 4 (aD ls) c2 y;
 cJ y f 40/\((4:Int)=(4:Int)/\(40:Int)=(40:Int)/\ls=ls/\Value.slice none 0 0=Value.slice none 0 0/\1=1/\0=0/\0=0/\g=Dk r/\c4=c4/\c12=y/\c1=c1/\c1=c1/\c1=c1/\ls=ls/\Ef c9 v=r/\True)/\Dc (40-y)<Dc (40-x))/\(z=false->inR .i64 u/\∃y,bV (aD ls) c2 x y/\((4:Int)=(4:Int)/\(40:Int)=(40:Int)/\ls=ls/\Value.slice none 0 0=Value.slice none 0 0/\1=1/\0=0/\0=0/\e=e/\x=x/\c4=c4/\x=x/\c1=c1/\c1=c1/\c1=c1/\ls=ls/\u=y/\c1=c1/\c1=c1/\c1=c1/\ls=ls/\c9=c9/\True)/\Dc (3-y)<Dc (3-b)))/\(c15=false->inR .i64 c12/\∃y,let j:=aQ 4 (aD ls) c2 y;cJ y f 40/\((4:Int)=(4:Int)/\(40:Int)=(40:Int)/\ls=ls/\Value.slice none 0 0=Value.slice none 0 0/\1=1/\0=0/\0=0/\e=Dk j/\c4=c4/\c12=y/\c1=c1/\c1=c1/\c1=c1/\ls=ls/\c9=j/\True)/\Dc (40-y)<Dc (40-x)))/\(Dp x c4=false->(c5->e=e/\(c13*24)<=140737488355328/\c13<=9223372036854775807/\Dk c14=c13/\c14=c7/\True)/\(c5=false->e=e/\c9=c7/\True)))):
  evF (mkc K6) (lvA [(4,[0,1,7,10,11,12,13,15,16,24,25,28,29]),(7,[0,1,7,10,11,12,13,15,16,24,25,28,29])] (Cj 4 40 (aD ls) (cy (cs,ns,os,i,ls,h)))) 196 [.dat I 4,.dat I 40,.dat (.sl Ln) ls,.fn 195 [.ip N (cs,ns,os,i,ls,h)],.fn 197 [.ip N (cs,ns,os,i,ls,h)]] [] ⟨True,.dat (.sl Fa) (bz 4 40 (aD ls) (cy (cs,ns,os,i,ls,h))),[]⟩:=oE G
theorem aAi(cs:LC)(ns os:LB)(G:Lo)(ls:Ll)(b:Lk)(A:
 let h:=Df (aE b);let c1:=Df b;let c2:=Eu c1 4;let c3:=(cs,ns,os,G,ls,b);let c4:=Eh c1 4;let c5:=[((5:Int),(4:Int),(2:Int))];let c6:=bz 5 4 (aE b) (bn b);true/\(True->1=1/\0=0/\(∃x,let c7:=aQ 5 (aE b) (bn b) x;cJ x h 4/\(5:Int)=(5:Int)/\(4:Int)=(4:Int)/\b=b/\Value.slice none 0 0=Value.slice none 0 0/\1=1/\0=0/\0=0/\Dk c7=0/\c7=Dt (Int×Int×Int)/\c2=c2/\0=x/\c3=c3/\c3=c3/\b=b/\c7=Dt (Int×Int×Int)/\True)/\∀(x:Int),let f:=aQ 5 (aE b) (bn b) x;let c9:=Dk f;let g:=x+1;let c12:=c9+Dk c5;let c13:=Ef f c5;cJ x h 4->(Dp x c2->1=1/\0=0/\(∃e,bV (aE b) (bn b) x e/\(5:Int)=(5:Int)/\(4:Int)=(4:Int)/\b=b/\Value.slice none 0 0=Value.slice none 0 0/\1=1/\0=0/\0=0/\c9=c9/\x=x/\c2=c2/\x=x/\c3=c3/\c3=c3/\b=b/\0=e/\c3=c3/\c3=c3/\b=b/\f=f/\True)/\∀(e:Int),let c14:=Dp e 3;let c15:=Du [bA (aE b) x,rule2 (aE b) x,bK (bn b) x] (Dc e) 0;let z:=Ec c15 0;let v:=[((5:Int),x,c15)];let i:=c9+Dk v;let u:=e+1;bV (aE b) (bn b) x e->(c14->0<=e/\e<Dx 3/\(Dc e=0->idx x c1)/\(Dc e=1->qf x c1)/\(Dc e=2->idx x c1)/\(z->c9=c9/\(i*24)<=140737488355328/\i<=9223372036854775807/\inR .i64 g/\∃y,let r:=aQ 5 (aE b) (bn b) y;
 cJ y h 4/\((5:Int)=(5:Int)/\(4:Int)=(4:Int)/\b=b/\Value.slice none 0 0=Value.slice none 0 0/\1=1/\0=0/\0=0/\i=Dk r/\c2=c2/\g=y/\c3=c3/\c3=c3/\b=b/\Ef f v=r/\True)/\Dc (4-y)<Dc (4-x))/\(z=false->inR .i64 u/\∃y,bV (aE b) (bn b) x y/\((5:Int)=(5:Int)/\(4:Int)=(4:Int)/\b=b/\Value.slice none 0 0=Value.slice none 0 0/\1=1/\0=0/\0=0/\c9=c9/\x=x/\c2=c2/\x=x/\c3=c3/\c3=c3/\b=b/\u=y/\c3=c3/\c3=c3/\b=b/\f=f/\True)/\Dc (3-y)<Dc (3-e)))/\(c14=false->inR .i64 g/\∃y,let j:=aQ 5 (aE b) (bn b) y;cJ y h 4/\((5:Int)=(5:Int)/\(4:Int)=(4:Int)/\b=b/\Value.slice none 0 0=Value.slice none 0 0/\1=1/\0=0/\0=0/\c9=Dk j/\c2=c2/\g=y/\c3=c3/\c3=c3/\b=b/\f=j/\True)/\Dc (4-y)<Dc (4-x)))/\(Dp x c2=false->(c4->c9=c9/\(c12*24)<=140737488355328/\c12<=9223372036854775807/\Dk c13=c12/\c13=c6/\True)/\(c4=false->c9=c9/\f=c6/\True)))):
  evF (mkc K6) (lvA [(4,[0,1,7,10,11,12,13,15,16,24,25,28,29]),(7,[0,1,7,10,11,12,13,15,16,24,25,28,29])] (Cj 5 4 (aE b) (bn b))) 200 [.dat I 5,.dat I 4,.dat (.sl Kl) b,.fn 199 [.ip N (cs,ns,os,G,ls,b)],.fn 201 []] [] ⟨True,.dat (.sl Fa) (bz 5 4 (aE b) (bn b)),[]⟩:=oE A
def K7: Kt:=
 kOr 187 (aw [.val I,.val I,.val (.sl C),.fn 186 N,.fn0 161] (λ(k,m,xs,(cs,ns,os,fs,ls,ks),_,_)=>k=1/\m=6/\xs=cs) λ(_,_,_,(cs,ns,os,fs,ls,ks),_,_)=>.dat (.sl Fa) (bz 1 6 (aA cs ns) (bh cs))) <|
 kOr 189 (aw [.val I,.val I,.val (.sl S),.fn 188 N,.fn0 190] (λ(k,m,xs,(cs,ns,os,fs,ls,ks),_,_)=>k=2/\m=6/\xs=os) λ(_,_,_,(cs,ns,os,fs,ls,ks),_,_)=>.dat (.sl Fa) (bz 2 6 (os) (bP os))) <|
 kOr 192 (aw [.val I,.val I,.val (.sl Of),.fn 191 N,.fn 193 N] (λ(k,m,xs,(cs,ns,os,fs,ls,ks),n2,_)=>k=3/\m=12/\xs=fs/\n2=(cs,ns,os,fs,ls,ks)) λ(_,_,_,(cs,ns,os,fs,ls,ks),_,_)=>.dat (.sl Fa) (bz 3 12 (aC fs) (cI (cs,ns,os,fs,ls,ks)))) <|
 kOr 196 (aw [.val I,.val I,.val (.sl Ln),.fn 195 N,.fn 197 N] (λ(k,m,xs,(cs,ns,os,fs,ls,ks),n2,_)=>k=4/\m=40/\xs=ls/\n2=(cs,ns,os,fs,ls,ks)) λ(_,_,_,(cs,ns,os,fs,ls,ks),_,_)=>.dat (.sl Fa) (bz 4 40 (aD ls) (cy (cs,ns,os,fs,ls,ks)))) <|
 kOr 200 (aw [.val I,.val I,.val (.sl Kl),.fn 199 N,.fn0 201] (λ(k,m,xs,(cs,ns,os,fs,ls,ks),_,_)=>k=5/\m=4/\xs=ks) λ(_,_,_,(cs,ns,os,fs,ls,ks),_,_)=>.dat (.sl Fa) (bz 5 4 (aE ks) (bn ks))) <|
 K6
theorem La(cs:LC)(ns os:LB)(r:Lo)(ls:Ll)(j:Lk)(hvc:
 let A:=(5:Int)=(5:Int)/\(4:Int)=(4:Int)/\j=j;let G:=(2:Int)=(2:Int)/\(6:Int)=(6:Int)/\os=os;let L:=(1:Int)=(1:Int)/\(6:Int)=(6:Int)/\cs=cs;let c1:=Ec (Df ns) (Df cs);let c2:=[((1:Int),(-1:Int),(1:Int))];let c3:=Dk c2;let c4:=bz 1 6 (aA cs ns) (bh cs);let c5:=Dk c4;let c6:=c3+c5;let c7:=Ef c2 c4;let c8:=bz 2 6 os (bP os);let c9:=Dk c8;let i:=c6+c9;let b:=(cs,ns,os,r,ls,j);let O:=(4:Int)=(4:Int)/\(40:Int)=(40:Int)/\ls=ls/\b=b;let T:=(3:Int)=(3:Int)/\(12:Int)=(12:Int)/\r=r/\b=b;let c12:=Ef c7 c8;let c13:=bz 3 12 (aC r) (cI b);let c14:=Dk c13;let c15:=i+c14;let c16:=Ef c12 c13;let z:=bz 4 40 (aD ls) (cy b);let c18:=Dk z;let h:=c15+c18;let c20:=Ef c16 z;let y:=bz 5 4 (aE j) (bn j);let c22:=Dk y;let x:=h+c22;let v:=ew b;let c25:=Dk v;let g:=c5+c9;let Z:=Ef c4 c8;let f:=g+c14;let X:=Ef Z c13;let e:=f+c18;let V:=Ef X z;let u:=e+c22;
 true/\(True->(c1->(c3*24)<=140737488355328/\c3<=9223372036854775807/\L/\c3=c3/\(c6*24)<=140737488355328/\c6<=9223372036854775807/\G/\Dk c7=c6/\(i*24)<=140737488355328/\i<=9223372036854775807/\T/\Dk c12=i/\(c15*24)<=140737488355328/\c15<=9223372036854775807/\O/\Dk c16=c15/\(h*24)<=140737488355328/\h<=9223372036854775807/\A/\Dk c20=h/\(x*24)<=140737488355328/\x<=9223372036854775807/\x=c25/\Ef c20 y=v/\True)/\(c1=false->L/\(c5*24)<=140737488355328/\c5<=9223372036854775807/\G/\c5=c5/\(g*24)<=140737488355328/\g<=9223372036854775807/\T/\Dk Z=g/\(f*24)<=140737488355328/\f<=9223372036854775807/\O/\Dk X=f/\(e*24)<=140737488355328/\e<=9223372036854775807/\A/\Dk V=e/\(u*24)<=140737488355328/\u<=9223372036854775807/\u=c25/\Ef V y=v/\True))):
  evF (mkc K7) az 129 [net cs ns os r ls j] [] ⟨True,.buf 0 (Dk (ew (cs,ns,os,r,ls,j))),[(0,.buf 177 Fa (ew (cs,ns,os,r,ls,j)) [])]⟩:=oE hvc
theorem XK(i:Int)(xs:List Of.den): af Tryz.prog G0 252 [.dat I i,.dat (.sl Of) xs] [] ⟨True,.dat .bool (dF i (Df xs)),[]⟩:=by
 refine ae (c:=mkc K2) KS2 aK hm (QU i xs ⟨rfl,λ_=>?_⟩);simp only[qc,Dj,Es,Di,dF,Ed,Dp,lO,kQ]
theorem aAM(i:Int)(xs:List S.den): af Tryz.prog G0 245 [.dat I i,.dat (.sl S) xs] [] ⟨True,.dat .bool (dF i (Df xs)),[]⟩:=by
 refine ae (c:=mkc K2) KS2 aK hm (WU i xs ⟨rfl,λ_=>?_⟩);simp only[qc,Dj,Es,Di,dF,Ed,Dp,lO,kQ]
theorem aAN(i:Int)(xs:List C.den): af Tryz.prog G0 246 [.dat I i,.dat (.sl C) xs] [] ⟨True,.dat .bool (dF i (Df xs)),[]⟩:=by
 refine ae (c:=mkc K2) KS2 aK hm (WV i xs ⟨rfl,λ_=>?_⟩);simp only[qc,Dj,Es,Di,dF,Ed,Dp,lO,kQ]
theorem KS3: aj Tryz.prog G0 K3:=
 ai (ag λ(i,xs,_)=>XK i xs)<|ai (ag λ(i,xs,_)=>aAM i xs)<|ai (ag λ(i,xs,_)=>aAN i xs) KS2
theorem Cb(l:List ByteArray): jX l 0:=⟨qL _,qV _,by simp⟩
theorem Cc{l:List ByteArray}{x:Int}(h:jX l x)(f:x<l.length)(b:cP (l.getD x.toNat ⟨#[]⟩)=true): jX l (x+1):=by
 obtain⟨i,g,e⟩:=h;refine⟨by omega,by omega,?_⟩;rw[show(x+1).toNat=x.toNat+1 by omega];exact gR (d:=⟨#[]⟩) e (by omega) b
theorem OQ{l:List ByteArray}{x:Int}(h:jX l x)(e:x<l.length)(b:cP (l.getD x.toNat ⟨#[]⟩)=false): l.all cP=false:=
 pE (d:=⟨#[]⟩) (k:=x.toNat) (by have:=h.1;omega) b
theorem FT{l:List ByteArray}{x:Int}(h:jX l x)(e:¬x<l.length): l.all cP=true:=by
 obtain⟨g,f,b⟩:=h
 rwa [qQ (by omega)]at b
theorem Af(cs:LC)(ns os:LB)(y:Lo)(ls:Ll)(j:Lk)(L:ByteArray)(i g G A z:Int)(f:List ByteArray): af Tryz.prog G0 194 [net cs ns os y ls j,.agg [.dat .str L,.dat (.int .i64) i,.dat (.int .i64) g,.dat (.int .i64) G,.dat (.int .i64) A,.dat (.int .i64) z,.dat (.sl .str) f]] [] ⟨True,.dat .bool (cQ (cs,ns,os,y,ls,j) (L,i,g,G,A,z,f)),[]⟩:=by
 refine ae (c:=mkc K3) KS3 aK hm (w8 cs ns os y ls j L i g G A z f ⟨rfl,λ_=>?_⟩);simp only[qc,Dj,Es,Di,qd,Dt,Eb,Ec,Dp,Eh,Ei,Ed,Ey,Df,Et,Dl,Dn,Eo,Dy,Dw,Dh,Dq,Ee,Fh,Dc,Dx,Dk,Dz,Ej,Du,Eu,Ez,En,Ef,Fe,Fj,Fg,Ep,Em,Ew,Fb];refine⟨λh=>?_,λ⟨⟨Z,X⟩,h3⟩=>⟨Cb f,λx e=>⟨λb=>⟨e.1,b,λhb=>?_,λO=>⟨⟨by have:=e.1;omega,by omega⟩,x+1,Cc e b O,rfl,by have:=e.1;omega⟩⟩,λr=>?_⟩⟩⟩
 .unfold cQ;rcases h with(h | h) | h
  .rw[show dF _ _=false from h];rfl
  .rw[show dF g _=false from h];simp
  .have:decide (f.length<=20)=false:=vV (by omega);simp[this]
 .have:=OQ e b hb;simp[cQ,this]
 .have V:=FT e r;have T:decide (f.length<=20)=true:=qW (by omega);have v:dF i (os.length:Int)=true:=Z;have u:dF g (cs.length:Int)=true:=X;simp only[cQ,v,u,V,T,zQ]
theorem IY(cs:LC)(ns os:LB)(e:Lo)(ls:Ll)(g:Lk)(y:ByteArray)(f b x v u:Int): af Tryz.prog G0 198 [net cs ns os e ls g,.agg [.dat .str y,.dat (.int .i64) f,.dat (.int .i64) b,.dat (.int .i64) x,.dat (.int .i64) v,.dat (.int .i64) u]] [] ⟨True,.dat .bool (cT (cs,ns,os,e,ls,g) (y,f,b,x,v,u)),[]⟩:=by
 refine ae (c:=mkc K3) KS3 aK hm (DC cs ns os e ls g y f b x v u ⟨rfl,λ_=>?_⟩);simp only[qc,Dj,Es,Di,qd,Dt,Eb,Ec,Dp,Eh,Ei,Ed,Ey,Df,Et,Dl,Dn,Eo,Dy,Dw,Dh,Dq,Ee,Fh,Dc,Dx,Dk,Dz,Ej,Du,Eu,Ez,En,Ef,Fe,Fj,Fg,Ep,Em,Ew,Fb];refine⟨λh=>?_,λ⟨⟨G,A⟩,z⟩=>?_⟩
 .unfold cT;rcases h with(h | h) | h
  .rw[show dF _ _=false from h];rfl
  .rw[show dF b _=false from h];simp
  .simp[h]
 .have r:dF f (e.length:Int)=true:=G;have j:dF b (e.length:Int)=true:=A;have i:decide (f≠b)=true:=qW z;simp only[cT,r,j,i,zQ]
theorem KS4: aj Tryz.prog G0 K4:=
 ai (ag λ((cs,ns,os,e,ls,b),(r,j,i,h,g,f,u),_)=>Af cs ns os e ls b r j i h g f u)<|ai (ag λ((cs,ns,os,e,ls,b),(r,j,i,h,g,f),_)=>IY cs ns os e ls b r j i h g f) KS3
theorem lZ{α β:Type}(f:α->β)(l:List α)(i:Nat)(d:α)(e:β)(hi:i<l.length): (l.map f).getD i e=f (l.getD i d):=by
 simp only[qA,qO,qB hi,zC,qP]
theorem tZ{cs:List (Int×List Bool×Li)}{ns:List ByteArray}{i:Int}(e:0<=i)(b:i<cs.length): fX (aA cs ns) i=ns.getD i.toNat ⟨#[]⟩:=by
 unfold fX aA;rw[lZ (λi=>ns.getD i ⟨#[]⟩) _ _ 0 _ (by rw[vI];omega)];show ns.getD ((List.range cs.length).getD i.toNat 0) _=_;rw[show(List.range cs.length).getD i.toNat 0=i.toNat by rw[qA,vT (by omega)];rfl]
theorem Ji{α:Type}{f:α->ByteArray}{l:List α}{i:Int}(d:α)(e:0<=i)(b:i<l.length): fX (l.map f) i=f (l.getD i.toNat d):=lZ _ _ _ _ _ (by omega)
theorem aDM(i:Int)(cs:LC)(ns os:LB)(g:Lo)(ls:Ll)(f:Lk): af Tryz.prog G0 186 [.dat I i,.ip N (cs,ns,os,g,ls,f)] [] ⟨idx i (Df cs),.dat S (fX (aA cs ns) i),[]⟩:=by
 refine ae (c:=mkc K4) KS4 aK hm (tS i cs ns os g ls f ⟨rfl,λ⟨b,e⟩=>?_⟩);have b:0<=i:=b;have e:i<(cs.length:Int):=e;simp only[qc,Dj,Es,Di,qd,Dt,Eb,Ec,Dp,Eh,Ei,Ed,Ey,Df,Et,Dl,Dn,Eo,Dy,Dw,Dh,Dq,Ee,Fh,Dc,Dx,Dk,Dz,Ej,Du,Eu,Ez,En,Ef,Fe,Fj,Fg,Ep,Em,Ew,Fb,tZ b e];refine⟨λh=>⟨b,h⟩,λh=>?_⟩;rw[qA,wV (by omega)];rfl
theorem aDL(i:Int)(cs:LC)(ns os:LB)(e:Lo)(ls:Ll)(b:Lk): af Tryz.prog G0 188 [.dat I i,.ip N (cs,ns,os,e,ls,b)] [] ⟨idx i (Df os),.dat S (fX os i),[]⟩:=by
 refine ae (c:=mkc K4) KS4 aK hm (tF i cs ns os e ls b ⟨rfl,λ⟨g,f⟩=>?_⟩);simp only[qc,Dj,Es,Di,qd,Dt,Eb,Ec,Dp,Eh,Ei,Ed,Ey,Df,Et,Dl,Dn,Eo,Dy,Dw,Dh,Dq,Ee,Fh,Dc,Dx,Dk,Dz,Ej,Du,Eu,Ez,En,Ef,Fe,Fj,Fg,Ep,Em,Ew,Fb];exact⟨g,f,rfl⟩
theorem aDX(b:ByteArray): af Tryz.prog G0 190 [.agg [.dat .str b]] [] ⟨True,.dat .bool true,[]⟩:=
 ae (c:=mkc K4) KS4 aK hm (aAg b ⟨rfl,λ_=>⟨rfl,trivial⟩⟩)
theorem aDK(i:Int)(cs:LC)(ns os:LB)(b:Lo)(ls:Ll)(e:Lk): af Tryz.prog G0 191 [.dat I i,.ip N (cs,ns,os,b,ls,e)] [] ⟨idx i (Df b),.dat S (fX (aC b) i),[]⟩:=by
 refine ae (c:=mkc K4) KS4 aK hm (tE i cs ns os b ls e ⟨rfl,λ⟨g,f⟩=>?_⟩);simp only[qc,Dj,Es,Di,qd,Dt,Eb,Ec,Dp,Eh,Ei,Ed,Ey,Df,Et,Dl,Dn,Eo,Dy,Dw,Dh,Dq,Ee,Fh,Dc,Dx,Dk,Dz,Ej,Du,Eu,Ez,En,Ef,Fe,Fj,Fg,Ep,Em,Ew,Fb];exact⟨g,f,(Ji _ g f).symm⟩
theorem aDW(cs:LC)(ns os:LB)(e:Lo)(ls:Ll)(b:Lk)(u:ByteArray)(r j i h g:Int)(f:List ByteArray): af Tryz.prog G0 193 [.agg [.dat .str u,.dat (.int .i64) r,.dat (.int .i64) j,.dat (.int .i64) i,.dat (.int .i64) h,.dat (.int .i64) g,.dat (.sl .str) f],.ip N (cs,ns,os,e,ls,b)] [] ⟨True,.dat .bool (cQ (cs,ns,os,e,ls,b) (u,r,j,i,h,g,f)),[]⟩:=
 ae (c:=mkc K4) KS4 aK hm (aAf cs ns os e ls b u r j i h g f ⟨rfl,λ_=>by simp only[qc,Dj,Es,Di]⟩)
theorem aDJ(i:Int)(cs:LC)(ns os:LB)(g:Lo)(ls:Ll)(b:Lk): af Tryz.prog G0 195 [.dat I i,.ip N (cs,ns,os,g,ls,b)] [] ⟨idx i (Df ls),.dat S (fX (aD ls) i),[]⟩:=by
 refine ae (c:=mkc K4) KS4 aK hm (sI i cs ns os g ls b ⟨rfl,λ⟨f,e⟩=>?_⟩);simp only[qc,Dj,Es,Di,qd,Dt,Eb,Ec,Dp,Eh,Ei,Ed,Ey,Df,Et,Dl,Dn,Eo,Dy,Dw,Dh,Dq,Ee,Fh,Dc,Dx,Dk,Dz,Ej,Du,Eu,Ez,En,Ef,Fe,Fj,Fg,Ep,Em,Ew,Fb];exact⟨f,e,(Ji _ f e).symm⟩
theorem aDV(cs:LC)(ns os:LB)(e:Lo)(ls:Ll)(b:Lk)(r:ByteArray)(j i h g f:Int): af Tryz.prog G0 197 [.agg [.dat .str r,.dat (.int .i64) j,.dat (.int .i64) i,.dat (.int .i64) h,.dat (.int .i64) g,.dat (.int .i64) f],.ip N (cs,ns,os,e,ls,b)] [] ⟨True,.dat .bool (cT (cs,ns,os,e,ls,b) (r,j,i,h,g,f)),[]⟩:=
 ae (c:=mkc K4) KS4 aK hm (aAe cs ns os e ls b r j i h g f ⟨rfl,λ_=>by simp only[qc,Dj,Es,Di]⟩)
theorem aDI(i:Int)(cs:LC)(ns os:LB)(g:Lo)(ls:Ll)(b:Lk): af Tryz.prog G0 199 [.dat I i,.ip N (cs,ns,os,g,ls,b)] [] ⟨idx i (Df b),.dat S (fX (aE b) i),[]⟩:=by
 refine ae (c:=mkc K4) KS4 aK hm (oX i cs ns os g ls b ⟨rfl,λ⟨f,e⟩=>?_⟩);simp only[qc,Dj,Es,Di,qd,Dt,Eb,Ec,Dp,Eh,Ei,Ed,Ey,Df,Et,Dl,Dn,Eo,Dy,Dw,Dh,Dq,Ee,Fh,Dc,Dx,Dk,Dz,Ej,Du,Eu,Ez,En,Ef,Fe,Fj,Fg,Ep,Em,Ew,Fb];exact⟨f,e,(Ji _ f e).symm⟩
theorem aDU(f:ByteArray)(e b:Int): af Tryz.prog G0 201 [.agg [.dat .str f,.dat (.int .i64) e,.dat (.int .i64) b]] [] ⟨True,.dat .bool (ij (f,e,b)),[]⟩:=
 ae (c:=mkc K4) KS4 aK hm (aAd f e b ⟨rfl,λ_=>by simp only[qc,Dj,Es,Di,ij]⟩)
theorem KS5: aj Tryz.prog G0 K5:=
 ai (ag λ(i,(cs,ns,os,e,ls,b),_)=>aDM i cs ns os e ls b)<|ai (ag λ(i,(cs,ns,os,e,ls,b),_)=>aDL i cs ns os e ls b)<|ai (ag λ(f,_)=>aDX f)<|ai (ag λ(i,(cs,ns,os,e,ls,b),_)=>aDK i cs ns os e ls b) <|
 ai (ag λ((f,h,g,u,r,j,v),(cs,ns,os,e,ls,b),_)=>aDW cs ns os e ls b f h g u r j v)<|ai (ag λ(i,(cs,ns,os,e,ls,b),_)=>aDJ i cs ns os e ls b)<|ai (ag λ((f,h,g,u,r,j),(cs,ns,os,e,ls,b),_)=>aDV cs ns os e ls b f h g u r j) <|
 ai (ag λ(i,(cs,ns,os,e,ls,b),_)=>aDI i cs ns os e ls b)<|ai (ag λ((f,h,g),_)=>aDU f h g) KS4
theorem kz{l:List ByteArray}{i:Int}(h:0<=i): uv l i 0:=⟨qL _,h,by simp⟩
theorem kA{l:List ByteArray}{i x:Int}(h:uv l i x)(f:x<i)(hi:i<l.length)(b:(fX l x).toList≠(fX l i).toList): uv l i (x+1):=by
 obtain⟨j,g,e⟩:=h;refine⟨by omega,by omega,?_⟩;rw[show(x+1).toNat=x.toNat+1 by omega];exact wz (d:=⟨#[]⟩) e (by omega) (by simpa[fX]using b)
theorem Ly{l:List ByteArray}{i x:Int}(h:uv l i x)(g:x<i)(hi:i<l.length)(f:(fX l x).toList=(fX l i).toList): 4=rule2 l i:=by
 unfold rule2;have e:=h.1;rw[if_pos];have b:x.toNat<(l.take i.toNat).length:=by rw[qI];omega
 refine V4 (d:=⟨#[]⟩) (k:=x.toNat) b ?_;have:(l.take i.toNat).getD x.toNat ⟨#[]⟩=fX l x:=by
  unfold fX;simp only[qA];rw[vN,if_pos (by omega)]
 rw[this];simpa using f
theorem nA{l:List ByteArray}{i x:Int}(h:uv l i x)(e:¬x<i): 0=rule2 l i:=by
 obtain⟨g,f,b⟩:=h;have:x=i:=by omega
 subst this;unfold rule2;rw[b];rfl
theorem nK{α:Type}{g:α->Bool}{l:List α}{i:Int}(d:α)(e:0<=i)(b:i<l.length): bK (l.map g) i=if g (l.getD i.toNat d)then 0 else 1:=by
 unfold bK;rw[lZ g l _ d _ (by omega)]
theorem fz(cs:List (Int×List Bool×Li))(ns:List ByteArray): (aA cs ns).length=cs.length:=by simp[aA]
theorem map_length{α β:Type}(f:α->β)(l:List α): (l.map f).length=l.length:=vG f
theorem aDF(i:Int)(cs:LC)(ns os:LB)(e:Lo)(ls:Ll)(b:Lk): af Tryz.prog G0 235 [.dat I i,.ipv (.fn 186 [.ip N (cs,ns,os,e,ls,b)])] [] ⟨idx i (Df cs),.dat I (bA (aA cs ns) i),[]⟩:=by
 refine ae (c:=mkc K5) KS5 aK hm (oB i cs ns os e ls b ⟨rfl,λf=>?_⟩);simp only[qc,Dj,Es,Di,qd,Dt,Eb,Ec,Dp,Eh,Ei,Ed,Ey,Df,Et,Dl,Dn,Eo,Dy,Dw,Dh,Dq,Ee,Fh,Dc,Dx,Dk,Dz,Ej,Du,Eu,Ez,En,Ef,Fe,Fj,Fg,Ep,Em,Ew,Fb];exact⟨f,λh=>by simp[bA,h],λh=>by simp[bA,h]⟩
theorem aDA(i:Int)(cs:LC)(ns os:LB)(u:Lo)(ls:Ll)(j:Lk): af Tryz.prog G0 237 [.dat I i,.ipv (.fn 186 [.ip N (cs,ns,os,u,ls,j)])] [] ⟨qf i (Df cs),.dat I (rule2 (aA cs ns) i),[]⟩:=by
 refine ae (c:=mkc K5) KS5 aK hm (iA i cs ns os u ls j ⟨rfl,λf=>?_⟩);have r:0<=i:=f.1;have y:i<(cs.length:Int):=f.2.1;have A:i<=1000:=f.2.2;have z:((aA cs ns).length:Int)=cs.length:=yB _ (fz cs ns);simp only[qc,Dj,Es,Di,qd,Dt,Eb,Ec,Dp,Eh,Ei,Ed,Ey,Df,Et,Dl,Dn,Eo,Dy,Dw,Dh,Dq,Ee,Fh,Dc,Dx,Dk,Dz,Ej,Du,Eu,Ez,En,Ef,Fe,Fj,Fg,Ep,Em,Ew,Fb]
 exact⟨kz r,λx b=>⟨λe=>⟨⟨b.1,by omega⟩,⟨r,y⟩,λv=>Ly b e (by omega) v,λg=>⟨⟨by have:=b.1;omega,by omega⟩,x+1,kA b e (by omega) g,rfl,by have:=b.1;omega⟩⟩,λh=>nA b h⟩⟩
theorem aDv(i:Int)(cs:LC)(ns os:LB)(r:Lo)(ls:Ll)(j:Lk): af Tryz.prog G0 238 [.dat I i,.ipv (.fn 161 []),.ip (.sl C) cs] [] ⟨idx i (Df cs),.dat I (bK (bh cs) i),[]⟩:=by
 refine ae (c:=mkc K5) KS5 aK hm (gM i cs ns os r ls j ⟨rfl,λb=>?_⟩);have f:0<=i:=b.1;have e:i<(cs.length:Int):=b.2;simp only[qc,Dj,Es,Di,qd,Dt,Eb,Ec,Dp,Eh,Ei,Ed,Ey,Df,Et,Dl,Dn,Eo,Dy,Dw,Dh,Dq,Ee,Fh,Dc,Dx,Dk,Dz,Ej,Du,Eu,Ez,En,Ef,Fe,Fj,Fg,Ep,Em,Ew,Fb];rw[show bK (bh cs) i=_ from nK _ f e];exact⟨f,e,λh=>by rw[if_neg (by intro g;rw[show _=false from h]at g;cases g)],λh=>by rw[if_pos h]⟩
theorem aDE(i:Int)(cs:LC)(ns os:LB)(e:Lo)(ls:Ll)(b:Lk): af Tryz.prog G0 239 [.dat I i,.ipv (.fn 188 [.ip N (cs,ns,os,e,ls,b)])] [] ⟨idx i (Df os),.dat I (bA (os) i),[]⟩:=by
 refine ae (c:=mkc K5) KS5 aK hm (oA i cs ns os e ls b ⟨rfl,λf=>?_⟩);simp only[qc,Dj,Es,Di,qd,Dt,Eb,Ec,Dp,Eh,Ei,Ed,Ey,Df,Et,Dl,Dn,Eo,Dy,Dw,Dh,Dq,Ee,Fh,Dc,Dx,Dk,Dz,Ej,Du,Eu,Ez,En,Ef,Fe,Fj,Fg,Ep,Em,Ew,Fb];exact⟨f,λh=>by simp[bA,h],λh=>by simp[bA,h]⟩
theorem aDz(i:Int)(cs:LC)(ns os:LB)(u:Lo)(ls:Ll)(j:Lk): af Tryz.prog G0 240 [.dat I i,.ipv (.fn 188 [.ip N (cs,ns,os,u,ls,j)])] [] ⟨qf i (Df os),.dat I (rule2 (os) i),[]⟩:=by
 refine ae (c:=mkc K5) KS5 aK hm (gT i cs ns os u ls j ⟨rfl,λf=>?_⟩);have r:0<=i:=f.1;have y:i<(os.length:Int):=f.2.1;have A:i<=1000:=f.2.2;have z:((os).length:Int)=os.length:=yB _ (rfl);simp only[qc,Dj,Es,Di,qd,Dt,Eb,Ec,Dp,Eh,Ei,Ed,Ey,Df,Et,Dl,Dn,Eo,Dy,Dw,Dh,Dq,Ee,Fh,Dc,Dx,Dk,Dz,Ej,Du,Eu,Ez,En,Ef,Fe,Fj,Fg,Ep,Em,Ew,Fb]
 exact⟨kz r,λx b=>⟨λe=>⟨⟨b.1,by omega⟩,⟨r,y⟩,λv=>Ly b e (by omega) v,λg=>⟨⟨by have:=b.1;omega,by omega⟩,x+1,kA b e (by omega) g,rfl,by have:=b.1;omega⟩⟩,λh=>nA b h⟩⟩
theorem aDu(i:Int)(cs:LC)(ns os:LB)(j:Lo)(ls:Ll)(g:Lk): af Tryz.prog G0 241 [.dat I i,.ipv (.fn 190 []),.ip (.sl S) os] [] ⟨idx i (Df os),.dat I (bK (bP os) i),[]⟩:=by
 refine ae (c:=mkc K5) KS5 aK hm (gL i cs ns os j ls g ⟨rfl,λb=>?_⟩);have f:0<=i:=b.1;have e:i<(os.length:Int):=b.2;simp only[qc,Dj,Es,Di,qd,Dt,Eb,Ec,Dp,Eh,Ei,Ed,Ey,Df,Et,Dl,Dn,Eo,Dy,Dw,Dh,Dq,Ee,Fh,Dc,Dx,Dk,Dz,Ej,Du,Eu,Ez,En,Ef,Fe,Fj,Fg,Ep,Em,Ew,Fb];rw[show bK (bP os) i=_ from nK ⟨#[]⟩ f e];exact⟨f,e,(λh=>by cases h),rfl⟩
theorem aDD(i:Int)(cs:LC)(ns os:LB)(b:Lo)(ls:Ll)(e:Lk): af Tryz.prog G0 242 [.dat I i,.ipv (.fn 191 [.ip N (cs,ns,os,b,ls,e)])] [] ⟨idx i (Df b),.dat I (bA (aC b) i),[]⟩:=by
 refine ae (c:=mkc K5) KS5 aK hm (kI i cs ns os b ls e ⟨rfl,λf=>?_⟩);simp only[qc,Dj,Es,Di,qd,Dt,Eb,Ec,Dp,Eh,Ei,Ed,Ey,Df,Et,Dl,Dn,Eo,Dy,Dw,Dh,Dq,Ee,Fh,Dc,Dx,Dk,Dz,Ej,Du,Eu,Ez,En,Ef,Fe,Fj,Fg,Ep,Em,Ew,Fb];exact⟨f,λh=>by simp[bA,h],λh=>by simp[bA,h]⟩
theorem aDy(i:Int)(cs:LC)(ns os:LB)(b:Lo)(ls:Ll)(r:Lk): af Tryz.prog G0 243 [.dat I i,.ipv (.fn 191 [.ip N (cs,ns,os,b,ls,r)])] [] ⟨qf i (Df b),.dat I (rule2 (aC b) i),[]⟩:=by
 refine ae (c:=mkc K5) KS5 aK hm (gS i cs ns os b ls r ⟨rfl,λg=>?_⟩);have u:0<=i:=g.1;have y:i<(b.length:Int):=g.2.1;have A:i<=1000:=g.2.2;have z:((aC b).length:Int)=b.length:=yB _ (map_length _ b);simp only[qc,Dj,Es,Di,qd,Dt,Eb,Ec,Dp,Eh,Ei,Ed,Ey,Df,Et,Dl,Dn,Eo,Dy,Dw,Dh,Dq,Ee,Fh,Dc,Dx,Dk,Dz,Ej,Du,Eu,Ez,En,Ef,Fe,Fj,Fg,Ep,Em,Ew,Fb]
 exact⟨kz u,λx e=>⟨λf=>⟨⟨e.1,by omega⟩,⟨u,y⟩,λv=>Ly e f (by omega) v,λh=>⟨⟨by have:=e.1;omega,by omega⟩,x+1,kA e f (by omega) h,rfl,by have:=e.1;omega⟩⟩,λj=>nA e j⟩⟩
theorem aDt(i:Int)(cs:LC)(ns os:LB)(b:Lo)(ls:Ll)(e:Lk): af Tryz.prog G0 244 [.dat I i,.ipv (.fn 193 [.ip N (cs,ns,os,b,ls,e)]),.ip (.sl Of) b] [] ⟨idx i (Df b),.dat I (bK (cI (cs,ns,os,b,ls,e)) i),[]⟩:=by
 refine ae (c:=mkc K5) KS5 aK hm (gH i cs ns os b ls e ⟨rfl,λf=>?_⟩);have r:0<=i:=f.1;have j:i<(b.length:Int):=f.2;simp only[qc,Dj,Es,Di,qd,Dt,Eb,Ec,Dp,Eh,Ei,Ed,Ey,Df,Et,Dl,Dn,Eo,Dy,Dw,Dh,Dq,Ee,Fh,Dc,Dx,Dk,Dz,Ej,Du,Eu,Ez,En,Ef,Fe,Fj,Fg,Ep,Em,Ew,Fb];rw[show bK (cI (cs,ns,os,b,ls,e)) i=_ from nK _ r j];exact⟨r,j,λh=>by rw[if_neg (by intro g;rw[show _=false from h]at g;cases g)],λh=>by rw[if_pos h]⟩
theorem aDC(i:Int)(cs:LC)(ns os:LB)(e:Lo)(ls:Ll)(b:Lk): af Tryz.prog G0 249 [.dat I i,.ipv (.fn 195 [.ip N (cs,ns,os,e,ls,b)])] [] ⟨idx i (Df ls),.dat I (bA (aD ls) i),[]⟩:=by
 refine ae (c:=mkc K5) KS5 aK hm (iX i cs ns os e ls b ⟨rfl,λf=>?_⟩);simp only[qc,Dj,Es,Di,qd,Dt,Eb,Ec,Dp,Eh,Ei,Ed,Ey,Df,Et,Dl,Dn,Eo,Dy,Dw,Dh,Dq,Ee,Fh,Dc,Dx,Dk,Dz,Ej,Du,Eu,Ez,En,Ef,Fe,Fj,Fg,Ep,Em,Ew,Fb];exact⟨f,λh=>by simp[bA,h],λh=>by simp[bA,h]⟩
theorem aDx(i:Int)(cs:LC)(ns os:LB)(u:Lo)(ls:Ll)(j:Lk): af Tryz.prog G0 250 [.dat I i,.ipv (.fn 195 [.ip N (cs,ns,os,u,ls,j)])] [] ⟨qf i (Df ls),.dat I (rule2 (aD ls) i),[]⟩:=by
 refine ae (c:=mkc K5) KS5 aK hm (gO i cs ns os u ls j ⟨rfl,λf=>?_⟩);have r:0<=i:=f.1;have y:i<(ls.length:Int):=f.2.1;have A:i<=1000:=f.2.2;have z:((aD ls).length:Int)=ls.length:=yB _ (map_length _ ls);simp only[qc,Dj,Es,Di,qd,Dt,Eb,Ec,Dp,Eh,Ei,Ed,Ey,Df,Et,Dl,Dn,Eo,Dy,Dw,Dh,Dq,Ee,Fh,Dc,Dx,Dk,Dz,Ej,Du,Eu,Ez,En,Ef,Fe,Fj,Fg,Ep,Em,Ew,Fb]
 exact⟨kz r,λx b=>⟨λe=>⟨⟨b.1,by omega⟩,⟨r,y⟩,λv=>Ly b e (by omega) v,λg=>⟨⟨by have:=b.1;omega,by omega⟩,x+1,kA b e (by omega) g,rfl,by have:=b.1;omega⟩⟩,λh=>nA b h⟩⟩
theorem aDs(i:Int)(cs:LC)(ns os:LB)(e:Lo)(ls:Ll)(b:Lk): af Tryz.prog G0 251 [.dat I i,.ipv (.fn 197 [.ip N (cs,ns,os,e,ls,b)]),.ip (.sl Ln) ls] [] ⟨idx i (Df ls),.dat I (bK (cy (cs,ns,os,e,ls,b)) i),[]⟩:=by
 refine ae (c:=mkc K5) KS5 aK hm (gF i cs ns os e ls b ⟨rfl,λf=>?_⟩);have r:0<=i:=f.1;have j:i<(ls.length:Int):=f.2;simp only[qc,Dj,Es,Di,qd,Dt,Eb,Ec,Dp,Eh,Ei,Ed,Ey,Df,Et,Dl,Dn,Eo,Dy,Dw,Dh,Dq,Ee,Fh,Dc,Dx,Dk,Dz,Ej,Du,Eu,Ez,En,Ef,Fe,Fj,Fg,Ep,Em,Ew,Fb];rw[show bK (cy (cs,ns,os,e,ls,b)) i=_ from nK _ r j];exact⟨r,j,λh=>by rw[if_neg (by intro g;rw[show _=false from h]at g;cases g)],λh=>by rw[if_pos h]⟩
theorem aDB(i:Int)(cs:LC)(ns os:LB)(e:Lo)(ls:Ll)(b:Lk): af Tryz.prog G0 253 [.dat I i,.ipv (.fn 199 [.ip N (cs,ns,os,e,ls,b)])] [] ⟨idx i (Df b),.dat I (bA (aE b) i),[]⟩:=by
 refine ae (c:=mkc K5) KS5 aK hm (iB i cs ns os e ls b ⟨rfl,λf=>?_⟩);simp only[qc,Dj,Es,Di,qd,Dt,Eb,Ec,Dp,Eh,Ei,Ed,Ey,Df,Et,Dl,Dn,Eo,Dy,Dw,Dh,Dq,Ee,Fh,Dc,Dx,Dk,Dz,Ej,Du,Eu,Ez,En,Ef,Fe,Fj,Fg,Ep,Em,Ew,Fb];exact⟨f,λh=>by simp[bA,h],λh=>by simp[bA,h]⟩
theorem aDw(i:Int)(cs:LC)(ns os:LB)(u:Lo)(ls:Ll)(b:Lk): af Tryz.prog G0 254 [.dat I i,.ipv (.fn 199 [.ip N (cs,ns,os,u,ls,b)])] [] ⟨qf i (Df b),.dat I (rule2 (aE b) i),[]⟩:=by
 refine ae (c:=mkc K5) KS5 aK hm (gN i cs ns os u ls b ⟨rfl,λg=>?_⟩);have r:0<=i:=g.1;have y:i<(b.length:Int):=g.2.1;have A:i<=1000:=g.2.2;have z:((aE b).length:Int)=b.length:=yB _ (map_length _ b);simp only[qc,Dj,Es,Di,qd,Dt,Eb,Ec,Dp,Eh,Ei,Ed,Ey,Df,Et,Dl,Dn,Eo,Dy,Dw,Dh,Dq,Ee,Fh,Dc,Dx,Dk,Dz,Ej,Du,Eu,Ez,En,Ef,Fe,Fj,Fg,Ep,Em,Ew,Fb]
 exact⟨kz r,λx e=>⟨λf=>⟨⟨e.1,by omega⟩,⟨r,y⟩,λv=>Ly e f (by omega) v,λh=>⟨⟨by have:=e.1;omega,by omega⟩,x+1,kA e f (by omega) h,rfl,by have:=e.1;omega⟩⟩,λj=>nA e j⟩⟩
theorem aDr(i:Int)(cs:LC)(ns os:LB)(r:Lo)(ls:Ll)(b:Lk): af Tryz.prog G0 255 [.dat I i,.ipv (.fn 201 []),.ip (.sl Kl) b] [] ⟨idx i (Df b),.dat I (bK (bn b) i),[]⟩:=by
 refine ae (c:=mkc K5) KS5 aK hm (gE i cs ns os r ls b ⟨rfl,λe=>?_⟩);have j:0<=i:=e.1;have f:i<(b.length:Int):=e.2;simp only[qc,Dj,Es,Di,qd,Dt,Eb,Ec,Dp,Eh,Ei,Ed,Ey,Df,Et,Dl,Dn,Eo,Dy,Dw,Dh,Dq,Ee,Fh,Dc,Dx,Dk,Dz,Ej,Du,Eu,Ez,En,Ef,Fe,Fj,Fg,Ep,Em,Ew,Fb];rw[show bK (bn b) i=_ from nK _ j f];exact⟨j,f,λh=>by rw[if_neg (by intro g;rw[show _=false from h]at g;cases g)],λh=>by rw[if_pos h]⟩
theorem pg(kind:Int)(l:List ByteArray)(g:List Bool)(k:Int): (aQ kind l g k).length<=k.toNat:=by
 unfold aQ;exact wL (qCy _ _) (by rw[vI];exact qJ _)
theorem vE{kind:Int}{l:List ByteArray}{g:List Bool}{k:Int}(e:0<=k)(b:HZ l g k≠0): aQ kind l g (k+1)=aQ kind l g k++[(kind,k,HZ l g k)]:=by
 unfold aQ;rw[show(k+1).toNat=k.toNat+1 by omega,zU,qAt];simp[qR e,b]
theorem BG{kind:Int}{l:List ByteArray}{g:List Bool}{k:Int}(e:0<=k)(b:HZ l g k=0): aQ kind l g (k+1)=aQ kind l g k:=by
 unfold aQ;rw[show(k+1).toNat=k.toNat+1 by omega,zU,qAt];simp[qR e,b]
theorem SV{l:List ByteArray}{g:List Bool}{i j:Int}(h:bV l g i j)(u:j<3)(b:[bA l i,rule2 l i,bK g i].getD j.toNat 0≠0): [bA l i,rule2 l i,bK g i].getD j.toNat 0=HZ l g i:=by
 obtain⟨v,_,e,r,_⟩:=h;have f:j=0\/j=1\/j=2:=by omega
 unfold HZ;rcases f with rfl | rfl | rfl
 .have b:bA l i≠0:=b;rw[if_pos b];rfl
 .have b:rule2 l i≠0:=b;rw[if_neg (by simp[e]),if_pos b];rfl
 .rw[if_neg (by simp[e]),if_neg (by simp[r])];rfl
theorem I6{l:List ByteArray}{g:List Bool}{i j:Int}(h:bV l g i j)(u:j<3)(b:[bA l i,rule2 l i,bK g i].getD j.toNat 0=0): bV l g i (j+1):=by
 obtain⟨x,_,e,r,v⟩:=h;have f:j=0\/j=1\/j=2:=by omega
 rcases f with rfl | rfl | rfl
 .exact⟨by omega,by omega,λ_=>b,λh=>by omega,λh=>by omega⟩
 .exact⟨by omega,by omega,λ_=>e (by omega),λ_=>b,λh=>by omega⟩
 .exact⟨by omega,by omega,λ_=>e (by omega),λ_=>r (by omega),λ_=>b⟩
theorem MX{l:List ByteArray}{g:List Bool}{i j:Int}(h:bV l g i j)(r:¬j<3): HZ l g i=0:=by
 obtain⟨u,_,f,e,b⟩:=h;unfold HZ;rw[if_neg (by simp[f (by omega)]),if_neg (by simp[e (by omega)]),b (by omega)]
theorem Ci{kind b:Int}{l:List ByteArray}{g:List Bool}{m:Nat}(hm:l.length=m)(G:0<=b)(L:b<=100):
  (∃x,cJ x (l.length:Int) b/\(aQ kind l g x).length=0/\aQ kind l g x=[]/\0=x/\aQ kind l g x=[])/\
  ∀(x:Int),cJ x (l.length:Int) b->
    (x<min (m:Int) b->
      bV l g x 0/\∀(z:Int),bV l g x z->
         (z<3->0<=z/\z<(3:Nat)/\(z.toNat=0->idx x m)/\(z.toNat=1->qf x m)/\(z.toNat=2->idx x m)/\
                ([bA l x,rule2 l x,bK g x].getD z.toNat 0≠0->
                  ((aQ kind l g x).length+[(kind,x,[bA l x,rule2 l x,bK g x].getD z.toNat 0)].length)*24<=140737488355328/\
                   (aQ kind l g x).length+[(kind,x,[bA l x,rule2 l x,bK g x].getD z.toNat 0)].length<=9223372036854775807/\
                    inR .i64 (x+1)/\
                     ∃y,cJ y (l.length:Int) b/\
                       ((aQ kind l g x).length+[(kind,x,[bA l x,rule2 l x,bK g x].getD z.toNat 0)].length=(aQ kind l g y).length/\
                         x+1=y/\aQ kind l g x++[(kind,x,[bA l x,rule2 l x,bK g x].getD z.toNat 0)]=aQ kind l g y)/\
                        (b-y).toNat<(b-x).toNat)/\
                 ([bA l x,rule2 l x,bK g x].getD z.toNat 0=0->inR .i64 (z+1)/\∃y,bV l g x y/\z+1=y/\(3-y).toNat<(3-z).toNat))/\
          (¬z<3->inR .i64 (x+1)/\∃y,cJ y (l.length:Int) b/\((aQ kind l g x).length=(aQ kind l g y).length/\x+1=y/\aQ kind l g x=aQ kind l g y)/\(b-y).toNat<(b-x).toNat))/\
     (¬x<min (m:Int) b->
      ((m:Int)>b->((aQ kind l g x).length+[(kind,b,(2:Int))].length)*24<=140737488355328/\
         (aQ kind l g x).length+[(kind,b,(2:Int))].length<=9223372036854775807/\
          (aQ kind l g x++[(kind,b,2)]).length=(aQ kind l g x).length+[(kind,b,(2:Int))].length/\
           aQ kind l g x++[(kind,b,2)]=bz kind b l g)/\
       (¬(m:Int)>b->aQ kind l g x=bz kind b l g)):=by
 subst hm;refine⟨⟨0,⟨qL _,qV _,G⟩,rfl,rfl,rfl,rfl⟩,λx ⟨i,x1,x2⟩=>⟨λu=>⟨⟨qL _,by decide,λh=>by omega,λh=>by omega,λh=>by omega⟩,λz j=>⟨λf=>?_,λf=>?_⟩⟩,λA=>?_⟩⟩
 .have v:=pg kind l g x;refine⟨j.1,by omega,λ_=>⟨i,by omega⟩,λ_=>⟨i,by omega,by omega⟩,λ_=>⟨i,by omega⟩,λr=>?_,λr=>⟨⟨by have:=j.1;omega,by omega⟩,z+1,I6 j f r,rfl,by have:=j.1;omega⟩⟩;have e:=SV j f r;rw[e]at r ⊢;refine⟨by simp only[vZ];omega,by simp only[vZ];omega,⟨by omega,by omega⟩,x+1,⟨by omega,by omega,by omega⟩,⟨?_,rfl,(vE i r).symm⟩,by omega⟩;rw[vE i r,qF]
 .have e:=MX j f;exact⟨⟨by omega,by omega⟩,x+1,⟨by omega,by omega,by omega⟩,⟨by rw[BG i e],rfl,(BG i e).symm⟩,by omega⟩
 .have v:=pg kind l g x;have ex:x=min (l.length:Int) b:=by omega
  refine⟨λh=>⟨by simp only[vZ];omega,by simp only[vZ];omega,qF,?_⟩,λh=>?_⟩
  .unfold bz Jh;rw[if_pos (by omega),<- ex]
  .unfold bz Jh;rw[if_neg (by omega),<- ex,wH]
theorem KS6: aj Tryz.prog G0 K6:=
 ai (ag λ(i,(cs,ns,os,e,ls,b),_)=>aDF i cs ns os e ls b)<|ai (ag λ(i,(cs,ns,os,e,ls,b),_)=>aDA i cs ns os e ls b)<|ai (ag λ(i,_,cs,_)=>aDv i cs [] [] [] [] []) <|
 ai (ag λ(i,(cs,ns,os,e,ls,b),_)=>aDE i cs ns os e ls b)<|ai (ag λ(i,(cs,ns,os,e,ls,b),_)=>aDz i cs ns os e ls b)<|ai (ag λ(i,_,os,_)=>aDu i [] [] os [] [] []) <|
 ai (ag λ(i,(cs,ns,os,e,ls,b),_)=>aDD i cs ns os e ls b)<|ai (ag λ(i,(cs,ns,os,e,ls,b),_)=>aDy i cs ns os e ls b)<|ai (ag λ(i,(cs,ns,os,e,ls,b),xs,_)=>af.of_pre λ(h:idx i (Df e)/\xs=e)=>by obtain⟨h,rfl⟩:=h;exact(aDt i cs ns os xs ls b).weaken λ_=>h) <|
 ai (ag λ(i,(cs,ns,os,e,ls,b),_)=>aDC i cs ns os e ls b)<|ai (ag λ(i,(cs,ns,os,e,ls,b),_)=>aDx i cs ns os e ls b)<|ai (ag λ(i,(cs,ns,os,e,ls,b),xs,_)=>af.of_pre λ(h:idx i (Df ls)/\xs=ls)=>by obtain⟨h,rfl⟩:=h;exact(aDs i cs ns os e xs b).weaken λ_=>h) <|
 ai (ag λ(i,(cs,ns,os,e,ls,b),_)=>aDB i cs ns os e ls b)<|ai (ag λ(i,(cs,ns,os,e,ls,b),_)=>aDw i cs ns os e ls b)<|ai (ag λ(i,_,b,_)=>aDr i [] [] [] [] [] b)<|KS5
theorem aD3(cs:LC)(ns os:LB)(e:Lo)(ls:Ll)(b:Lk): af Tryz.prog G0 187 [.dat I 1,.dat I 6,.dat (.sl C) cs,.fn 186 [.ip N (cs,ns,os,e,ls,b)],.fn 161 []] [] ⟨True,.dat (.sl Fa) (bz 1 6 (aA cs ns) (bh cs)),[]⟩:=by
 refine ae (c:=mkc K6) KS6 aK hm (aAm cs ns os e ls b ⟨rfl,λ_=>?_⟩);have hm:(aA cs ns).length=cs.length:=fz cs ns;simp only[qc,Dj,Es,Di,qd,Dt,Eb,Ec,Dp,Eh,Ei,Ed,Ey,Df,Et,Dl,Dn,Eo,Dy,Dw,Dh,Dq,Ee,Fh,Dc,Dx,Dk,Dz,Ej,Du,Eu,Ez,En,Ef,Fe,Fj,Fg,Ep,Em,Ew,Fb];exact Ci hm (by decide) (by decide)
theorem aD2(cs:LC)(ns os:LB)(e:Lo)(ls:Ll)(b:Lk): af Tryz.prog G0 189 [.dat I 2,.dat I 6,.dat (.sl S) os,.fn 188 [.ip N (cs,ns,os,e,ls,b)],.fn 190 []] [] ⟨True,.dat (.sl Fa) (bz 2 6 (os) (bP os)),[]⟩:=by
 refine ae (c:=mkc K6) KS6 aK hm (aAl cs ns os e ls b ⟨rfl,λ_=>?_⟩);have hm:(os).length=os.length:=rfl;simp only[qc,Dj,Es,Di,qd,Dt,Eb,Ec,Dp,Eh,Ei,Ed,Ey,Df,Et,Dl,Dn,Eo,Dy,Dw,Dh,Dq,Ee,Fh,Dc,Dx,Dk,Dz,Ej,Du,Eu,Ez,En,Ef,Fe,Fj,Fg,Ep,Em,Ew,Fb];exact Ci hm (by decide) (by decide)
theorem aD1(cs:LC)(ns os:LB)(b:Lo)(ls:Ll)(e:Lk): af Tryz.prog G0 192 [.dat I 3,.dat I 12,.dat (.sl Of) b,.fn 191 [.ip N (cs,ns,os,b,ls,e)],.fn 193 [.ip N (cs,ns,os,b,ls,e)]] [] ⟨True,.dat (.sl Fa) (bz 3 12 (aC b) (cI (cs,ns,os,b,ls,e))),[]⟩:=by
 refine ae (c:=mkc K6) KS6 aK hm (aAk cs ns os b ls e ⟨rfl,λ_=>?_⟩);have hm:(aC b).length=b.length:=map_length _ b;simp only[qc,Dj,Es,Di,qd,Dt,Eb,Ec,Dp,Eh,Ei,Ed,Ey,Df,Et,Dl,Dn,Eo,Dy,Dw,Dh,Dq,Ee,Fh,Dc,Dx,Dk,Dz,Ej,Du,Eu,Ez,En,Ef,Fe,Fj,Fg,Ep,Em,Ew,Fb];exact Ci hm (by decide) (by decide)
theorem aD0(cs:LC)(ns os:LB)(e:Lo)(ls:Ll)(b:Lk): af Tryz.prog G0 196 [.dat I 4,.dat I 40,.dat (.sl Ln) ls,.fn 195 [.ip N (cs,ns,os,e,ls,b)],.fn 197 [.ip N (cs,ns,os,e,ls,b)]] [] ⟨True,.dat (.sl Fa) (bz 4 40 (aD ls) (cy (cs,ns,os,e,ls,b))),[]⟩:=by
 refine ae (c:=mkc K6) KS6 aK hm (aAj cs ns os e ls b ⟨rfl,λ_=>?_⟩);have hm:(aD ls).length=ls.length:=map_length _ ls;simp only[qc,Dj,Es,Di,qd,Dt,Eb,Ec,Dp,Eh,Ei,Ed,Ey,Df,Et,Dl,Dn,Eo,Dy,Dw,Dh,Dq,Ee,Fh,Dc,Dx,Dk,Dz,Ej,Du,Eu,Ez,En,Ef,Fe,Fj,Fg,Ep,Em,Ew,Fb];exact Ci hm (by decide) (by decide)
theorem aDZ(cs:LC)(ns os:LB)(e:Lo)(ls:Ll)(b:Lk): af Tryz.prog G0 200 [.dat I 5,.dat I 4,.dat (.sl Kl) b,.fn 199 [.ip N (cs,ns,os,e,ls,b)],.fn 201 []] [] ⟨True,.dat (.sl Fa) (bz 5 4 (aE b) (bn b)),[]⟩:=by
 refine ae (c:=mkc K6) KS6 aK hm (aAi cs ns os e ls b ⟨rfl,λ_=>?_⟩);have hm:(aE b).length=b.length:=map_length _ b;simp only[qc,Dj,Es,Di,qd,Dt,Eb,Ec,Dp,Eh,Ei,Ed,Ey,Df,Et,Dl,Dn,Eo,Dy,Dw,Dh,Dq,Ee,Fh,Dc,Dx,Dk,Dz,Ej,Du,Eu,Ez,En,Ef,Fe,Fj,Fg,Ep,Em,Ew,Fb];exact Ci hm (by decide) (by decide)
theorem KS7: aj Tryz.prog G0 K7:=
 ai (ag λ(k,m,xs,(cs,ns,os,e,ls,b),_,_)=>af.of_pre λ(h:k=1/\m=6/\xs=cs)=>by obtain⟨rfl,rfl,rfl⟩:=h;exact((aD3 xs ns os e ls b).weaken λ_=>trivial)) <|
 ai (ag λ(k,m,xs,(cs,ns,os,e,ls,b),_,_)=>af.of_pre λ(h:k=2/\m=6/\xs=os)=>by obtain⟨rfl,rfl,rfl⟩:=h;exact((aD2 cs ns xs e ls b).weaken λ_=>trivial)) <|
 ai (ag λ(k,m,xs,(cs,ns,os,e,ls,b),f,_)=>af.of_pre λ(h:k=3/\m=12/\xs=e/\f=(cs,ns,os,e,ls,b))=>by obtain⟨rfl,rfl,rfl,rfl⟩:=h;exact((aD1 cs ns os xs ls b).weaken λ_=>trivial)) <|
 ai (ag λ(k,m,xs,(cs,ns,os,e,ls,b),f,_)=>af.of_pre λ(h:k=4/\m=40/\xs=ls/\f=(cs,ns,os,e,ls,b))=>by obtain⟨rfl,rfl,rfl,rfl⟩:=h;exact((aD0 cs ns os e xs b).weaken λ_=>trivial)) <|
 ai (ag λ(k,m,xs,(cs,ns,os,e,ls,b),_,_)=>af.of_pre λ(h:k=5/\m=4/\xs=b)=>by obtain⟨rfl,rfl,rfl⟩:=h;exact((aDZ cs ns os e ls xs).weaken λ_=>trivial))<|KS6
theorem jq(kind b:Int)(l:List ByteArray)(g:List Bool)(h:0<=b): (bz kind b l g).length<=b.toNat+1:=by
 unfold bz Jh;have:=pg kind l g (min l.length b);rw[qF];split<;>simp only[vZ,yL]<;>omega
theorem wh(cs:LC)(ns os:LB)(e:Lo)(ls:Ll)(b:Lk): ew (cs,ns,os,e,ls,b)=FC (cs,ns,os,e,ls,b)++(bz 1 6 (aA cs ns) (bh cs)++(bz 2 6 os (bP os)++(bz 3 12 (aC e) (cI (cs,ns,os,e,ls,b))++(bz 4 40 (aD ls) (cy (cs,ns,os,e,ls,b))++bz 5 4 (aE b) (bn b))))):=by
 unfold ew iR;rw[show(Int.toNat 6-1)=5 from rfl,show List.range 5=[0,1,2,3,4]from rfl];simp only[kP,qBc,wH];rfl
theorem RP(cs:LC)(ns os:LB)(f:Lo)(ls:Ll)(b:Lk): af Tryz.prog G0 129 [net cs ns os f ls b] [] ⟨True,.buf 0 (Dk (ew (cs,ns,os,f,ls,b))),[(0,.buf 177 Fa (ew (cs,ns,os,f,ls,b)) [])]⟩:=by
 refine ae (c:=mkc K7) KS7 aK hm (La cs ns os f ls b ⟨rfl,λ_=>?_⟩);have G:=jq 1 6 (aA cs ns) (bh cs) (by decide);have A:=jq 2 6 os (bP os) (by decide);have z:=jq 3 12 (aC f) (cI (cs,ns,os,f,ls,b)) (by decide);have y:=jq 4 40 (aD ls) (cy (cs,ns,os,f,ls,b)) (by decide);have x:=jq 5 4 (aE b) (bn b) (by decide);rw[wh]
 simp only[qc,Dj,Es,Di,qd,Dt,Eb,Ec,Dp,Eh,Ei,Ed,Ey,Df,Et,Dl,Dn,Eo,Dy,Dw,Dh,Dq,Ee,Fh,Dc,Dx,Dk,Dz,Ej,Du,Eu,Ez,En,Ef,Fe,Fj,Fg,Ep,Em,Ew,Fb];refine⟨λg=>?_,λh=>?_⟩
 .rw[show FC (cs,ns,os,f,ls,b)=[(1,-1,1)]from if_neg λe=>g (yB Int.ofNat e)];generalize bz 1 6 _ _=v at *;generalize bz 2 6 _ _=u at *;generalize bz 3 12 _ _=r at *;generalize bz 4 40 _ _=j at *;generalize bz 5 4 _ _=i at *;simp only[qF,vZ,wM]
  and_intros<;>first | omega | rfl
 .rw[show FC (cs,ns,os,f,ls,b)=[]from if_pos (Int.ofNat.inj h)];generalize bz 1 6 _ _=v at *;generalize bz 2 6 _ _=u at *;generalize bz 3 12 _ _=r at *;generalize bz 4 40 _ _=j at *;generalize bz 5 4 _ _=i at *;simp only[qF,xM,wM]
  and_intros<;>first | omega | rfl
abbrev M: Ty:=.sl R
def upN(k n:Int): Prop:=0<=k/\k<=n
def aV(n:Net)(k i:Int): List ByteArray:=(aO n k).take i.toNat
def Ib(cs:List (Int×List Bool×Li))(k:Int): Prop:=0<=k/\k<=cs.length/\(cs.take k.toNat).all (λc=>ga c.2.1 c.2.2)=true
def Hy(fs:Lo)(k:Int): Prop:=0<=k/\k<=fs.length/\(fs.take k.toNat).all (λo=>decide (o.2.2.2.2.2.2.length<=30))=true
def mD(l:List ByteArray): Bool:=l.all λs=>decide (s.size<=40)
def ym(n:Net)(k:Int): Prop:=1<=k/\k<=6/\∀j:Int,1<=j->j<k->mD (aO n j)=true
def TJ(l:List ByteArray)(i:Int): Prop:=0<=i/\i<=l.length/\mD (l.take i.toNat)=true
def Ky(n:Net): Bool:=mL n&&(n.1.all λc=>ga c.2.1 c.2.2)&&(n.2.2.2.1.all λo=>decide (o.2.2.2.2.2.2.length<=30))&&mD (aO n 1)&&mD (aO n 2)&&mD (aO n 3)&&mD (aO n 4)&&mD (aO n 5)
def nI(a b:Lj): Bool:=a==b
def xq(a b:Lj)(k:Int): Prop:=0<=k/\k<=a.length/\a.length=b.length/\a.length<=1000000/\a.take k.toNat=b.take k.toNat
def xu(a b:Lj)(i k:Int): Prop:=0<=k/\k<=(a.getD i.toNat []).length/\(a.getD i.toNat []).length=(b.getD i.toNat []).length/\(a.getD i.toNat []).length<=1000000/\(a.getD i.toNat []).take k.toNat=(b.getD i.toNat []).take k.toNat
def mild(a:Lj): Prop:=a.length<=1000000/\∀r∈a,r.length<=1000000
def noF(n:Net): Bool:=(ew n).isEmpty
def K8: Kt:=kOr 129 (Ot [.row N] (λ_=>True) (λ(n,_)=>.buf 0 (Dk (ew n))) λ(n,_)=>.buf 177 Fa (ew n) []) K7
def ND(n:Net)(k:Int)(loop slot:Nat)(st:St)(xs:List ByteArray): Option Spec:=some {α:=Int,inv:=λi=>upN i (Df (aO n k)),st:=λi=>gC (put st [(slot,.dat I i),(5,.buf 100 (Dk (aV n k i)))]) 100 (.buf 9 S (aV n k i) []),μ:=λi=>Dc (Dh (Df (aO n k)) i)}
def aBz(n:Net): Ann:=⟨λid st=>match id with
 | 5=>ND n 1 5 6 st []
 | 12=>ND n 2 12 7 st []
 | 17=>ND n 3 17 8 st []
 | 22=>ND n 4 22 9 st []
 | 27=>ND n 5 27 10 st []
 | _=>none,λ_ _=>none,λ_ _=>none⟩
def aA3(a b:Lj): Ann:=⟨λid st=>match id with
 | 4=>some {α:=Int,inv:=λk=>xq a b k,st:=λk=>put st [(5,.dat I k)],μ:=λk=>Dc (Dh (Df a) k)}
 | 9=>match st.sig.T 5 with
  | .dat (.int .i64) i=>some {α:=Int,inv:=λk=>xu a b i k,st:=λk=>put st [(6,.dat I k)],μ:=λk=>Dc (Dh (Df (Du a (Dc i) [])) k)}
  | _=>none
 | _=>none,λ_ _=>none,λ_ _=>none⟩
def aF1(n:Net): Ann:=⟨λid st=>match id with
 | 4=>some {α:=Int,inv:=λk=>Ib n.1 k,st:=λk=>put st [(3,.dat I k)],μ:=λk=>Dc (Dh (Df n.1) k)}
 | 9=>some {α:=Int,inv:=λk=>Hy n.2.2.2.1 k,st:=λk=>put st [(4,.dat I k)],μ:=λk=>Dc (Dh (Df n.2.2.2.1) k)}
 | 14=>some {α:=Int,inv:=λk=>ym n k,st:=λk=>put st [(5,.dat I k)],μ:=λk=>Dc (Dh 6 k)}
 | 18=>match st.sig.T 5 with
  | .dat (.int .i64) k=>some {α:=Int,inv:=λi=>TJ (aO n k) i,st:=λi=>put st [(7,.dat I i)],μ:=λi=>Dc (Dh (Df (aO n k)) i)}
  | _=>none
 | _=>none,λ_ _=>none,λ_ _=>none⟩
def K12: Kt:=K8
theorem KS8: aj Tryz.prog G0 K8:=ai (Oq λ((cs,ns,os,e,ls,b),_)=>RP cs ns os e ls b) KS7
theorem EH{n:Net}{k i:Int}(e:0<=i)(b:i<=(aO n k).length): (aV n k i).length=i.toNat:=by
 unfold aV;rw[qI];omega
theorem Bn{n:Net}{k i:Int}(e:0<=i)(b:i<(aO n k).length): aV n k (i+1)=aV n k i++[(aO n k).getD i.toNat ⟨#[]⟩]:=by
 unfold aV;rw[show(i+1).toNat=i.toNat+1 by omega,wO,qA,qB (show i.toNat<(aO n k).length by omega)];rfl
theorem EI{n:Net}{k i:Int}(e:i<=(aO n k).length)(b:¬i<(aO n k).length): aV n k i=aO n k:=by
 unfold aV;exact qQ (by omega)
theorem Bl{n:Net}{k:Int}{m:Nat}{el:Int->ByteArray}(r:(aO n k).length=m)(hm:m<=100)(i:∀x,0<=x->x<(m:Int)->(aO n k).getD x.toNat ⟨#[]⟩=el x){R:List ByteArray}(j:R=aO n k):
  (∃x,upN x (aO n k).length/\(aV n k x).length=0/\aV n k x=[]/\0=x/\aV n k x=[])/\
   ∀(x:Int),upN x (aO n k).length->
    (x<(m:Int)->0<=x/\x<(m:Int)/\((aV n k x).length+[el x].length)*16<=140737488355328/\(aV n k x).length+[el x].length<=9223372036854775807/\inR .i64 (x+1)/\
     ∃y,upN y (aO n k).length/\((aV n k x).length+[el x].length=(aV n k y).length/\x+1=y/\aV n k x++[el x]=aV n k y)/\(((aO n k).length:Int)-y).toNat<(((aO n k).length:Int)-x).toNat)/\
    (¬x<(m:Int)->aV n k x=R):=by
 refine⟨⟨0,⟨qL _,qV _⟩,rfl,rfl,rfl,rfl⟩,λx ⟨e,g⟩=>⟨λb=>?_,λh=>by rw[j];exact EI g (by omega)⟩⟩;have u:=EH e g;have f:=Bn e (show x<((aO n k).length:Int) by omega);rw[i x e b]at f;refine⟨e,b,by simp only[vZ];omega,by simp only[vZ];omega,⟨by omega,by omega⟩,x+1,⟨by omega,by omega⟩,⟨by rw[f,qF],rfl,f.symm⟩,by omega⟩
theorem y8(cs:LC)(ns os:LB)(e:Lo)(ls:Ll)(b:Lk)(f:mL (cs,ns,os,e,ls,b)=true): cs.length<=10/\ns.length<=10/\os.length<=10/\e.length<=16/\ls.length<=50/\b.length<=8:=vO f
theorem getD_mem{α:Type}{l:List α}{i:Nat}{d:α}(h:i<l.length): l.getD i d∈l:=by
 rw[qA,qB h];exact wE h
theorem iH{α:Type}{a b:List α}{k:Nat}{d:α}(h:a.take k=b.take k)(g:k<a.length)(hb:k<b.length)(f:a.getD k d=b.getD k d): a.take (k+1)=b.take (k+1):=by
 rw[qA,qA,qB g,qB hb]at f;have e:a[k]=b[k]:=f;rw[wO,wO,qB g,qB hb,h,e]
theorem xp{a b:Lj}(h:a≠b): false=nI a b:=by unfold nI;exact(qAe.2 h).symm
theorem HY{n:Net}(h:Ky n=true->False): false=Ky n:=by
 cases e:Ky n with
 | false=>rfl
 | true=>exact(h e).elim
theorem og{n:Net}: Ky n=true↔mL n=true/\(n.1.all λc=>ga c.2.1 c.2.2)=true/\(n.2.2.2.1.all λo=>decide (o.2.2.2.2.2.2.length<=30))=true/\∀j:Int,1<=j->j<6->mD (aO n j)=true:=by
 unfold Ky;simp only[qC,qDe];constructor
 .rintro⟨g,f,e,b,v,u,r,i⟩;refine⟨g,f,e,λj j1 j2=>?_⟩;have h:j=1\/j=2\/j=3\/j=4\/j=5:=by omega
  rcases h with rfl | rfl | rfl | rfl | rfl<;>assumption
 .rintro⟨g,f,e,b⟩;exact⟨g,f,e,b 1 (by decide) (by decide),b 2 (by decide) (by decide),b 3 (by decide) (by decide),b 4 (by decide) (by decide),b 5 (by decide) (by decide)⟩
theorem BB(k:Int): 4<=iN k/\iN k<=40:=by unfold iN;split<;>(try split)<;>(try split)<;>omega
theorem y9{n:Net}{k:Int}(h:1<=k): iR n (k+1)=iR n k++bz k (iN k) (aO n k) (Ol n k):=by
 unfold iR;rw[show(k+1).toNat-1=(k.toNat-1)+1 by omega,zU,kT,<- wM]
 congr 1
 simp only[kP,qBc,wH];rw[show((k.toNat-1:Nat):Int)+1=k by omega]
theorem BY(n:Net): ∀(j:Nat),(iR n (j+1)).length<=1+41*j
 | 0=>by
  have e:iR n ((0:Nat)+1)=FC n:=by unfold iR;simp
  rw[e];unfold FC;split<;>simp
 | j+1=>by
  have b:=BY n j;have e:=y9 (n:=n) (k:=(j:Int)+1) (by omega);have g:=(BB ((j:Int)+1)).1;have f:=(BB ((j:Int)+1)).2;have:=jq ((j:Int)+1) (iN ((j:Int)+1)) (aO n ((j:Int)+1)) (Ol n ((j:Int)+1)) (by omega);rw[show(((j+1:Nat):Int)+1)=(j:Int)+1+1 by omega,e,qF];omega
theorem aFF: aj Tryz.prog G0 K12:=KS8
end Go.Eng.Sv
namespace Go.Eng.Mp
open Go.Proofs
open Go.Eng.Sv (I R M G0 KI0)
open Go.Eng.Sv (aK hm)
def cX(x:Int): Bool:=decide (x<=-549755813888)
def py(x:Int): Bool:=cX x||(decide (x≥-1000000000)&&decide (x<=1000000000))
def iW(x y:Int): Int:=bif cX x&&cX y then -1099511627776 else max x y
def iG(x y:Int): Int:=bif cX x||cX y then -1099511627776 else x+y
def rL(x y:Int): Prop:=cX x=false->cX y=false->inR .i64 (x+y)
def dA(x y:Bool): Bool:=x||y
def m5{α:Type}(op:α->α->α)(g:Int->α)(z:α): Nat->α
 | 0=>z
 | k+1=>op (m5 op g z k) (g k)
def iq(op:Bool->Bool->Bool)(g:Int->Bool)(z:Bool)(n:Int): Bool:=m5 op g z n.toNat
def gv(n:Int)(preP:Bool->Bool->Prop)(preT:Int->Prop)(g:Int->Bool): Prop:=n<=9223372036854775807/\∀k,0<=k->k<n->preT k/\∀x,preP x (g k)
def upto(k n:Int): Prop:=0<=k/\(k<=n\/k=0)
def idx(k:Int)(row:Li): Prop:=0<=k/\k<(row.length:Int)
def at1(row:Li)(k:Int): Int:=row.getD k.toNat 0
def jR(row:Li)(k:Int): Bool:=!(py (at1 row k))
def mB(row:Li): Bool:=iq dA (jR row) false row.length
def NS(row:Li): Prop:=(row.length:Int)<=9223372036854775807
def K0: Kt:=λ_ _ _=>none
def c0: Cfg:=Sv.mkc K0
theorem aAc(x:Int)(b:
 true/\(True->Ei x (-549755813888)=cX x/\True)):
  evF c0 az 260 [.dat I x] [] ⟨True,.dat .bool (cX x),[]⟩:=oE b
theorem KS0: aj Tryz.prog G0 K0:=λf args m c h=>by cases h
theorem aD9(x:Int): af Tryz.prog G0 260 [.dat I x] [] ⟨True,.dat .bool (cX x),[]⟩:=
 ae (c:=c0) KS0 aK hm (aAc x ⟨rfl,λ_=>⟨rfl,trivial⟩⟩)
theorem Lh(x y:Bool)(b:
 true/\(True->(Dj true (Di x)->Di x)/\Ea x true y=dA x y/\True)):
  evF c0 az 262 [.dat .bool x,.dat .bool y] [] ⟨True,.dat .bool (dA x y),[]⟩:=oE b
theorem G4(x y:Bool): af Tryz.prog G0 262 [.dat .bool x,.dat .bool y] [] ⟨True,.dat .bool (dA x y),[]⟩:=
 ae (c:=c0) KS0 aK hm (Lh x y (by cases x<;>cases y<;>simp[dA]))
def aBO(n:Int)(z:Bool)(op:Bool->Bool->Bool)(g:Int->Bool): Ann:=⟨λid s=>match id with
 | 3=>some {α:=Int,inv:=λk=>upto k n,st:=λk=>put s [(13,.dat I k),(9,.dat .bool (iq op g z k))],μ:=λk=>Dc (Dh n k)}
 | _=>none,λ_ _=>none,λ_ _=>none⟩
theorem QV(n:Int)(z:Bool)(e:Bool->Bool->Prop)(op:Bool->Bool->Bool)(b:Int->Prop)(g:Int->Bool)(f:
 true/\(gv n e b g->(∃x,upto x n/\AV.clo2 Ty.bool Ty.bool Ty.bool e op=AV.clo2 Ty.bool Ty.bool Ty.bool e op/\AV.clo1 (Ty.int .i64) Ty.bool b g=AV.clo1 (Ty.int .i64) Ty.bool b g/\false=false/\z=iq op g z x/\n=n/\0=x/\True)/\∀(x:Int),let c1:=iq op g z x;let c2:=x+1;upto x n->(Dp x n->b x/\e c1 (g x)/\inR .i64 c2/\∃y,upto y n/\(AV.clo2 Ty.bool Ty.bool Ty.bool e op=AV.clo2 Ty.bool Ty.bool Ty.bool e op/\AV.clo1 (Ty.int .i64) Ty.bool b g=AV.clo1 (Ty.int .i64) Ty.bool b g/\false=false/\op c1 (g x)=iq op g z y/\n=n/\c2=y/\True)/\Dc (n-y)<Dc (n-x))/\(Dp x n=false->c1=iq op g z n/\True))):
  evF c0 (lvA [(3,[2,3,8,9,10,12,13])] (aBO n z op g)) 261 [.dat I n,.dat .bool z,.clo2 .bool .bool .bool e op,.clo1 I .bool b g] [] ⟨gv n e b g,.dat .bool (iq op g z n),[]⟩:=oE f
theorem JD(op:Bool->Bool->Bool)(g:Int->Bool)(z:Bool): iq op g z 0=z:=rfl
theorem JE(op:Bool->Bool->Bool)(g:Int->Bool)(z:Bool)(k:Int)(h:0<=k): iq op g z (k+1)=op (iq op g z k) (g k):=by
 unfold iq;have e:(k+1).toNat=k.toNat+1:=by omega
 rw[e];show op _ (g (k.toNat:Int))=_;rw[qR h]
theorem Ou(op:Bool->Bool->Bool)(g:Int->Bool)(z:Bool)(k n:Int)(h:upto k n)(b:¬k<n): iq op g z k=iq op g z n:=by
 unfold iq;unfold upto at h;have e:k.toNat=n.toNat:=by omega
 rw[e]
theorem Yb(n:Int)(z:Bool)(e:Bool->Bool->Prop)(op:Bool->Bool->Bool)(b:Int->Prop)(g:Int->Bool):
  af Tryz.prog G0 261 [.dat I n,.dat .bool z,.clo2 .bool .bool .bool e op,.clo1 I .bool b g] [] ⟨gv n e b g,.dat .bool (iq op g z n),[]⟩:=by
 refine ae (c:=c0) KS0 aK hm (QV n z e op b g ⟨rfl,λj=>⟨⟨0,⟨by omega,.inr rfl⟩,?_⟩,λx i=>⟨λf=>?_,λh=>?_⟩⟩⟩)
 .simp[JD]
 .have f:x<n:=by simpa using f
  have r:=i.1;obtain⟨p1,p2⟩:=j.2 x r f;refine⟨p1,p2 _,?_,x+1,⟨by omega,.inl (by omega)⟩,?_,?_⟩
  .have:=j.1;simp only[inR,Dq];omega
  .simp[JE op g z x r]
  .simp only[Dw,Dc,Dh];omega
 .have h:¬x<n:=by simpa using h
  exact⟨Ou op g z x n i h,trivial⟩
def K1: Kt:=λf args m=>match f,args,m with
 | 260,[.dat (.int .i64) x],[]=>some ⟨True,.dat .bool (cX x),[]⟩
 | 262,[.dat .bool x,.dat .bool y],[]=>some ⟨True,.dat .bool (dA x y),[]⟩
 | _,_,_=>none
def c1: Cfg:=Sv.mkc K1
theorem WW(x:Int)(b:
 let c1:=Ed x (-1000000000);true/\(True->True/\(Di (cX x)->Di (cX x)->Di (cX x))/\(Di (cX x)->Di (cX x)->Di (cX x))/\(Dj (Di (cX x)) c1->Dj (Di (cX x)) c1->Dj (Di (cX x)) c1)/\(Di (cX x)->Di (cX x)->Di (cX x))/\(Di (cX x)->Dj (Di (cX x)) c1->Dj (Di (cX x)) c1)/\(Dj true (Di (cX x))->Di (cX x))/\Ea (cX x) true (Ea c1 (Ei x 1000000000) false)=py x/\True)):
  evF c1 az 289 [.dat I x] [] ⟨True,.dat .bool (py x),[]⟩:=oE b
theorem KS1: aj Tryz.prog G0 K1:=by
 intro f args m c h;unfold K1 at h;split at h
 .cases h;exact aD9 _
 .cases h;exact G4 _ _
 .cases h
theorem aBd(x:Int): af Tryz.prog G0 289 [.dat I x] [] ⟨True,.dat .bool (py x),[]⟩:=
 ae (c:=c1) KS1 aK hm (WW x (by cases h:cX x<;>simp[py,h,Bool.cond_eq_ite]))
theorem WE(x y:Int)(b:
 let c1:=Ea (cX x) (cX y) false;true/\(True->True/\(cX x->cX x->cX x)/\(cX x->True)/\(Dj true (cX x)->cX x)/\(c1->(-1099511627776:Int)=iW x y/\True)/\(c1=false->Ez x y=iW x y/\True))):
  evF c1 az 215 [.dat I x,.dat I y] [] ⟨True,.dat I (iW x y),[]⟩:=oE b
theorem aA7(x y:Int): af Tryz.prog G0 215 [.dat I x,.dat I y] [] ⟨True,.dat I (iW x y),[]⟩:=
 ae (c:=c1) KS1 aK hm (WE x y (by cases h:cX x<;>cases b:cX y<;>simp[iW,h,b]))
theorem Qp(x y:Int)(b:
 let c1:=Ea (cX x) true (cX y);true/\(rL x y->True/\(Di (cX x)->Di (cX x)->Di (cX x))/\(Di (cX x)->True)/\(Dj true (Di (cX x))->Di (cX x))/\(c1->(-1099511627776:Int)=iG x y/\True)/\(c1=false->inR .i64 (x+y)/\x+y=iG x y/\True))):
  evF c1 az 218 [.dat I x,.dat I y] [] ⟨rL x y,.dat I (iG x y),[]⟩:=oE b
theorem X5(x y:Int): af Tryz.prog G0 218 [.dat I x,.dat I y] [] ⟨rL x y,.dat I (iG x y),[]⟩:=
 ae (c:=c1) KS1 aK hm (Qp x y (by cases h:cX x<;>cases b:cX y<;>simp[iG,rL,h,b]))
def K2: Kt:=λf args m=>match f,args,m with
 | 289,[.dat (.int .i64) x],[]=>some ⟨True,.dat .bool (py x),[]⟩
 | 215,[.dat (.int .i64) x,.dat (.int .i64) y],[]=>some ⟨True,.dat I (iW x y),[]⟩
 | 218,[.dat (.int .i64) x,.dat (.int .i64) y],[]=>some ⟨rL x y,.dat I (iG x y),[]⟩
 | _,_,_=>K1 f args m
def c2: Cfg:=Sv.mkc K2
theorem KF(k:Int)(row:Li)(b:
 true/\(idx k row->0<=k/\k<Df row/\True/\Di (py (Du row (Dc k) 0))=jR row k/\True)):
  evF c2 az 288 [.dat I k,.ip R row] [] ⟨idx k row,.dat .bool (jR row k),[]⟩:=oE b
theorem KS2: aj Tryz.prog G0 K2:=by
 intro f args m c h;unfold K2 at h;split at h
 .cases h;exact aBd _
 .cases h;exact aA7 _ _
 .cases h;exact X5 _ _
 .exact KS1 _ _ _ _ h
theorem SD(k:Int)(row:Li): af Tryz.prog G0 288 [.dat I k,.ip R row] [] ⟨idx k row,.dat .bool (jR row k),[]⟩:=
 ae (c:=c2) KS2 aK hm (KF k row ⟨rfl,λh=>⟨h.1,h.2,trivial,rfl,trivial⟩⟩)
theorem Nb{P:Program}{C:Ctx}{a b x y f e:AV}{us:Lv}(h:AV.relL P C [a,b,x,y] us)(i:∀v,x.rel P C v->f.rel P C v)(g:∀v,y.rel P C v->e.rel P C v): AV.relL P C [a,b,f,e] us:=by
 obtain⟨u,us,rfl,G,T,us,rfl,A,O,us,rfl,z,L,us,rfl,r,j⟩:=h;exact⟨_,_,rfl,G,_,_,rfl,A,_,_,rfl,i _ z,_,_,rfl,g _ r,j⟩
theorem JG{C:Ctx}(b:jG Tryz.prog C G0){v:Value}(h:(AV.fn 262 []).rel Tryz.prog C v): (AV.clo2 .bool .bool .bool (λ_ _=>True) dA).rel Tryz.prog C v:=
 jA (by kernel_rfl) rfl (λx y=>G4 x y) b h
theorem u7(n:Int)(z:Bool){f:FuncId}{caps:List AV}(b:Int->Prop)(g:Int->Bool)(u:goes Tryz.prog f=true)(r:AV.namesL caps=[])(h:∀k,af Tryz.prog G0 f (.dat I k::caps) [] ⟨b k,.dat .bool (g k),[]⟩):
  af Tryz.prog G0 261 [.dat I n,.dat .bool z,.fn 262 [],.fn f caps] [] ⟨gv n (λ_ _=>True) b g,.dat .bool (iq dA g z n),[]⟩:=
 (Yb n z _ dA b g).args λ_ _ e j=>Nb j (λ_ h=>JG e h) (λ_ i=>jB u r h e i)
def K3: Kt:=λf args m=>match f,args,m with
 | 261,[.dat (.int .i64) n,.dat .bool z,.fn 262 [],.fn 288 [.ip (.sl (.int .i64)) row]],[]=>some ⟨gv n (λ_ _=>True) (λk=>idx k row) (jR row),.dat .bool (iq dA (jR row) z n),[]⟩
 | _,_,_=>K2 f args m
def c3: Cfg:=Sv.mkc K3
theorem Qd(row:Li)(b:
 true/\(NS row->gv (Df row) (λx e↦True) (λk↦idx k row) (jR row)/\iq dA (jR row) false (Df row)=mB row/\True)):
  evF c3 az 259 [.dat R row] [] ⟨NS row,.dat .bool (mB row),[]⟩:=oE b
theorem KS3: aj Tryz.prog G0 K3:=by
 intro f args m c h;unfold K3 at h;split at h
 .cases h;exact u7 _ _ _ _ (by kernel_rfl) rfl (λk=>SD k _)
 .exact KS2 _ _ _ _ h
theorem X3(row:Li): af Tryz.prog G0 259 [.dat R row] [] ⟨NS row,.dat .bool (mB row),[]⟩:=
 ae (c:=c3) KS3 aK hm (Qd row ⟨rfl,λh=>⟨⟨h,λk e b=>⟨⟨e,b⟩,λ_=>trivial⟩⟩,rfl,trivial⟩⟩)
def aJ(g:Int->Int->Int)(n:Int): Lj:=(List.range n.toNat).map λi:Nat=>(List.range n.toNat).map λj:Nat=>g i j
def ca(g:Int->Int->Int)(n i:Int): Lj:=(aJ g n).take i.toNat++List.replicate (n.toNat-i.toNat) []
def pM(g:Int->Int->Int)(n i j:Int): Li:=((List.range n.toNat).map λj:Nat=>g i j).take j.toNat++List.replicate (n.toNat-j.toNat) 0
def br(n:Int)(preT:Int->Int->Prop): Prop:=0<=n/\n<=1000000/\∀i j,0<=i->i<n->0<=j->j<n->preT i j
def aB7(n:Int)(g:Int->Int->Int): Ann:=⟨λid s=>match id with
 | 3=>some {α:=Int,inv:=λk=>upto k n,st:=λk=>gC (put s [(11,.dat I k),(5,.buf 0 (Dc n))]) 0 (.buf 36 R (ca g n k) []),μ:=λk=>Dc (Dh n k)}
 | 7=>match s.sig.T 6 with
  | .dat (.int .i64) i=>some {α:=Int,inv:=λk=>upto k n,st:=λk=>gC (put s [(20,.dat I k)]) 1 (.buf 3 I (pM g n i k) []),μ:=λk=>Dc (Dh n k)}
  | _=>none
 | _=>none,λ_ _=>none,λ_ _=>none⟩
theorem Re(n:Int)(b:Int->Int->Prop)(g:Int->Int->Int)(f:
 let c1:=Ep n (0:Int);true/\(br n b->0<=n/\(Dx 24*n)<=281474976710656/\n<=9223372036854775807/\(∃x,upto x n/\n=n/\AV.clo2 (Ty.int .i64) (Ty.int .i64) (Ty.int .i64) b g=AV.clo2 (Ty.int IntKind.i64) (Ty.int .i64) (Ty.int .i64) b g/\Value.slice none 0 0=Value.slice none 0 0/\Dc n=Dc n/\n=n/\0=x/\Ep n (Dt Int)=ca g n x/\True)/\∀(x:Int),let c2:=Dk (ca g n x);let c3:=x+1;upto x n->(Dp x n->0<=n/\(Dx 8*n)<=281474976710656/\n<=9223372036854775807/\c2=Dc n/\0<=x/\x<Dx c2/\c2=Dc n/\Dk c1=Dc n/\(∃e,upto e n/\n=n/\AV.clo2 (Ty.int .i64) (Ty.int .i64) (Ty.int .i64) b g=AV.clo2 (Ty.int .i64) (Ty.int .i64) (Ty.int .i64) b g/\Value.slice none 0 0=Value.slice none 0 0/\Dc n=Dc n/\x=x/\n=n/\x=x/\n=n/\0=e/\ca g n x=ca g n x/\Dc x=Dc x/\Dc n=Dc n/\c1=pM g n x e/\True)/\∀(e:Int),let c4:=pM g n x e;let c5:=Dk c4;let c6:=e+1;
 upto e n->(Dp e n->c2=Dc n/\0<=x/\x<Dx c2/\c2=Dc n/\Dc x=Dc x/\b x e/\c5=Dc n/\0<=e/\e<Dx c5/\c5=Dc n/\inR .i64 c6/\∃y,upto y n/\(n=n/\AV.clo2 (Ty.int .i64) (Ty.int .i64) (Ty.int .i64) b g=AV.clo2 (Ty.int .i64) (Ty.int .i64) (Ty.int .i64) b g/\Value.slice none 0 0=Value.slice none 0 0/\Dc n=Dc n/\x=x/\n=n/\x=x/\n=n/\c6=y/\ca g n x=ca g n x/\Dc x=Dc x/\Dc n=Dc n/\En c4 (Dc e) (g x e)=pM g n x y/\True)/\Dc (n-y)<Dc (n-e))/\(Dp e n=false->inR .i64 c3/\∃y,upto y n/\(n=n/\AV.clo2 (Ty.int .i64) (Ty.int .i64) (Ty.int .i64) b g=AV.clo2 (Ty.int .i64) (Ty.int .i64) (Ty.int IntKind.i64) b g/\Value.slice none 0 0=Value.slice none 0 0/\Dc n=Dc n/\n=n/\c3=y/\c5=Dc n/\En (ca g n x) (Dc x) c4=ca g n y/\True)/\Dc (n-y)<Dc (n-x)))/\(Dp x n=false->c2=Dc n/\ca g n x=aJ g n/\True))):
  evF c0 (lvA [(3,[0,1,4,5,6,7,10,11,19,20]),(7,[0,1,4,5,6,7,10,11,19,20])] (aB7 n g)) 213 [.dat I n,.clo2 I I I b g] [] ⟨br n b,.dat M (aJ g n),[]⟩:=oE f
theorem y6{α:Type}(xs:List α)(d v:α)(k:Nat)(b:xs[k]?=some v): (xs.take k++List.replicate (xs.length-k) d).set k v=xs.take (k+1)++List.replicate (xs.length-(k+1)) d:=by
 obtain⟨h,e⟩:=qG.1 b;have f:xs.length-k=(xs.length-(k+1))+1:=by omega
 rw[f,qBi,List.set_append_right _ _ (by simp;omega)];simp[wO,b,xC (Nat.le_of_lt h)]
theorem fA(g:Int->Int->Int)(n:Int): (aJ g n).length=n.toNat:=by simp[aJ]
theorem k9(g:Int->Int->Int)(n x:Int)(h:upto x n): (ca g n x).length=n.toNat:=by
 have:=h.1;have:=h.2;simp only[ca,qF,qI,wG,fA];omega
theorem lW(g:Int->Int->Int)(n i x:Int)(h:upto x n): (pM g n i x).length=n.toNat:=by
 have:=h.1;have:=h.2;simp only[pM,qF,qI,wG,vG,vI];omega
theorem lV(g:Int->Int->Int)(n:Int): ca g n 0=List.replicate n.toNat []:=by simp[ca]
theorem si(g:Int->Int->Int)(n i:Int): pM g n i 0=List.replicate n.toNat 0:=by simp[pM]
theorem sj(g:Int->Int->Int)(n i j:Int)(b:0<=j)(f:j<n): (pM g n i j).set j.toNat (g i j)=pM g n i (j+1):=by
 have e:(j+1).toNat=j.toNat+1:=by omega
 have:=y6 ((List.range n.toNat).map λj:Nat=>g i j) 0 (g i j) j.toNat (by
  rw[qO,vT (by omega)];simp[qR b])
 simp only[vG,vI]at this;unfold pM;rw[e];exact this
theorem SY(g:Int->Int->Int)(n i j:Int)(h:upto j n)(b:¬j<n): pM g n i j=(List.range n.toNat).map λj:Nat=>g i j:=by
 have:=h.1;have:=h.2;have e:j.toNat=n.toNat:=by omega
 unfold pM;rw[e,qQ (by simp)];simp
theorem oQ(g:Int->Int->Int)(n i j:Int)(f:0<=i)(r:i<n)(h:upto j n)(b:¬j<n): (ca g n i).set i.toNat (pM g n i j)=ca g n (i+1):=by
 have e:(i+1).toNat=i.toNat+1:=by omega
 rw[SY g n i j h b];have:=y6 (aJ g n) [] ((List.range n.toNat).map λj:Nat=>g i j) i.toNat (by
  unfold aJ;rw[qO,vT (by omega)];simp[qR f])
 rw[fA]at this;unfold ca;rw[e];exact this
theorem sh(g:Int->Int->Int)(n i:Int)(h:upto i n)(b:¬i<n): ca g n i=aJ g n:=by
 have:=h.1;have:=h.2;have e:i.toNat=n.toNat:=by omega
 unfold ca;rw[e,qQ (by rw[fA];exact qJ _)];simp
theorem Yc(n:Int)(f:Int->Int->Prop)(g:Int->Int->Int): af Tryz.prog G0 213 [.dat I n,.clo2 I I I f g] [] ⟨br n f,.dat M (aJ g n),[]⟩:=by
 refine ae (c:=c0) KS0 aK hm (Re n f g ⟨rfl,λA=>?_⟩);obtain⟨p1,p2,p3⟩:=A;refine⟨p1,by simp only[Dl,Ee,Dx];omega,by omega,⟨0,⟨by omega,.inr rfl⟩,?_⟩,λx r=>⟨λh=>?_,λb=>?_⟩⟩
 .simp[lV]
 .have h:x<n:=by simpa using h
  have v:=r.1;have u:=k9 g n x r;refine⟨p1,by simp only[Dl,Ee,Dx];omega,by omega,u,v,by simp only[Dn,Dx,Dk];omega,u,by simp,⟨0,⟨by omega,.inr rfl⟩,?_⟩,λy j=>⟨λe=>?_,λb=>?_⟩⟩
  .simp[si]
  .have e:y<n:=by simpa using e
   have z:=j.1;have i:=lW g n x y j;refine⟨u,v,by simp only[Dn,Dx,Dk];omega,u,rfl,p3 x y v h z e,i,z,by simp only[Dn,Dx,Dk];omega,i,by simp only[inR,Dq];omega,y+1,⟨by omega,.inl (by omega)⟩,?_,?_⟩
   .simp[sj g n x y z e]
   .simp only[Dw,Dc,Dh];omega
  .have b:¬y<n:=by simpa using b
   refine⟨by simp only[inR,Dq];omega,x+1,⟨by omega,.inl (by omega)⟩,?_,?_⟩
   .simp[oQ g n x y v h j b,lW g n x y j]
   .simp only[Dw,Dc,Dh];omega
 .have b:¬x<n:=by simpa using b
  exact⟨k9 g n x r,sh g n x r b,trivial⟩
def mE(m:Lj)(row:Li): Bool:=decide ((row.length:Int)≠m.length)||mB row
def ax(m:Lj): Bool:=!decide ((m.length:Int)>40)&&!m.any (mE m)
def PT(m:Lj)(k:Int): Prop:=0<=k/\k<=m.length/\m.length<=40/\(m.take k.toNat).any (mE m)=false
def od(i j:Int)(a:Lj): Prop:=0<=i/\i<(a.length:Int)/\idx j (a.getD i.toNat [])
def at2(a:Lj)(i j:Int): Int:=(a.getD i.toNat []).getD j.toNat 0
def diag(m:Lj)(k:Int): Bool:=decide (at2 m k k>0)
def fK(m:Lj): Bool:=iq dA (diag m) false m.length
def VS(m:Lj): Prop:=gv m.length (λ_ _=>True) (λk=>od k k m) (diag m)
def mq(m:Lj)(i j:Int): Int:=bif decide (i=j)then iW 0 (at2 m i j)else iW (-1099511627776) (at2 m i j)
def mP(m:Lj)(k i j:Int): Int:=iW (at2 m i j) (iG (at2 m i k) (at2 m k j))
def Ao(m:Lj)(k i j:Int): Prop:=od i j m/\od i k m/\od k j m/\rL (at2 m i k) (at2 m k j)
def K4: Kt:=λf args m=>match f,args,m with
 | 259,[.dat (.sl (.int .i64)) row],[]=>some ⟨NS row,.dat .bool (mB row),[]⟩
 | _,_,_=>K3 f args m
def c4: Cfg:=Sv.mkc K4
def GF(m:Lj): Ann:=⟨λid s=>match id with
 | 4=>some {α:=Int,inv:=λk=>PT m k,st:=λk=>put s [(10,.dat I k)],μ:=λk=>Dc (Dh (Df m) k)}
 | _=>none,λ_ _=>none,λ_ _=>none⟩
theorem wT(m:Lj)(b:
 let c1:=Eh (Df m) 40;true/\(True->(c1->false=ax m/\True)/\(c1=false->(∃x,PT m x/\m=m/\m=m/\Df m=Df m/\0=x/\True)/\∀(x:Int),let c2:=Dp x (Df m);let c3:=Du m (Dc x) [];let c4:=Ec (Df c3) (Df m);let c5:=Di c4;let c6:=Ea c4 true (mB c3);let c7:=x+1;PT m x->(c2->0<=x/\x<Df m/\(c5->c5->c5)/\(c5->NS c3)/\(Dj true c5->c5)/\(c6->false=ax m/\True)/\(c6=false->inR .i64 c7/\∃y,PT m y/\(m=m/\m=m/\Df m=Df m/\c7=y/\True)/\Dc (Df m-y)<Dc (Df m-x)))/\(c2=false->true=ax m/\True)))):
  evF c4 (lvA [(4,[0,2,4,8,9,10])] (GF m)) 212 [.dat M m] [] ⟨True,.dat .bool (ax m),[]⟩:=oE b
theorem WX(k:Int)(m:Lj)(b:
 let c1:=Du m (Dc k) [];true/\(od k k m->0<=k/\k<Df m/\0<=k/\k<Df c1/\Eh (Du c1 (Dc k) 0) 0=diag m k/\True)):
  evF c4 az 263 [.dat I k,.ip M m] [] ⟨od k k m,.dat .bool (diag m k),[]⟩:=oE b
theorem Qs(i j:Int)(m:Lj)(b:
 let c1:=Du m (Dc i) [];let c2:=Du c1 (Dc j) 0;true/\(od i j m->(Eb i j->0<=i/\i<Df m/\0<=j/\j<Df c1/\True/\iW 0 c2=mq m i j/\True)/\(Eb i j=false->0<=i/\i<Df m/\0<=j/\j<Df c1/\True/\iW (-1099511627776) c2=mq m i j/\True))):
  evF c4 az 214 [.dat I i,.dat I j,.ip M m] [] ⟨od i j m,.dat I (mq m i j),[]⟩:=oE b
theorem Qr(k i j:Int)(m:Lj)(b:
 let c1:=Du m (Dc i) [];let c2:=Df c1;let c3:=Du m (Dc k) [];let c4:=Du c1 (Dc k) 0;let c5:=Du c3 (Dc j) 0;true/\(Ao m k i j->0<=i/\i<Df m/\0<=j/\j<c2/\0<=i/\i<Df m/\0<=k/\k<c2/\0<=k/\k<Df m/\0<=j/\j<Df c3/\rL c4 c5/\True/\iW (Du c1 (Dc j) 0) (iG c4 c5)=mP m k i j/\True)):
  evF c4 az 217 [.dat I i,.dat I j,.ip M m,.ip I k] [] ⟨Ao m k i j,.dat I (mP m k i j),[]⟩:=oE b
theorem KS4: aj Tryz.prog G0 K4:=by
 intro f args m c h;unfold K4 at h;split at h
 .cases h;exact X3 _
 .exact KS3 _ _ _ _ h
theorem Nx{m:Lj}(h:¬(m.length:Int)>40): PT m 0:=⟨by omega,by omega,by omega,by simp⟩
theorem Hw{m:Lj}{k:Int}(h:PT m k)(f:k<m.length): m.getD k.toNat []∈m/\m.take (k+1).toNat=m.take k.toNat++[m.getD k.toNat []]:=by
 have g:=h.1;have b:k.toNat<m.length:=by omega
 have e:(k+1).toNat=k.toNat+1:=by omega
 rw[qA,qB b,e];exact⟨wE b,by rw[wO,qB b];rfl⟩
theorem Ny{m:Lj}{k:Int}(h:PT m k)(g:k<m.length)(f:mE m (m.getD k.toNat [])=false): PT m (k+1):=by
 obtain⟨j,i,e,b⟩:=h;refine⟨by omega,by omega,e,?_⟩;rw[(Hw ⟨j,i,e,b⟩ g).2,List.any_append,b,qDr,f];rfl
theorem IQ{m:Lj}{k:Int}(h:PT m k)(e:k<m.length)(b:mE m (m.getD k.toNat [])=true): ax m=false:=by
 unfold ax;have:m.any (mE m)=true:=xX.2 ⟨_,(Hw h e).1,b⟩;rw[this];simp
theorem IP{m:Lj}{k:Int}(h:PT m k)(f:¬k<m.length): ax m=true:=by
 obtain⟨j,i,g,b⟩:=h;unfold ax;have e:k.toNat=m.length:=by omega
 rw[e,xG]at b;rw[b];have:¬((m.length:Int)>40):=by omega
 simp only[this,kK];rfl
theorem wq(m:Lj)(r:Li): Ea (Ec (Df r) (Df m)) true (mB r)=mE m r:=by
 unfold mE Ea Ec Df;by_cases h:(r.length:Int)=m.length<;>simp[h]
theorem DO(m:Lj): af Tryz.prog G0 212 [.dat M m] [] ⟨True,.dat .bool (ax m),[]⟩:=by
 refine ae (c:=c4) KS4 aK hm (wT m ⟨rfl,λ_=>⟨λh=>⟨?_,trivial⟩,λh=>⟨⟨0,Nx (by simpa using h),by simp⟩,λx e=>⟨λb=>?_,λf=>?_⟩⟩⟩⟩)
 .have:(m.length:Int)>40:=by simpa using h
  unfold ax;simp only[this,qAm];rfl
 .have b:x<m.length:=by simpa using b
  refine⟨e.1,b,λ_ h=>h,λg=>?_,λh=>?_,λhb=>⟨?_,trivial⟩,λhb=>⟨?_,x+1,?_,by simp,?_⟩⟩
  .have:((m.getD x.toNat []).length:Int)=m.length:=by simpa using g
   have:=e.2.2.1;show((m.getD x.toNat []).length:Int)<=_;omega
  .simpa using h
  .rw[wq m]at hb;exact(IQ e b hb).symm
  .have:=e.2.2.1;have:=e.1;simp only[inR,Dq];omega
  .rw[wq m]at hb;exact Ny e b hb
  .have:=e.1;simp only[Dw,Dc,Dh,Df];omega
 .have f:¬x<m.length:=by simpa using f
  exact⟨(IP e f).symm,trivial⟩
theorem aBe(k:Int)(m:Lj): af Tryz.prog G0 263 [.dat I k,.ip M m] [] ⟨od k k m,.dat .bool (diag m k),[]⟩:=
 ae (c:=c4) KS4 aK hm (WX k m ⟨rfl,λb=>⟨b.1,b.2.1,b.2.2.1,b.2.2.2,rfl,trivial⟩⟩)
theorem X7(i j:Int)(m:Lj): af Tryz.prog G0 214 [.dat I i,.dat I j,.ip M m] [] ⟨od i j m,.dat I (mq m i j),[]⟩:=
 ae (c:=c4) KS4 aK hm (Qs i j m ⟨rfl,λb=>⟨λe=>⟨b.1,b.2.1,b.2.2.1,b.2.2.2,trivial,by
   have e:i=j:=by simpa using e
   simp[mq,e,at2],trivial⟩,
  λe=>⟨b.1,b.2.1,b.2.2.1,b.2.2.2,trivial,by
   have e:¬i=j:=by simpa using e
   simp[mq,e,at2],trivial⟩⟩⟩)
theorem X6(k i j:Int)(m:Lj): af Tryz.prog G0 217 [.dat I i,.dat I j,.ip M m,.ip I k] [] ⟨Ao m k i j,.dat I (mP m k i j),[]⟩:=
 ae (c:=c4) KS4 aK hm (Qr k i j m ⟨rfl,λ⟨f,e,b,g⟩=>⟨f.1,f.2.1,f.2.2.1,f.2.2.2,e.1,e.2.1,e.2.2.1,e.2.2.2,b.1,b.2.1,b.2.2.1,b.2.2.2,g,trivial,rfl,trivial⟩⟩)
theorem u9(n:Int){f:FuncId}{caps:List AV}(b:Int->Int->Prop)(g:Int->Int->Int)(r:goes Tryz.prog f=true)(e:AV.namesL caps=[])(h:∀i j,af Tryz.prog G0 f (.dat I i::.dat I j::caps) [] ⟨b i j,.dat I (g i j),[]⟩):
  af Tryz.prog G0 213 [.dat I n,.fn f caps] [] ⟨br n b,.dat M (aJ g n),[]⟩:=
 (Yc n b g).args λ_ _ u ⟨_,_,A,y,_,_,z,x,v⟩=>⟨_,_,A,y,_,_,z,jA r e h u x,v⟩
def K5: Kt:=λf args m=>match f,args,m with
 | 212,[.dat (.sl (.sl (.int .i64))) m],[]=>some ⟨True,.dat .bool (ax m),[]⟩
 | 261,[.dat (.int .i64) n,.dat .bool z,.fn 262 [],.fn 263 [.ip (.sl (.sl (.int .i64))) m]],[]=>some ⟨gv n (λ_ _=>True) (λk=>od k k m) (diag m),.dat .bool (iq dA (diag m) z n),[]⟩
 | 213,[.dat (.int .i64) n,.fn 214 [.ip (.sl (.sl (.int .i64))) m]],[]=>some ⟨br n (λi j=>od i j m),.dat M (aJ (mq m) n),[]⟩
 | 213,[.dat (.int .i64) n,.fn 217 [.ip (.sl (.sl (.int .i64))) m,.ip (.int .i64) k]],[]=>some ⟨br n (Ao m k),.dat M (aJ (mP m k) n),[]⟩
 | _,_,_=>K4 f args m
def c5: Cfg:=Sv.mkc K5
theorem Lm(m:Lj)(b:
 true/\(VS m->gv (Df m) (λx e↦True) (λk↦od k k m) (diag m)/\iq dA (diag m) false (Df m)=fK m/\True)):
  evF c5 az 216 [.dat M m] [] ⟨VS m,.dat .bool (fK m),[]⟩:=oE b
theorem KS5: aj Tryz.prog G0 K5:=by
 intro f args m c h;unfold K5 at h;split at h
 .cases h;exact DO _
 .cases h;exact u7 _ _ _ _ (by kernel_rfl) rfl (λk=>aBe k _)
 .cases h;exact u9 _ _ _ (by kernel_rfl) rfl (λi j=>X7 i j _)
 .cases h;exact u9 _ _ _ (by kernel_rfl) rfl (λi j=>X6 _ i j _)
 .exact KS4 _ _ _ _ h
theorem SL(m:Lj): af Tryz.prog G0 216 [.dat M m] [] ⟨VS m,.dat .bool (fK m),[]⟩:=
 ae (c:=c5) KS5 aK hm (Lm m ⟨rfl,λh=>⟨h,rfl,trivial⟩⟩)
def cC(m:Lj): Nat->Lj
 | 0=>aJ (mq m) m.length
 | k+1=>aJ (mP (cC m k) k) m.length
def nG(m:Lj)(k:Int): Lj:=cC m k.toNat
def rT(m:Lj): Bool:=(List.range (m.length+1)).any λk=>fK (cC m k)
def DJ(m:Lj): Lj×Int:=bif ax m then bif rT m then([],120)else(cC m m.length,0)else([],1)
def jf(m:Lj): Lj:=(DJ m).1
def jg(m:Lj): Int:=(DJ m).2
def xi(m:Lj): Prop:=m.length<=20
def GQ(m:Lj)(k:Int): Prop:=0<=k/\k<=m.length/\ax m=true/\∀j:Nat,(j:Int)<=k->fK (cC m j)=false
def K6: Kt:=λf args m=>match f,args,m with
 | 216,[.dat (.sl (.sl (.int .i64))) m],[]=>some ⟨VS m,.dat .bool (fK m),[]⟩
 | _,_,_=>K5 f args m
def c6: Cfg:=Sv.mkc K6
def aD6(m:Lj): Ann:=⟨λid s=>match id with
 | 8=>some {α:=Int,inv:=λk=>GQ m k,st:=λk=>put s [(19,.dat I k),(5,.dat M (nG m k))],μ:=λk=>Dc (Dh (Df m) k)}
 | _=>none,λid s=>match id with
 | 11=>some (frz [0,1] s)
 | _=>none,λ_ _=>none⟩
theorem Wy(m:Lj)(b:
 let c1:=aJ (mq m) (Df m);let c2:=fK c1;true/\(xi m->True/\(Di (ax m)->jf m=Dt (Li)/\1=jg m/\True)/\(Di (ax m)=false->(br (Df m) λi j↦od i j m)/\VS c1/\(c2->jf m=Dt (Li)/\120=jg m/\True)/\(c2=false->(∃x,GQ m x/\Df m=Df m/\c1=nG m x/\Df m=Df m/\0=x/\True)/\∀(x:Int),let c3:=Dp x (Df m);let c4:=aJ (mP (nG m x) x) (Df m);let c5:=fK c4;let c6:=x+1;GQ m x->(c3->1=1/\0=0/\1=1/\0=0/\Df m=Df m/\nG m x=nG m x/\1=1/\0=0/\x=x/\1=1/\0=0/\nG m x=nG m x/\Df m=Df m/\x=x/\c3=c3/\x=x/\nG m x=nG m x/\br (Df m) (Ao (nG m x) x)/\VS c4/\(c5->jf m=Dt (Li)/\120=jg m/\True)/\(c5=false->inR .i64 c6/\∃y,GQ m y/\(Df m=Df m/\c4=nG m y/\Df m=Df m/\c6=y/\True)/\Dc (Df m-y)<Dc (Df m-x)))/\(c3=false->nG m x=jf m/\0=jg m/\True))))):
  evF c6 (lvA [(8,[2,3,4,5,6,7,18,19])] (aD6 m)) 145 [.dat M m] [] ⟨xi m,.tup [.dat M (jf m),.dat I (jg m)],[]⟩:=oE b
theorem BW{g:Int->Bool}(n:Nat): m5 dA g false n=false↔∀k:Nat,k<n->g k=false:=by
 induction n with
 | zero=>simp[m5]
 | succ n b=>
  simp only[m5,dA,qBe,b];constructor
  .rintro⟨j,i⟩ k f;by_cases e:k=n
   .subst e;exact i
   .exact j k (by omega)
  .exact λh=>⟨λk f=>h k (by omega),h n (by omega)⟩
theorem qh{g:Int->Bool}{n:Int}: iq dA g false n=false↔∀k:Int,0<=k->k<n->g k=false:=by
 unfold iq;rw[BW];constructor
 .intro h k b f;have:=h k.toNat (by omega)
  rwa [qR b]at this
 .exact λh k e=>h k (by omega) (by omega)
theorem pF{row:Li}: mB row=false↔∀k:Int,0<=k->k<row.length->py (at1 row k)=true:=by
 unfold mB;rw[qh];simp[jR]
structure Sq (n:Nat) (m:Lj):Prop where
 len:m.length=n
 row:∀i:Int,0<=i->i<n->(m.getD i.toNat []).length=n
theorem Sq.od {n:Nat} {m:Lj} (h:Sq n m) {i j:Int} (e:0<=i) (b:i<n) (g:0<=j) (f:j<n):od i j m:=
 ⟨e,by rw[h.len];exact b,g,by rw[h.row i e b];exact f⟩
theorem Gz{m:Lj}(h:ax m=true): Sq m.length m/\m.length<=40/\∀i j:Int,0<=i->i<m.length->0<=j->j<m.length->py (at2 m i j)=true:=by
 unfold ax at h;simp only[qC,zK,vY]at h;obtain⟨z,r⟩:=h;have e:∀i:Int,0<=i->i<m.length->mE m (m.getD i.toNat [])=false:=by
  intro i b hi;have g:i.toNat<m.length:=by omega
  rw[qBs]at r;rw[qA,qB g];simpa using r _ (wE g)
 have f:∀i:Int,0<=i->i<m.length->(m.getD i.toNat []).length=m.length/\mB (m.getD i.toNat [])=false:=by
  intro i b hi;have:=e i b hi;unfold mE at this;simp only[qBe,vY,ne_eq,qBu]at this;exact⟨by have:=this.1;omega,this.2⟩
 refine⟨⟨rfl,λi b hi=>(f i b hi).1⟩,by omega,λi j b hi v u=>?_⟩;obtain⟨y,x⟩:=f i b hi;exact pF.1 x j v (by rw[y];exact u)
theorem pB(g:Int->Int->Int)(n:Nat)(i:Int)(b:0<=i)(hi:i<n): (aJ g n).getD i.toNat []=(List.range n).map λj:Nat=>g i j:=by
 unfold aJ;simp only[qZ];rw[qA,qO,vT (by omega)];simp[qR b]
theorem t7(g:Int->Int->Int)(n:Nat): Sq n (aJ g n):=⟨by simp[aJ],λi b hi=>by rw[pB g n i b hi];simp⟩
theorem jD(g:Int->Int->Int)(n:Nat)(i j:Int)(e:0<=i)(hi:i<n)(b:0<=j)(f:j<n): at2 (aJ g n) i j=g i j:=by
 unfold at2;rw[pB g n i e hi,qA,qO,vT (by omega)];simp[qR b]
theorem KS6: aj Tryz.prog G0 K6:=by
 intro f args m c h;unfold K6 at h;split at h
 .cases h;exact SL _
 .exact KS5 _ _ _ _ h
theorem rj(m:Lj)(k:Nat): Sq m.length (cC m k):=by
 cases k<;>exact t7 _ _
def bd(k:Nat): Int:=((1099511627776*2 ^ k:Nat):Int)
theorem aCb(k:Nat): 1099511627776<=bd k:=by
 unfold bd;have:1<=2 ^ k:=Nat.one_le_two_pow;omega
theorem Zj(k:Nat): bd (k+1)=2*bd k:=by
 unfold bd;rw[Nat.pow_succ];omega
theorem VZ{k:Nat}(h:k<=20): bd k<=1152921504606846976:=by
 unfold bd;have:=Nat.pow_le_pow_right (n:=2) (by omega) h;omega
theorem S4{x y b:Int}(hb:1099511627776<=b)(f:-b<=x/\x<=b)(e:-b<=y/\y<=b): -b<=iW x y/\iW x y<=b:=by
 unfold iW;cases cX x&&cX y
 .simp only[qAx];omega
 .simp only[qAv];omega
theorem LG{x y b:Int}(hb:1099511627776<=b)(f:-b<=x/\x<=b)(e:-b<=y/\y<=b): -(2*b)<=iG x y/\iG x y<=2*b:=by
 unfold iG;cases cX x||cX y
 .simp only[qAx];omega
 .simp only[qAv];omega
theorem Hm{c x:Int}(e:-1099511627776<=c/\c<=0)(b:py x=true): -1099511627776<=iW c x/\iW c x<=1099511627776:=by
 unfold iW;cases h:cX x
 .simp only[py,h,xU,qC,qE]at b;simp only[kG,qAx];omega
 .simp only[cX,qE]at h;cases cX c&&true
  .simp only[qAx];omega
  .simp only[qAv];omega
theorem lQ{m:Lj}(h:ax m=true): ∀(k:Nat),k<=m.length->∀i j:Int,0<=i->i<m.length->0<=j->j<m.length->-(bd k)<=at2 (cC m k) i j/\at2 (cC m k) i j<=bd k
 | 0,_,i,j,g,hi,f,b=>by
  have e:=(Gz h).2.2 i j g hi f b;show -(bd 0)<=at2 (aJ (mq m) m.length) i j/\at2 (aJ (mq m) m.length) i j<=bd 0;rw[jD _ _ _ _ g hi f b];have v:bd 0=1099511627776:=rfl;rw[v];unfold mq;cases decide (i=j)
  .exact Hm (c:=-1099511627776) (by omega) e
  .exact Hm (c:=0) (by omega) e
 | k+1,x,i,j,g,hi,f,b=>by
  show -(bd (k+1))<=at2 (aJ (mP (cC m k) k) m.length) i j/\at2 (aJ (mP (cC m k) k) m.length) i j<=bd (k+1);rw[jD _ _ _ _ g hi f b,Zj];have hb:=aCb k;have y:=lQ h k (by omega) i j g hi f b;have u:=lQ h k (by omega) i k g hi (by omega) (by omega);have r:=lQ h k (by omega) k j (by omega) (by omega) f b;exact S4 (by omega) (by omega) (LG hb u r)
theorem aBU{n:Nat}{m:Lj}(h:Sq n m)(f:n<=20): VS m:=
 ⟨by rw[h.len];omega,λk e b=>⟨h.od e (by rw[<- h.len];exact b) e (by rw[<- h.len];exact b),λ_=>trivial⟩⟩
theorem IZ{m:Lj}(k:Nat)(b:k<=m.length)(h:fK (cC m k)=true): rT m=true:=
 xX.2 ⟨k,vF.2 (by omega),h⟩
theorem aA6(m:Lj): af Tryz.prog G0 145 [.dat M m] [] ⟨xi m,.tup [.dat M (jf m),.dat I (jg m)],[]⟩:=by
 refine ae (c:=c6) KS6 aK hm (Wy m ⟨rfl,λT=>⟨trivial,λh=>?_,λh=>?_⟩⟩)
 .have h:ax m=false:=by simpa using h
  simp[jf,jg,DJ,h]
 .have h:ax m=true:=by simpa using h
  unfold xi at T;obtain⟨sq,_,el⟩:=Gz h;have L:∀k:Nat,VS (cC m k):=λk=>aBU (rj m k) T
  have bad:∀k:Nat,k<=m.length->fK (cC m k)=true->jf m=[]/\(120:Int)=jg m/\True:=λk A v=>by
   have:=IZ k A v;simp[jf,jg,DJ,h,this]
  refine⟨⟨by simp only[Df];omega,by simp only[Df];omega,λi j g hi y f=>sq.od g hi y f⟩,L 0,bad 0 (by omega),λg=>⟨⟨0,⟨by omega,by omega,h,λj f=>?_⟩,?_⟩,λx O=>⟨λb=>?_,λu=>?_⟩⟩⟩
  .have:j=0:=by omega
   subst this;exact g
  .simp only[zS,vS,qAr];rfl
  .have b:x<m.length:=by simpa using b
   obtain⟨r,X,V,G⟩:=O;have ex:nG m x=cC m x.toNat:=rfl;have es:aJ (mP (nG m x) x) (Df m)=cC m (x.toNat+1):=by
    rw[ex];show aJ (mP (cC m x.toNat) x) m.length=aJ (mP (cC m x.toNat) (x.toNat:Int)) m.length;rw[qR r]
   rw[es];simp only[zS,vS,qAr];refine⟨⟨by simp only[Df];omega,by simp only[Df];omega,λi j g hi y f=>?_⟩,L _,λv=>by simpa using bad (x.toNat+1) (by omega) v,λv=>⟨by simp only[inR,Dq];omega,x+1,⟨by omega,by omega,h,λj f=>?_⟩,⟨?_,rfl⟩,?_⟩⟩
   .rw[ex];have z:=rj m x.toNat;refine⟨z.od g hi y f,z.od g hi r b,z.od r b y f,λ_ _=>?_⟩;have b1:=lQ h x.toNat (by omega) i x g hi r b;have b2:=lQ h x.toNat (by omega) x j r b y f;have Z:=VZ (k:=x.toNat) (by omega);simp only[inR];omega
   .by_cases e:(j:Int)<=x
    .exact G j e
    .have:j=x.toNat+1:=by omega
     rw[this];exact v
   .show cC m (x.toNat+1)=cC m (x+1).toNat;rw[show(x+1).toNat=x.toNat+1 by omega]
   .simp only[Dw,Dc,Dh,Df];omega
  .have u:¬x<m.length:=by simpa using u
   obtain⟨r,X,V,G⟩:=O;have hb:rT m=false:=by
    unfold rT;rw[qBs];intro k A;have:=G k (by have:=vF.1 A;omega);simp[this]
   have e:x.toNat=m.length:=by omega
   have:DJ m=(cC m m.length,0):=by simp[DJ,h,hb]
   refine⟨?_,?_,trivial⟩
   .unfold jf;rw[this];show cC m x.toNat=_;rw[e]
   .unfold jg;rw[this]
def le(z x:Int): Prop:=cX x=false/\z<=x
theorem v8{x:Int}: cX x=false↔-549755813888<x:=by
 simp only[cX,vY];omega
theorem le_iff{z x:Int}: le z x↔-549755813888<x/\z<=x:=by unfold le;rw[v8]
theorem NV{y z x:Int}(h:y<=z)(b:le z x): le y x:=⟨b.1,by have:=b.2;omega⟩
theorem YF{x:Int}(h:cX x=false): le x x:=⟨h,by omega⟩
theorem ly{z x y:Int}: le z (iW x y)↔le z x\/le z y:=by
 simp only[le_iff,iW,cX,Bool.cond_eq_ite,qC,qE];split<;>omega
theorem HG{z x y:Int}(h:cX x=false->cX y=false->-549755813888<x+y): le z (iG x y)↔∃u v,le u x/\le v y/\z<=u+v:=by
 constructor
 .intro b;simp only[v8]at h;simp only[le_iff,iG,cX,Bool.cond_eq_ite,yE,qE]at b;split at b
  .omega
  .exact⟨x,y,le_iff.2 ⟨by omega,by omega⟩,le_iff.2 ⟨by omega,by omega⟩,b.2⟩
 .rintro⟨u,v,f,e,b⟩;have:=h f.1 e.1;simp only[le_iff]at f e;simp only[le_iff,iG,cX,Bool.cond_eq_ite,yE,qE];split<;>omega
theorem TU{g:Int->Int}{z:Int}: ∀n:Nat,le z (m5 iW g (-1099511627776) n)↔∃k:Nat,k<n/\le z (g k)
 | 0=>by simp[m5,le,cX]
 | n+1=>by
  simp only[m5,ly,TU n];constructor
  .rintro(⟨k,b,h⟩ | h)
   .exact⟨k,by omega,h⟩
   .exact⟨n,by omega,h⟩
  .rintro⟨k,b,h⟩;by_cases e:k=n
   .subst e;exact .inr h
   .exact .inl ⟨k,by omega,h⟩
structure Bd (n:Nat) (L:Int) (m:Lj):Prop where
 sq:Sq n m
 le:n<=40
 el:∀i j:Int,0<=i->i<n->0<=j->j<n->cX (at2 m i j)=false->-L<=at2 m i j/\at2 m i j<=L
theorem Bd.up {n:Nat} {L b:Int} {m:Lj} (h:Bd n L m) (u:L<=b):Bd n b m:=
 ⟨h.sq,h.le,λi j r hi g e f=>by have:=h.el i j r hi g e f;omega⟩
abbrev In(n:Nat)(i:Int): Prop:=0<=i/\i<(n:Int)
def PW(m:Lj)(p:Nat->Int): Nat->Int->Prop
 | 0,z=>z<=0
 | k+1,z=>∃u v,PW m p k u/\le v (at2 m (p k) (p (k+1)))/\z<=u+v
section
variable {m:Lj} {p q:Nat->Int}
theorem PW.down:∀{k:Nat} {y z:Int},PW m p k z->y<=z->PW m p k y
 | 0,_,_,h,b=>Int.le_trans b h
 | _+1,_,_,⟨u,v,f,e,g⟩,b=>⟨u,v,f,e,by omega⟩
theorem PW.congr:∀{k:Nat} {z:Int},(∀t,t<=k->p t=q t)->PW m p k z->PW m q k z
 | 0,_,_,h=>h
 | k+1,_,e,⟨u,v,g,f,b⟩=>⟨u,v,PW.congr (λt i=>e t (by omega)) g,by rw[<- e k (by omega),<- e (k+1) (by omega)];exact f,b⟩
theorem PW.split (a:Nat):∀(b:Nat) {z:Int},PW m p (a+b) z->∃u v,PW m p a u/\PW m (λt=>p (a+t)) b v/\z<=u+v
 | 0,z,h=>⟨z,0,h,qL _,by omega⟩
 | b+1,z,⟨u,v,i,g,x⟩=>by
  obtain⟨f,e,r,j,y⟩:=PW.split a b i;exact⟨f,e+v,r,⟨e,v,j,g,qL _⟩,by omega⟩
def glue(p q:Nat->Int)(a:Nat): Nat->Int:=λt=>if t<=a then p t else q (t-a)
theorem lE{a t:Nat}(h:t<=a): glue p q a t=p t:=if_pos h
theorem iQ{a b:Nat}(e:p a=q 0): glue p q a (a+b)=q b:=by
 unfold glue;split
 .have:b=0:=by omega
  subst this;simpa using e
 .congr 1;omega
theorem PW.join {a:Nat} {u:Int} (h:PW m p a u) (e:p a=q 0):∀(b:Nat) {v:Int},PW m q b v->PW m (glue p q a) (a+b) (u+v)
 | 0,v,f=>by
  have f:v<=0:=f;exact(h.congr (λt g=>(lE g).symm)).down (by omega)
 | b+1,v,⟨x,y,j,i,r⟩=>by
  refine⟨u+x,y,PW.join h e b j,?_,by omega⟩;show le y (at2 m (glue p q a (a+b)) (glue p q a (a+(b+1))));rw[iQ e,iQ e];exact i
def W(m:Lj)(n:Nat)(t:Int)(k:Nat)(i j z:Int): Prop:=
 ∃p:Nat->Int,p 0=i/\p k=j/\(∀s,s<=k->In n (p s))/\(∀s,0<s->s<k->p s<t)/\PW m p k z
variable {n:Nat} {t:Int}
theorem W.ins {k:Nat} {i j z:Int} (h:W m n t k i j z):In n i/\In n j:=by
 obtain⟨p,rfl,rfl,h,_⟩:=h;exact⟨h 0 (by omega),h k (by omega)⟩
theorem W.zero {i z:Int} (hi:In n i) (b:z<=0):W m n t 0 i i z:=⟨λ_=>i,rfl,rfl,λ_ _=>hi,λs f e=>by omega,b⟩
theorem W.one {i j z:Int} (hi:In n i) (b:In n j) (h:le z (at2 m i j)):W m n t 1 i j z:=
 ⟨λs=>if s=0 then i else j,rfl,rfl,λs _=>by show In n (if s=0 then i else j);split<;>assumption,λs f e=>by omega,0,z,qL _,h,by omega⟩
theorem W.down {k:Nat} {i j y z:Int} (h:W m n t k i j z) (b:y<=z):W m n t k i j y:=by
 obtain⟨p,u,r,g,f,e⟩:=h;exact⟨p,u,r,g,f,e.down b⟩
theorem W.mono {t':Int} {k:Nat} {i j z:Int} (h:W m n t k i j z) (x:t<=t'):W m n t' k i j z:=by
 obtain⟨p,v,u,r,g,f⟩:=h;exact⟨p,v,u,r,λs e b=>by have:=g s e b;omega,f⟩
theorem W.all {k:Nat} {i j z:Int} (h:W m n t k i j z):W m n n k i j z:=by
 obtain⟨p,g,f,b,v,e⟩:=h;exact⟨p,g,f,b,λs u r=>(b s (by omega)).2,e⟩
theorem W.trans {a b:Nat} {i l j u v:Int} (h:W m n t a i l u) (f:W m n t b l j v) (x:l<t):W m n t (a+b) i j (u+v):=by
 obtain⟨p,G,g,A,z,y⟩:=h;obtain⟨q,X,V,T,O,L⟩:=f;have e:p a=q 0:=by rw[g,X]
 refine⟨glue p q a,by rw[lE (by omega)];exact G,by rw[iQ e];exact V,λs hs=>?_,λs r Z=>?_,y.join e b L⟩
 .by_cases h:s<=a
  .rw[lE h];exact A s h
  .rw[show s=a+(s-a) by omega,iQ e];exact T _ (by omega)
 .by_cases h:s<a
  .rw[lE (by omega)];exact z s r h
  .by_cases f:s=a
   .subst f;rw[lE (by omega),g];exact x
   .rw[show s=a+(s-a) by omega,iQ e];exact O _ (by omega) (by omega)
theorem W.trans' {a b:Nat} {i l j u v:Int} (h:W m n n a i l u) (e:W m n n b l j v):W m n n (a+b) i j (u+v):=h.trans e h.ins.2.2
theorem VB: ∀(n:Nat) (f:Nat->Nat),(∀i,i<=n->f i<n)->∃a b,a<b/\b<=n/\f a=f b
 | 0,f,h=>by have:=h 0 (by omega);omega
 | n+1,f,h=>by
  by_cases r:∃i,i<=n/\f i=f (n+1)
  .obtain⟨i,hi,e⟩:=r;exact⟨i,n+1,by omega,by omega,e⟩
  .have g:∀i,i<=n->f i≠f (n+1):=λi hi e=>r ⟨i,hi,e⟩
   have x:=h (n+1) (by omega);obtain⟨a,b,u,v,j⟩:=VB n (λi=>if f i=n then f (n+1)else f i) (λi hi=>by
    have u:=h i (by omega);have v:=g i hi;show(if f i=n then f (n+1)else f i)<n;split<;>omega)
   have y:=g a (by omega);have hb:=g b (by omega);refine⟨a,b,u,by omega,?_⟩;have j:(if f a=n then f (n+1)else f a)=(if f b=n then f (n+1)else f b):=j;split at j<;>split at j<;>omega
theorem W.short:∀(k:Nat) {i j z:Int},W m n t k i j z->∃k' g,k'<n/\W m n t k' i j g/\((∀k x u,W m n t k x x u->u<=0)->z<=g)
 | k,i,j,z,h=>by
  by_cases hk:k<n
  .exact⟨k,z,hk,h,λ_=>qL _⟩
  .obtain⟨p,h1,h2,f,G,h5⟩:=h;obtain⟨a,b,hab,hbn,e⟩:=VB n (λs=>(p s).toNat) (λs T=>by have:=f s (by omega);omega);have e:(p a).toNat=(p b).toNat:=e;have e:p a=p b:=by have:=f a (by omega);have:=f b (by omega);omega
   have A:PW m p (a+(k-a)) z:=by rw[show a+(k-a)=k by omega];exact h5
   obtain⟨u1,w,q1,q2,q3⟩:=PW.split a (k-a) A;have y:PW m (λt=>p (a+t)) ((b-a)+(k-b)) w:=by rw[show(b-a)+(k-b)=k-a by omega];exact q2
   obtain⟨u2,L,r1,v,r3⟩:=PW.split (b-a) (k-b) y;have v:PW m (λt=>p (b+t)) (k-b) L:=v.congr (λt _=>by show p (a+(b-a+t))=p (b+t);congr 1;omega);have closed:W m n t (b-a) (p a) (p a) u2:=
    ⟨λt=>p (a+t),rfl,by show p (a+(b-a))=p a;rw[show a+(b-a)=b by omega,e],λs T=>f _ (by omega),λs O s2=>G _ (by omega) (by omega),r1⟩
   have r:p a=(λt=>p (b+t)) 0:=by show p a=p (b+0);rw[xA];exact e
   have hw:W m n t (a+(k-b)) i j (u1+L):=by
    refine⟨glue p (λt=>p (b+t)) a,by rw[lE (by omega)];exact h1,?_,λs T=>?_,λs O s2=>?_,q1.join r _ v⟩
    .rw[iQ r];show p (b+(k-b))=j;rw[show b+(k-b)=k by omega];exact h2
    .by_cases h:s<=a
     .rw[lE h];exact f s (by omega)
     .rw[show s=a+(s-a) by omega,iQ r];exact f _ (by omega)
    .by_cases h:s<=a
     .rw[lE h];exact G s O (by omega)
     .rw[show s=a+(s-a) by omega,iQ r];exact G _ (by omega) (by omega)
   obtain⟨k',g,w1,Z,X⟩:=W.short (a+(k-b)) hw;refine⟨k',g,w1,Z,λV=>?_⟩;have:=X V;have:=V _ _ _ closed;omega
termination_by k=>k
decreasing_by omega
theorem HV(P:Nat->Prop): ∀k:Nat,P k->∃a,a<=k/\P a/\∀b,b<a->¬P b
 | k,h=>by
  by_cases f:∃b,b<k/\P b
  .obtain⟨b,hb,e⟩:=f;obtain⟨a,j,i,g⟩:=HV P b e;exact⟨a,by omega,i,g⟩
  .exact⟨k,by omega,h,λb hb e=>f ⟨b,hb,e⟩⟩
termination_by k=>k
decreasing_by omega
theorem W.cut {k:Nat} {i j z:Int} (h:W m n (t+1) k i j z):W m n t k i j z\/∃a b u v,b<k/\W m n t a i t u/\W m n (t+1) b t j v/\z<=u+v:=by
 obtain⟨p,O,L,y,x,G⟩:=h;by_cases A:∃s,0<s/\s<k/\p s=t
 .obtain⟨s,s0,g,f⟩:=A;obtain⟨a,a1,⟨a2,T⟩,a4⟩:=HV (λs=>0<s/\p s=t) s ⟨s0,f⟩;have r:PW m p (a+(k-a)) z:=by rw[show a+(k-a)=k by omega];exact G
  obtain⟨u,v,Z,X,V⟩:=PW.split a (k-a) r;refine .inr ⟨a,k-a,u,v,by omega,⟨p,O,T,λs hs=>y s (by omega),λs g f=>?_,Z⟩,⟨λs=>p (a+s),T,?_,λs hs=>y _ (by omega),λs g f=>x _ (by omega) (by omega),X⟩,V⟩
  .have:=x s g (by omega);have:=a4 s f;have:p s≠t:=λe=>this ⟨g,e⟩
   omega
  .show p (a+(k-a))=j;rw[show a+(k-a)=k by omega];exact L
 .refine .inl ⟨p,O,L,y,λs g f=>?_,G⟩;have:=x s g f;have:p s≠t:=λe=>A ⟨s,g,f,e⟩
  omega
theorem PW.low {L:Int} (hm:Bd n L m):∀{k:Nat} {z:Int},(∀s,s<=k->In n (p s))->PW m p k z->PW m p k (-((k:Int)*L))
 | 0,_,_,_=>by show -(((0:Nat):Int)*L)<=0;simp
 | k+1,_,e,⟨u,v,g,f,i⟩=>by
  have a:=e k (by omega);have b:=e (k+1) (by omega);have:=hm.el _ _ a.1 a.2 b.1 b.2 f.1;refine⟨-((k:Int)*L),-L,PW.low hm (λs h=>e s (by omega)) g,⟨f.1,by omega⟩,?_⟩;have:((k+1:Nat):Int)*L=(k:Int)*L+L:=by
   rw[Int.natCast_add,Int.add_mul];simp
  omega
theorem W.low {L:Int} (hm:Bd n L m) {k:Nat} {i j z:Int} (h:W m n t k i j z):W m n t k i j (-((k:Int)*L)):=by
 obtain⟨p,r,g,b,f,e⟩:=h;exact⟨p,r,g,b,f,e.low hm b⟩
theorem PW.high {L:Int} (hm:Bd n L m):∀{k:Nat} {z:Int},(∀s,s<=k->In n (p s))->PW m p k z->z<=(k:Int)*L
 | 0,z,_,h=>by have h:z<=0:=h;simpa using h
 | k+1,z,e,⟨u,v,g,f,j⟩=>by
  have a:=e k (by omega);have b:=e (k+1) (by omega);have:=hm.el _ _ a.1 a.2 b.1 b.2 f.1;have:=PW.high hm (λs i=>e s (by omega)) g;have:=f.2;have:((k+1:Nat):Int)*L=(k:Int)*L+L:=by
   rw[Int.natCast_add,Int.add_mul];simp
  omega
theorem W.high {L:Int} (hm:Bd n L m) {k:Nat} {i j z:Int} (h:W m n t k i j z):z<=(k:Int)*L:=by
 obtain⟨p,r,g,e,f,b⟩:=h;exact b.high hm e
theorem An(e:m.length=n){i j:Int}(hi:In n i)(b:In n j): at2 (cC m 0) i j=mq m i j:=by
 show at2 (aJ (mq m) m.length) i j=_;rw[e];exact jD _ _ _ _ hi.1 hi.2 b.1 b.2
theorem GR(e:m.length=n)(t:Nat){i j:Int}(hi:In n i)(b:In n j): at2 (cC m (t+1)) i j=mP (cC m t) t i j:=by
 show at2 (aJ (mP (cC m t) t) m.length) i j=_;rw[e];exact jD _ _ _ _ hi.1 hi.2 b.1 b.2
structure Fw (m:Lj) (n:Nat) (B:Int) (t:Nat):Prop where
 s:∀i j z,In n i->In n j->le z (at2 (cC m t) i j)->∃k,W m n t k i j z
 c:∀k i j z,W m n t k i j z->le z (at2 (cC m t) i j)
 lb:∀i j,In n i->In n j->cX (at2 (cC m t) i j)=false->-B<=at2 (cC m t) i j
theorem aBL{L:Int}(hm:Bd n L m)(f:0<=L)(t:Nat)(s:∀i j z,In n i->In n j->le z (at2 (cC m t) i j)->∃k,W m n t k i j z)
  (c:∀k i j z,W m n t k i j z->le z (at2 (cC m t) i j)):Fw m n (n*L) t:=
 ⟨s,c,λi j hi b e=>by
  obtain⟨k,hw⟩:=s i j _ hi b (YF e);obtain⟨k',h,u,g,_⟩:=hw.short;have:=(c _ _ _ _ (g.low hm)).2;have r:(k':Int)*L<=n*L:=qAk (by omega) f;omega⟩
theorem fw0{L:Int}(hm:Bd n L m)(T:0<=L): Fw m n (n*L) 0:=by
 refine aBL hm T 0 (λi j z hi f h=>?_) (λk i j z h=>?_)
 .rw[An hm.sq.len hi f]at h;unfold mq at h;by_cases e:i=j
  .subst e;simp only[qAm,qAv,ly]at h;rcases h with h | h
   .exact⟨0,W.zero hi h.2⟩
   .exact⟨1,W.one hi f h⟩
  .simp only[e,kK,qAx,ly]at h;rcases h with h | h
   .simp[le,cX]at h
   .exact⟨1,W.one hi f h⟩
 .obtain⟨hi,f⟩:=h.ins;rw[An hm.sq.len hi f];obtain⟨p,y,g,x,r,b⟩:=h;unfold mq
  match k,g,x,r,b with
  | 0,g,_,_,b=>
   have e:i=j:=by rw[<- y,<- g]
   have b:z<=0:=b;simp only[e,qAm,qAv,ly];exact .inl ⟨by decide,b⟩
  | 1,g,_,_,b=>
   obtain⟨u,v,O,G,V⟩:=b;have O:u<=0:=O;simp only[zA,y,g]at G;have A:le z (at2 m i j):=NV (by omega) G;cases decide (i=j)
   .simp only[qAx,ly];exact .inr A
   .simp only[qAv,ly];exact .inr A
  | k+2,_,x,r,_=>
   have:=r 1 (by omega) (by omega);have:=(x 1 (by omega)).1;simp only[Int.natCast_zero]at *;omega
theorem YS{L:Int}(hm:Bd n L m)(X:0<=L)(hB:n*L<=100000000000){t:Nat}(ht:t<n)(h:Fw m n (n*L) t)(hd:at2 (cC m t) t t<=0\/cX (at2 (cC m t) t t)=true): Fw m n (n*L) (t+1):=by
 have hit:In n t:=⟨by omega,by omega⟩;have no:∀{i j:Int},In n i->In n j->cX (at2 (cC m t) i t)=false->cX (at2 (cC m t) t j)=false->-549755813888<at2 (cC m t) i t+at2 (cC m t) t j:=λhi f e1 e2=>by
  have:=h.lb _ _ hi hit e1;have:=h.lb _ _ hit f e2;omega
 have ret:∀(k:Nat) (j z:Int),W m n ((t:Int)+1) k t j z->le z (at2 (cC m t) t j):=by
  intro k;induction k using Nat.strongRecOn with
  | ind k O=>
   intro j z hw;rcases hw.cut with hw | ⟨a,b,u,v,hb,r,g,e⟩
   .exact h.c _ _ _ _ hw
   .have G:=h.c _ _ _ _ r;have Z:=O b hb j v g;have:u<=0:=by
     rcases hd with hd | hd
     .have:=G.2;omega
     .rw[G.1]at hd;cases hd
    exact NV (by omega) Z
 refine aBL hm X (t+1) (λi j z hi f e=>?_) (λk i j z hw=>?_)
 .rw[GR hm.sq.len t hi f]at e;unfold mP at e;rw[ly]at e;rcases e with e | e
  .obtain⟨k,A⟩:=h.s _ _ _ hi f e;exact⟨k,A.mono (by omega)⟩
  .obtain⟨u,v,V,T,e⟩:=(HG (no hi f)).1 e;obtain⟨k,A⟩:=h.s _ _ _ hi hit V;obtain⟨k',y⟩:=h.s _ _ _ hit f T;exact⟨k+k',((A.mono (t':=((t+1:Nat):Int)) (by omega)).trans (y.mono (by omega)) (by omega)).down e⟩
 .obtain⟨hi,f⟩:=hw.ins;rw[GR hm.sq.len t hi f];unfold mP;rw[ly];have x:W m n ((t:Int)+1) k i j z:=by simpa using hw
  rcases x.cut with hw | ⟨a,b,u,v,_,r,g,e⟩
  .exact .inl (h.c _ _ _ _ hw)
  .exact .inr ((HG (no hi f)).2 ⟨u,v,h.c _ _ _ _ r,ret _ _ _ g,e⟩)
def U5(m:Lj)(n:Nat): Prop:=∀k x u,W m n n k x x u->u<=0
theorem JJ{s:Lj}(b:s.length=n): fK s=false↔∀i,In n i->at2 s i i<=0:=by
 unfold fK;rw[qh,b];constructor
 .intro h i hi;have:=h i hi.1 hi.2;simp only[diag,vY]at this;omega
 .intro h k f e;have:=h k ⟨f,e⟩;simp only[diag,vY];omega
theorem aBM{L:Int}(hm:Bd n L m)(b:0<=L)(e:n*L<=100000000000): ∀t,t<=n->(∀s,s<t->fK (cC m s)=false)->Fw m n (n*L) t
 | 0,_,_=>fw0 hm b
 | t+1,g,h=>by
  refine YS hm b e (by omega) (aBM hm b e t (by omega) (λs i=>h s (by omega))) (.inl ?_);have f:(cC m t).length=n:=by rw[(rj m t).len,hm.sq.len]
  exact(JJ f).1 (h t (by omega)) t ⟨by omega,by omega⟩
theorem U5.short (h:U5 m n) {k:Nat} {i j z:Int} (hw:W m n n k i j z):∃k',k'<n/\W m n n k' i j z:=by
 obtain⟨k',g,f,e,b⟩:=hw.short;exact⟨k',f,e.down (b h)⟩
end
end Go.Eng.Mp
namespace Go.Eng.Sv
open Go.Proofs
def ZL(a b:Int)(xs:Li): Prop:=0<=a/\a<12/\0<=b/\b<12/\xs.length=144
def iI(xs:Li)(a b len:Int): Li:=dR xs a b len
def fS(k:Int): Li:=(List.range 144).map λi=>if i<k.toNat then(if i/12=i%12 then 0 else -1)else 0
def ie(ls:Ll)(k:Int): Li:=(ls.take k.toNat).foldl (λxs l=>dR xs (bj l) (lTo l) (aW l)) Ff
def fwD(ls:Ll)(o a b:Int): Li:=fwN ls (o*144+a*12+b).toNat
def bC(ls:Ll): Li:=x4 ls
def noP(n:Net): Prop:=noF n=true
def vj(m:Nat)(ls:Ll)(b:Nat): Bool:=(List.range m).any λa=>decide (cell (x4 ls) a b=-1)
def bB(m:Int)(ls:Ll)(k:Int): List (Int×Int×Int):=(List.range k.toNat).filterMap λb:Nat=>if vj m.toNat ls b then some (3,(b:Int),111)else none
def fa(n:Net): List (Int×Int×Int):=if noF n then bB n.2.2.2.1.length n.2.2.2.2.1 n.2.2.2.1.length else ew n
def sZ(m:Int)(ls:Ll)(b k:Int): Prop:=0<=k/\k<=m/\(List.range k.toNat).all (λa=>decide (cell (x4 ls) a b.toNat≠-1))=true
def bg(n:Net): Bool:=(fa n).isEmpty
abbrev cx: List (Int×List Bool×Li):=[(0,[true,true,true,true,true,false,false],[])]
abbrev nx: List ByteArray:=[⟨#[99]⟩]
abbrev ox: List ByteArray:=[⟨#[112]⟩,⟨#[113]⟩]
theorem Qz(a b len:Int)(xs:Li)(g:
 let c9:=Em 0 12 a;let f:=Dx 12;let c1:=iI xs a b len;let c2:=Em c9 1 b;let c3:=Du xs c2 0;let c4:=Eb c3 (-1);let c5:=Di c4;let e:=c5->Dk xs=144;let c7:=c5->c5->c5;let c6:=Ea c4 true (Dp len c3);true/\(ZL a b xs->Dk xs<=Dk c1/\Dk xs=144/\0<=a/\a<Dx 12/\Em 0 12 f<=144/\Dk xs=144/\0<=b/\b<Dx 12/\Em c9 1 f<=144/\Dk xs=144/\c7/\e/\(c5->0<=a)/\(c5->a<Dx 12)/\(c5->Em 0 12 f<=144)/\c7/\c7/\e/\(c5->0<=b)/\(c5->b<Dx 12)/\(c5->Em c9 1 f<=144)/\c7/\e/\c7/\c7/\(Dj true c5->c5)/\(c6->Dk xs=144/\0<=a/\a<Dx 12/\Em 0 12 f<=144/\Dk xs=144/\0<=b/\b<Dx 12/\Em c9 1 f<=144/\Dk xs=144/\En xs c2 len=c1/\Dk xs=Dk xs/\True)/\(c6=false->xs=c1/\Dk xs=Dk xs/\True))):
  evF (mkc K12) az 203 [.dat I a,.dat I b,.dat I len,.ptr 1 144 0 0] [(1,.buf 174 I xs [])] ⟨ZL a b xs,.tup [],[(1,.buf 174 I (iI xs a b len) [])]⟩:=oE g
def NZ(args:List AV)(m:Mem): Option ja:=match args,m with
 | [.dat (.int .i64) a,.dat (.int .i64) b,.dat (.int .i64) len,.ptr 1 g 0 0],[(1,.buf el (.int .i64) xs [])]=>if g=144/\el=174 then some ⟨ZL a b xs,.tup [],[(1,.buf 174 I (iI xs a b len) [])]⟩else none
 | _,_=>none
def K13: Kt:=kOr 203 NZ K12
def S0(ls:Ll): Ann:=⟨λid s=>match id with
 | 3=>some {α:=Int,inv:=λk=>upN k 12,st:=λk=>gC (put s [(12,.dat I k)]) 1 (.buf 174 I (fS (Ee 12 k)) []),μ:=λk=>Dc (Dh 12 k)}
 | 6=>match s.sig.T 12 with
  | .dat (.int .i64) a=>some {α:=Int,inv:=λk=>upN k 12,st:=λk=>gC (put s [(15,.dat I k)]) 1 (.buf 174 I (fS (Dq (Ee 12 a) k)) []),μ:=λk=>Dc (Dh 12 k)}
  | _=>none
 | 14=>some {α:=Int,inv:=λk=>upN k (Df ls),st:=λk=>gC (put s [(31,.dat I k)]) 1 (.buf 174 I (ie ls k) []),μ:=λk=>Dc (Dh (Df ls) k)}
 | 19=>some {α:=Int,inv:=λk=>upN k 12,st:=λk=>gC (put s [(44,.dat I k)]) 1 (.buf 174 I (fwD ls k 0 0) []),μ:=λk=>Dc (Dh 12 k)}
 | 22=>match s.sig.T 44 with
  | .dat (.int .i64) o=>some {α:=Int,inv:=λk=>upN k 12,st:=λk=>gC (put s [(47,.dat I k)]) 1 (.buf 174 I (fwD ls o k 0) []),μ:=λk=>Dc (Dh 12 k)}
  | _=>none
 | 25=>match s.sig.T 44,s.sig.T 47 with
  | .dat (.int .i64) o,.dat (.int .i64) a=>some {α:=Int,inv:=λk=>upN k 12,st:=λk=>gC (put s [(50,.dat I k)]) 1 (.buf 174 I (fwD ls o a k) []),μ:=λk=>Dc (Dh 12 k)}
  | _,_=>none
 | _=>none,λ_ _=>none,λ_ _=>none⟩
theorem Iw(cs:LC)(ns os:LB)(fs:Lo)(ls:Ll)(ks:Lk)(hvc:
 let c4:=Dx 12;let c1:=(cs,ns,os,fs,ls,ks);let c2:=Fz 144 0;let c3:=Df ls;true/\(noP c1->(∃x,upN x 12/\c1=c1/\144=144/\0=0/\0=0/\144=144/\0=0/\0=0/\0=x/\c2=c2/\c2=fS (12*x)/\True)/\∀(x:Int),let c5:=Dp x 12;let c6:=12*x;let c7:=fS c6;let c8:=x+1;upN x 12->(c5->(∃e,upN e 12/\c1=c1/\144=144/\0=0/\0=0/\144=144/\0=0/\0=0/\x=x/\x=x/\0=e/\c2=c2/\c7=fS (c6+e)/\True)/\∀(e:Int),let c9:=Dp e 12;let v:=e+1;upN e 12->(c9->(Ec x e->Dk (fS (c6+e))=144/\0<=x/\x<Dx 12/\Em 0 12 c4<=144/\Dk (fS (c6+e))=144/\0<=e/\e<Dx 12/\Em (Em 0 12 x) 1 c4<=144/\Dk (fS (c6+e))=144/\inR .i64 v/\∃y,upN y 12/\(c1=c1/\144=144/\0=0/\0=0/\144=144/\0=0/\0=0/\x=x/\x=x/\v=y/\c2=c2/\En (fS (c6+e)) (Em (Em 0 12 x) 1 e) (-1)=fS (c6+y)/\True)/\Dc (12-y)<Dc (12-e))/\(Ec x e=false->inR .i64 v/\∃y,upN y 12/\(c1=c1/\144=144/\0=0/\0=0/\144=144/\0=0/\0=0/\x=x/\x=x/\v=y/\c2=c2/\fS (c6+e)=fS (c6+y)/\True)/\Dc (12-y)<Dc (12-e)))/\(c9=false->inR .i64 c8/\∃y,upN y 12/\(c1=c1/\144=144/\0=0/\0=0/\144=144/\0=0/\0=0/\c8=y/\c2=c2/\fS (c6+e)=fS (12*y)/\True)/\Dc (12-y)<Dc (12-x)))/\(c5=false->(∃x,upN x c3/\144=144/\0=0/\0=0/\144=144/\0=0/\0=0/\144=144/\0=0/\0=0/\ls=ls/\c3=c3/\0=x/\c2=c2/\c7=ie ls x/\True)/\∀(x:Int),let r:=(Du ls (Dc x) (ByteArray.mk #[],(0:Int),(0:Int),(0:Int),(0:Int),(0:Int))).2;let c15:=iI (ie ls x) r.1 r.2.1 r.2.2.2.1;let c16:=x+1;
 upN x c3->(Dp x c3->0<=x/\x<c3/\1=1/\0=0/\1=1/\1=1/\0=0/\1=1/\1=1/\0=0/\1=1/\1=1/\0=0/\ZL r.1 r.2.1 (ie ls x)/\Dk (ie ls x)<=Dk c15/\inR .i64 c16/\∃y,upN y c3/\(144=144/\0=0/\0=0/\144=144/\0=0/\0=0/\144=144/\0=0/\0=0/\ls=ls/\c3=c3/\c16=y/\c2=c2/\c15=ie ls y/\True)/\Dc (c3-y)<Dc (c3-x))/\(Dp x c3=false->(∃z,upN z 12/\144=144/\0=0/\0=0/\144=144/\0=0/\0=0/\144=144/\0=0/\0=0/\0=z/\c2=c2/\ie ls x=fwD ls z 0 0/\True)/\∀(x:Int),let c17:=Dp x 12;let j:=fwD ls x 0 0;let c19:=x+1;upN x 12->(c17->(∃b,upN b 12/\144=144/\0=0/\0=0/\144=144/\0=0/\0=0/\144=144/\0=0/\0=0/\x=x/\x=x/\0=b/\c2=c2/\j=fwD ls x b 0/\True)/\∀(b:Int),let c20:=Dp b 12;let Z:=fwD ls x b 0;let X:=b+1;upN b 12->(c20->(∃f,upN f 12/\144=144/\0=0/\0=0/\144=144/\0=0/\0=0/\144=144/\0=0/\0=0/\x=x/\b=b/\x=x/\b=b/\0=f/\c2=c2/\Z=fwD ls x b f/\True)/\∀(f:Int),let V:=Dp f 12;let i:=fwD ls x b f;let h:=Dk i;let T:=Du i (Em (Em 0 12 b) 1 x) 0;let g:=Ec T (-1);let c13:=g->h=144;let c12:=g->g->g;let O:=Du i (Em (Em 0 12 x) 1 f) 0;let L:=Ea g (Ec O (-1)) false;let G:=T+O;let A:=iI i b f G;let u:=f+1;
 upN f 12->(V->h=144/\0<=b/\b<Dx 12/\Em 0 12 c4<=144/\h=144/\0<=x/\x<Dx 12/\Em (Em 0 12 b) 1 c4<=144/\h=144/\c12/\c13/\(g->0<=x)/\(g->x<Dx 12)/\(g->Em 0 12 c4<=144)/\c12/\c12/\c13/\(g->0<=f)/\(g->f<Dx 12)/\(g->Em (Em 0 12 x) 1 c4<=144)/\c12/\c13/\c12/\(Dj true g->g)/\(L->h=144/\0<=b/\b<Dx 12/\Em 0 12 c4<=144/\h=144/\0<=x/\x<Dx 12/\Em (Em 0 12 b) 1 c4<=144/\h=144/\h=144/\0<=x/\x<Dx 12/\Em 0 12 c4<=144/\h=144/\0<=f/\f<Dx 12/\Em (Em 0 12 x) 1 c4<=144/\h=144/\inR .i64 G/\ZL b f i/\h<=Dk A/\inR .i64 u/\∃y,upN y 12/\(144=144/\0=0/\0=0/\144=144/\0=0/\0=0/\144=144/\0=0/\0=0/\x=x/\b=b/\x=x/\b=b/\u=y/\c2=c2/\A=fwD ls x b y/\True)/\Dc (12-y)<Dc (12-f))/\(L=false->inR .i64 u/\∃y,upN y 12/\(144=144/\0=0/\0=0/\144=144/\0=0/\0=0/\144=144/\0=0/\0=0/\x=x/\b=b/\x=x/\b=b/\u=y/\c2=c2/\i=fwD ls x b y/\True)/\Dc (12-y)<Dc (12-f)))/\(V=false->inR IntKind.i64 X/\∃y,upN y 12/\(144=144/\0=0/\0=0/\144=144/\0=0/\0=0/\144=144/\0=0/\0=0/\x=x/\x=x/\X=y/\c2=c2/\i=fwD ls x y 0/\True)/\Dc (12-y)<Dc (12-b)))/\(c20=false->inR .i64 c19/\∃y,upN y 12/\(144=144/\0=0/\0=0/\144=144/\0=0/\0=0/\144=144/\0=0/\0=0/\c19=y/\c2=c2/\Z=fwD ls y 0 0/\True)/\Dc (12-y)<Dc (12-x)))/\(c17=false->Dk j=144/\0=0/\Dk j=144/\Dk c2=144/\0=0/\Dk c2=144/\Dk j=144/\Dk j=144/\0=0/\Dk j=144/\j=bC ls/\True))))):
  evF (mkc K13) (lvA [(3,[1,2,3,4,5,6,8,9,10,11,12,15,29,30,31,44,47,50]),(6,[1,2,3,4,5,6,8,9,10,11,12,15,29,30,31,44,47,50]),(14,[2,3,6,8,9,10,11,29,30,31,44,47,50]),(19,[2,3,6,9,10,11,44,47,50]),(22,[2,3,6,9,10,11,44,47,50]),(25,[2,3,6,9,10,11,44,47,50])] (S0 ls)) 130 [net cs ns os fs ls ks] [] ⟨noP (cs,ns,os,fs,ls,ks),.av I (bC ls),[]⟩:=oE hvc
def K14: Kt:=kOr 130 (aw [.row N] (λ(n,_)=>noP n) λ(n,_)=>.av I (bC n.2.2.2.2.1)) K13
def Zf(fs:Lo)(ls:Ll): Ann:=⟨λid s=>match id with
 | 6=>some {α:=Int,inv:=λk=>upN k (Df fs),st:=λk=>gC (put s [(18,.dat I k),(3,.buf 0 (Dk (bB (Df fs) ls k)))]) 0 (.buf 177 Fa (bB (Df fs) ls k) []),μ:=λk=>Dc (Dh (Df fs) k)}
 | 9=>match s.sig.T 18 with
  | .dat (.int .i64) b=>some {α:=Int,inv:=λk=>sZ (Df fs) ls b k,st:=λk=>put s [(24,.dat I k),(3,.buf 0 (Dk (bB (Df fs) ls b)))],μ:=λk=>Dc (Dh (Df fs) k)}
  | _=>none
 | _=>none,λ_ _=>none,λ_ _=>none⟩
theorem Q6(cs:LC)(ns os:LB)(f:Lo)(ls:Ll)(h:Lk)(i:
 let c1:=(cs,ns,os,f,ls,h);let c2:=ew c1;let c3:=Dk c2;let c4:=Eh (Int.ofNat c3) 0;let c5:=fa c1;let c6:=Df f;true/\(True->True/\c3=c3/\(c4->c3=c3/\c2=c5/\True)/\(c4=false->noP c1/\Dk (Fz 144 0)=144/\0=0/\Dk (Fz 144 0)=144/\Dk (bC ls)=144/\(∃x,upN x c6/\c1=c1/\Value.slice none 0 0=Value.slice none 0 0/\c3=Dk (bB c6 ls x)/\144=144/\0=0/\0=0/\c6=c6/\0=x/\c2=bB c6 ls x/\bC ls=bC ls/\True)/\∀(x:Int),let c7:=Dk (bB c6 ls x);let j:=[((3:Int),x,(111:Int))];let c9:=c7+Dk j;let e:=x+1;upN x c6->(Dp x c6->(∃b,sZ c6 ls x b/\c1=c1/\Value.slice none 0 0=Value.slice none 0 0/\c7=c7/\144=144/\0=0/\0=0/\x=x/\c6=c6/\x=x/\c6=c6/\0=b/\bB c6 ls x=bB c6 ls x/\bC ls=bC ls/\True)/\∀(b:Int),let g:=Eb (Du (bC ls) (Em (Em 0 12 b) 1 x) 0) (-1);let c12:=b+1;
 sZ c6 ls x b->(Dp b c6->Dk (bC ls)=144/\0<=b/\b<Dx 12/\Em 0 12 (Dx 12)<=144/\Dk (bC ls)=144/\0<=x/\x<Dx 12/\Em (Em 0 12 b) 1 (Dx 12)<=144/\Dk (bC ls)=144/\(g->c7=c7/\(c9*24)<=140737488355328/\c9<=9223372036854775807/\inR .i64 e/\∃y,upN y c6/\(c1=c1/\Value.slice none 0 0=Value.slice none 0 0/\c9=Dk (bB c6 ls y)/\144=144/\0=0/\0=0/\c6=c6/\e=y/\Ef (bB c6 ls x) j=bB c6 ls y/\bC ls=bC ls/\True)/\Dc (c6-y)<Dc (c6-x))/\(g=false->inR IntKind.i64 c12/\∃y,sZ c6 ls x y/\(c1=c1/\Value.slice none 0 0=Value.slice none 0 0/\c7=c7/\144=144/\0=0/\0=0/\x=x/\c6=c6/\x=x/\c6=c6/\c12=y/\bB c6 ls x=bB c6 ls x/\bC ls=bC ls/\True)/\Dc (c6-y)<Dc (c6-b)))/\(Dp b c6=false->inR .i64 e/\∃y,upN y c6/\(c1=c1/\Value.slice none 0 0=Value.slice none 0 0/\c7=Dk (bB c6 ls y)/\144=144/\0=0/\0=0/\c6=c6/\e=y/\bB c6 ls x=bB c6 ls y/\bC ls=bC ls/\True)/\Dc (c6-y)<Dc (c6-x)))/\(Dp x c6=false->c7=c7/\bB c6 ls x=c5/\True)))):
  evF (mkc K14) (lvA [(6,[1,2,3,4,5,6,17,18,23,24]),(9,[1,2,3,4,5,6,17,18,23,24])] (Zf f ls)) 64 [net cs ns os f ls h] [] ⟨True,.dat (.sl Fa) (fa (cs,ns,os,f,ls,h)),[]⟩:=oE i
def K15: Kt:=kOr 64 (aw [.row N] (λ_=>True) λ(n,_)=>.dat (.sl Fa) (fa n)) K14
def K16: Kt:=K15
theorem sV{n:Net}: noF n=true↔ew n=[]:=by unfold noF;rw[wW]
theorem tj{kind b:Int}{l:List ByteArray}{g:List Bool}(v:0<=b)(h:bz kind b l g=[]): (l.length:Int)<=b/\∀i:Int,0<=i->i<l.length->HZ l g i=0:=by
 unfold bz at h;obtain⟨f,e⟩:=qBx.1 h;have r:(l.length:Int)<=b:=by
  unfold Jh at e;split at e
  .cases e
  .omega
 refine⟨r,λi j u=>?_⟩;unfold aQ at f;rw[qCv]at f;have:=f i.toNat (vF.2 (by omega));rw[qR j]at this;split at this
 .assumption
 .cases this
theorem oh{l:List ByteArray}{g:List Bool}{i:Int}(h:HZ l g i=0): bA l i=0/\rule2 l i=0/\bK g i=0:=by
 unfold HZ at h;by_cases e:bA l i=0
 .rw[if_neg (by simp[e])]at h;by_cases b:rule2 l i=0
  .rw[if_neg (by simp[b])]at h;exact⟨e,b,h⟩
  .rw[if_pos b]at h;exact(b h).elim
 .rw[if_pos e]at h;exact(e h).elim
theorem vb{g:List Bool}{i:Int}(h:bK g i=0): g.getD i.toNat false=true:=by
 unfold bK at h;cases b:g.getD i.toNat false with
 | true=>rfl
 | false=>rw[b]at h;cases h
theorem iL(cs:LC)(ns os:LB)(e:Lo)(ls:Ll)(b:Lk)(h:noF (cs,ns,os,e,ls,b)=true): ns.length=cs.length/\bz 1 6 (aA cs ns) (bh cs)=[]/\bz 2 6 os (bP os)=[]/\bz 3 12 (aC e) (cI (cs,ns,os,e,ls,b))=[]/\bz 4 40 (aD ls) (cy (cs,ns,os,e,ls,b))=[]/\bz 5 4 (aE b) (bn b)=[]:=by
 have:=sV.1 h;rw[wh]at this;simp only[qBx]at this;obtain⟨f,u,r,j,i,g⟩:=this;refine⟨?_,u,r,j,i,g⟩;unfold FC at f;split at f
 .assumption
 .cases f
theorem iP{n:Net}{l:Line}(h:cT n l=true): 0<=bj l/\bj l<n.2.2.2.1.length/\0<=lTo l/\lTo l<n.2.2.2.1.length/\bj l≠lTo l/\(0<=lAt l/\lAt l<=1439)/\1<=aW l/\aW l<=5000:=by
 unfold cT dF dI at h;simp only[qC,qE]at h;obtain⟨⟨⟨⟨⟨f,e⟩,i⟩,g⟩,b⟩,j⟩:=h;exact⟨f.1,f.2,e.1,e.2,i,g,b.1,b.2⟩
theorem nT(cs:LC)(ns os:LB)(b:Lo)(ls:Ll)(e:Lk)(h:noF (cs,ns,os,b,ls,e)=true): ct b.length ls/\ls.length<=40:=by
 obtain⟨_,_,_,r,j,_⟩:=iL cs ns os b ls e h;obtain⟨V,X⟩:=tj (by decide) r;obtain⟨T,L⟩:=tj (by decide) j;have O:(aC b).length=b.length:=map_length _ b;have n4:(aD ls).length=ls.length:=map_length _ ls;refine⟨⟨by omega,λl g=>?_⟩,by omega⟩;obtain⟨i,hi⟩:=xZ.1 g;have f:i<ls.length:=(qG.1 hi).1;have:=vb (oh (L i (by omega) (by omega))).2.2
 rw[show(cy (cs,ns,os,b,ls,e))=ls.map (cT (cs,ns,os,b,ls,e))from rfl,lZ (cT (cs,ns,os,b,ls,e)) ls (i:Int).toNat l false (by omega),qA,show(i:Int).toNat=i by omega,hi]at this;obtain⟨G,A,z,y,x,_,v,u⟩:=iP this;exact⟨G,A,z,y,x,v,u⟩
theorem jM(xs:Li)(a b len:Int): (iI xs a b len).length=xs.length:=gu xs a b len
theorem Jb{xs:Li}{a b len:Int}(h:xs.getD (a.toNat*12+b.toNat) 0=-1\/len<xs.getD (a.toNat*12+b.toNat) 0): xs.set (a.toNat*12+b.toNat) len=iI xs a b len:=by
 unfold iI dR cell;rw[show(decide (xs.getD (a.toNat*12+b.toNat) 0=-1)||decide (len<xs.getD (a.toNat*12+b.toNat) 0))=true by simpa using h];rfl
theorem Jc{xs:Li}{a b len:Int}(f:xs.getD (a.toNat*12+b.toNat) 0≠-1)(e:¬len<xs.getD (a.toNat*12+b.toNat) 0): xs=iI xs a b len:=by
 unfold iI dR cell;rw[show(decide (xs.getD (a.toNat*12+b.toNat) 0=-1)||decide (len<xs.getD (a.toNat*12+b.toNat) 0))=false by rw[qBe];exact⟨vV f,vV e⟩];rfl
theorem Xt(a b len:Int)(xs:Li): af Tryz.prog G0 203 [.dat I a,.dat I b,.dat I len,.ptr 1 144 0 0] [(1,.buf 174 I xs [])] ⟨ZL a b xs,.tup [],[(1,.buf 174 I (iI xs a b len) [])]⟩:=by
 refine ae (c:=mkc K12) aFF aK hm (Qz a b len xs ⟨rfl,λ⟨a0,u,r,j,i⟩=>?_⟩);have e:=jM xs a b len;simp only[qc,Dj,Es,Di,qd,Dt,Eb,Ec,Dp,Eh,Ei,Ed,Ey,Df,Et,Dl,Dn,Eo,Dy,Dw,Dh,Dq,Ee,Fh,Dc,Dx,Dk,Dz,Ej,Du,Eu,Ez,En,Ef,Fe,Fj,Fg,Ep,Em,Ew,Fb]
 and_intros
 all_goals try (intros;omega)
 .intro h
  and_intros
  all_goals try omega
  exact Jb h
 .rintro⟨g,f⟩;exact Jc g f
theorem NY: ∀args m c,NZ args m=some c->af Tryz.prog G0 203 args m c:=by
 intro args m c h;unfold NZ at h;split at h
 .split at h
  .rename_i e;obtain⟨rfl,rfl⟩:=e;cases h;exact Xt _ _ _ _
  .cases h
 .cases h
theorem aFE: aj Tryz.prog G0 K13:=ai NY aFF
theorem qe(k:Int): (fS k).length=144:=by unfold fS;rw[vG,vI]
theorem JB: List.replicate 144 0=fS 0:=by
 unfold fS;apply yP;intro i;rw[wQ,qO];by_cases h:i<144
 .rw[if_pos h,vT h];simp
 .rw[if_neg h,wV (by rw[vI];omega)];rfl
theorem N8{x y:Int}(v:0<=x)(j:x<12)(u:0<=y)(f:y<12)(r:x≠y): (fS (12*x+y)).set (x.toNat*12+y.toNat) (-1)=fS (12*x+(y+1)):=by
 apply yP;intro i;rw[yO,qe];unfold fS;rw[qO,qO];by_cases h:i<144
 .rw[vT h];simp only[zC];by_cases e:x.toNat*12+y.toNat=i
  .subst e;rw[if_pos rfl,if_pos h,if_pos (by omega),if_neg (by omega)]
  .rw[if_neg e]
   congr 1
   by_cases g:i<(12*x+y).toNat
   .have b:i<(12*x+(y+1)).toNat:=by omega
    rw[if_pos g,if_pos b]
   .have b:¬i<(12*x+(y+1)).toNat:=by omega
    rw[if_neg g,if_neg b]
 .rw[if_neg (by omega),wV (by rw[vI];omega)];rfl
theorem JC{x:Int}(f:0<=x)(b:x<12): fS (12*x+x)=fS (12*x+(x+1)):=by
 unfold fS;apply yI;intro i hi;have:=vF.1 hi;by_cases g:i<(12*x+x).toNat
 .have e:i<(12*x+(x+1)).toNat:=by omega
  rw[if_pos g,if_pos e]
 .rw[if_neg g];split
  .rw[if_pos (by omega)]
  .rfl
theorem N9(ls:Ll): fS (12*12)=ie ls 0:=by
 unfold ie fS Ff;rw[show(Int.toNat 0)=0 from rfl,qCf,List.foldl_nil];apply yI;intro i hi;rw[if_pos (by have:=vF.1 hi;omega)]
theorem yi(ls:Ll)(k:Int): (ie ls k).length=144:=nU _
theorem EW{ls:Ll}{k:Int}(e:0<=k)(b:k<ls.length)(d:Line): iI (ie ls k) (ls.getD k.toNat d).2.1 (ls.getD k.toNat d).2.2.1 (ls.getD k.toNat d).2.2.2.2.1=ie ls (k+1):=by
 unfold ie;rw[show(k+1).toNat=k.toNat+1 by omega,wO,qA,qB (show k.toNat<ls.length by omega),qAp];rfl
theorem Jp(ls:Ll){k:Int}(h:¬k<ls.length): ie ls k=fwD ls 0 0 0:=by
 unfold ie;rw[qQ (by omega)];rfl
theorem wd(ls:Ll)(o a b:Int): (fwD ls o a b).length=144:=po ls _
theorem YV{ls:Ll}{o a:Int}: fwD ls o a 12=fwD ls o (a+1) 0:=by
 unfold fwD;congr 2;omega
theorem YW{ls:Ll}{o:Int}: fwD ls o 12 0=fwD ls (o+1) 0 0:=by
 unfold fwD;congr 2;omega
theorem HN{ls:Ll}{o a b:Int}(f:0<=o)(e:o<12)(a0:0<=a)(i:a<12)(h:0<=b)(g:b<12): fwD ls o a (b+1)=xh (fwD ls o a b) (o.toNat*144+a.toNat*12+b.toNat):=by
 unfold fwD;rw[show(o*144+a*12+(b+1)).toNat=(o.toNat*144+a.toNat*12+b.toNat)+1 by omega,show(o*144+a*12+b).toNat=o.toNat*144+a.toNat*12+b.toNat by omega,yx]
theorem YU{ls:Ll}{o a b:Int}(g:0<=o)(f:o<12)(a0:0<=a)(r:a<12)(e:0<=b)(j:b<12)
  (i:(fwD ls o a b).getD (a.toNat*12+o.toNat) 0≠-1) (h:(fwD ls o a b).getD (o.toNat*12+b.toNat) 0≠-1):
  iI (fwD ls o a b) a b ((fwD ls o a b).getD (a.toNat*12+o.toNat) 0+(fwD ls o a b).getD (o.toNat*12+b.toNat) 0)=fwD ls o a (b+1):=by
 rw[HN g f a0 r e j];unfold xh;rw[show(o.toNat*144+a.toNat*12+b.toNat)/12%12=a.toNat by omega,show(o.toNat*144+a.toNat*12+b.toNat)/144=o.toNat by omega,show(o.toNat*144+a.toNat*12+b.toNat)%12=b.toNat by omega];unfold cell;rw[show((fwD ls o a b).getD (a.toNat*12+o.toNat) 0 != -1&&(fwD ls o a b).getD (o.toNat*12+b.toNat) 0 != -1)=true by simp only[qC,qCu];exact⟨i,h⟩,qAv];unfold iI;rw[qR a0,qR e]
theorem aBN{ls:Ll}{o a b:Int}(f:0<=o)(e:o<12)(a0:0<=a)(r:a<12)(j:0<=b)(i:b<12)
  (h:(fwD ls o a b).getD (a.toNat*12+o.toNat) 0≠-1->(fwD ls o a b).getD (o.toNat*12+b.toNat) 0=-1):fwD ls o a b=fwD ls o a (b+1):=by
 rw[HN f e a0 r j i];unfold xh;rw[show(o.toNat*144+a.toNat*12+b.toNat)/12%12=a.toNat by omega,show(o.toNat*144+a.toNat*12+b.toNat)/144=o.toNat by omega,show(o.toNat*144+a.toNat*12+b.toNat)%12=b.toNat by omega];unfold cell;rw[show((fwD ls o a b).getD (a.toNat*12+o.toNat) 0 != -1&&(fwD ls o a b).getD (o.toNat*12+b.toNat) 0 != -1)=false by
  rw[Bool.and_eq_false_imp];intro g;rw[qCu]at g;rw[h g];rfl,qAx]
theorem LR(cs:LC)(ns os:LB)(v:Lo)(ls:Ll)(r:Lk): af Tryz.prog G0 130 [net cs ns os v ls r] [] ⟨noP (cs,ns,os,v,ls,r),.av I (bC ls),[]⟩:=by
 refine ae (c:=mkc K13) aFE aK hm (Iw cs ns os v ls r ⟨rfl,λhp=>?_⟩);obtain⟨ok,hls⟩:=nT cs ns os v ls r hp;simp only[qc,Dj,Es,Di,qd,Dt,Eb,Ec,Dp,Eh,Ei,Ed,Ey,Df,Et,Dl,Dn,Eo,Dy,Dw,Dh,Dq,Ee,Fh,Dc,Dx,Dk,Dz,Ej,Du,Eu,Ez,En,Ef,Fe,Fj,Fg,Ep,Em,Ew,Fb];have e:upN 0 12:=⟨by decide,by decide⟩;refine⟨⟨0,e,rfl,JB⟩,λx ⟨O,x1⟩=>⟨λz=>⟨⟨0,e,rfl,by rw[Int.add_zero]⟩,λy ⟨y0,y1⟩=>⟨λX=>⟨λA=>?_,λhe=>?_⟩,λX=>?_⟩⟩,λz=>?_⟩⟩
 .have:=qe (12*x+y)
  and_intros
  all_goals try omega
  exact⟨y+1,⟨by omega,by omega⟩,⟨rfl,N8 O z y0 X A⟩,by omega⟩
 .subst he;exact⟨⟨by omega,by omega⟩,x+1,⟨by omega,by omega⟩,⟨rfl,JC O z⟩,by omega⟩
 .have:y=12:=by omega
  subst this;exact⟨⟨by omega,by omega⟩,x+1,⟨by omega,by omega⟩,⟨rfl,by congr 1;omega⟩,by omega⟩
 have ex:x=12:=by omega
 subst ex;refine⟨⟨0,⟨qL _,qV _⟩,rfl,N9 ls⟩,λk ⟨V,k1⟩=>⟨λu=>?_,λu=>?_⟩⟩
 .have f:=ok.at_ _ (getD_mem (l:=ls) (i:=k.toNat) (d:=(⟨#[]⟩,0,0,0,0,0)) (by omega));have hn:=ok.n12;unfold bj lTo at f;have L:=yi ls k;refine⟨V,u,⟨by omega,by omega,by omega,by omega,L⟩,by rw[jM]<;>exact qJ _,⟨by omega,by omega⟩,k+1,⟨by omega,by omega⟩,⟨rfl,EW V u _⟩,by omega⟩
 refine⟨⟨0,e,rfl,Jp ls u⟩,λo ⟨T,o1⟩=>⟨λf=>⟨⟨0,e,rfl,rfl⟩,λa ⟨a0,a1⟩=>⟨λG=>⟨⟨0,e,rfl,rfl⟩,λb ⟨Z,b1⟩=>⟨λhb=>?_,λhb=>?_⟩⟩,λG=>?_⟩⟩,λf=>?_⟩⟩
 .have L:=wd ls o a b;have j:=BU ok (k:=(o*144+a*12+b).toNat) (by omega) (a:=a.toNat) (b:=o.toNat) (by omega) (by omega);have g:=BU ok (k:=(o*144+a*12+b).toNat) (by omega) (a:=o.toNat) (b:=b.toNat) (by omega) (by omega);have j:-1<=(fwD ls o a b).getD (a.toNat*12+o.toNat) 0/\(fwD ls o a b).getD (a.toNat*12+o.toNat) 0<=20480000:=j
  have g:-1<=(fwD ls o a b).getD (o.toNat*12+b.toNat) 0/\(fwD ls o a b).getD (o.toNat*12+b.toNat) 0<=20480000:=g
  and_intros
  all_goals try (intros;omega)
  .rintro⟨h1,h2⟩;have e2:=jM (fwD ls o a b) a b ((fwD ls o a b).getD (a.toNat*12+o.toNat) 0+(fwD ls o a b).getD (o.toNat*12+b.toNat) 0);have e3:=YU T f a0 G Z hb h1 h2
   and_intros
   all_goals try omega
   exact⟨b+1,⟨by omega,by omega⟩,⟨rfl,e3⟩,by omega⟩
  .intro h;exact⟨⟨by omega,by omega⟩,b+1,⟨by omega,by omega⟩,⟨rfl,aBN T f a0 G Z hb h⟩,by omega⟩
 .have:b=12:=by omega
  subst this;exact⟨⟨by omega,by omega⟩,a+1,⟨by omega,by omega⟩,⟨rfl,YV⟩,by omega⟩
 .have:a=12:=by omega
  subst this;exact⟨⟨by omega,by omega⟩,o+1,⟨by omega,by omega⟩,⟨rfl,YW⟩,by omega⟩
 .have:o=12:=by omega
  subst this;have L:=wd ls 12 0 0;have e2:(Fz 144 (0:Int)).length=144:=wG
  and_intros
  all_goals try omega
  rfl
theorem aFD: aj Tryz.prog G0 K14:=ai (ag λ((cs,ns,os,e,ls,b),_)=>LR cs ns os e ls b) aFE
theorem TC{n:Net}(h:¬(((ew n).length:Nat):Int)>0): noF n=true:=sV.2 (vP (by omega))
theorem NC{n:Net}(h:(((ew n).length:Nat):Int)>0): noF n=false:=by
 cases e:noF n with
 | false=>rfl
 | true=>rw[sV.1 e]at h;simp at h
theorem Hh: (Fz 144 (0:Int)).length=144:=wG
theorem AS(ls:Ll): (bC ls).length=144:=po ls _
theorem pR(m:Int)(ls:Ll): bB m ls 0=[]:=rfl
theorem DZ(m:Int)(ls:Ll)(k:Int): (bB m ls k).length<=k.toNat:=by
 unfold bB;exact wL (qCy _ _) (by rw[vI];exact qJ _)
theorem DY{m:Int}{ls:Ll}{k:Int}(b:0<=k)(h:vj m.toNat ls k.toNat=true): bB m ls (k+1)=bB m ls k++[(3,k,111)]:=by
 unfold bB;rw[show(k+1).toNat=k.toNat+1 by omega,zU,qAt];simp[qR b,h]
theorem Je{m:Int}{ls:Ll}{k:Int}(h:vj m.toNat ls k.toNat=false)(b:0<=k): bB m ls (k+1)=bB m ls k:=by
 unfold bB;rw[show(k+1).toNat=k.toNat+1 by omega,zU,qAt];simp[h]
theorem Jf{m:Int}{ls:Ll}{a b:Int}(a0:0<=a)(e:a<m)(h:(bC ls).getD (a.toNat*12+b.toNat) 0=-1): vj m.toNat ls b.toNat=true:=
 xX.2 ⟨a.toNat,vF.2 (by omega),qW h⟩
theorem EO{m:Int}{ls:Ll}{a b:Int}(hm:sZ m ls b a)(i:a<m)(h:(bC ls).getD (a.toNat*12+b.toNat) 0≠-1): sZ m ls b (a+1):=by
 obtain⟨g,f,e⟩:=hm;refine⟨by omega,by omega,?_⟩;rw[show(a+1).toNat=a.toNat+1 by omega,zU,kN,e];simp only[qAi,List.all_nil,gG,zQ];exact qW h
theorem Jl{m:Int}{ls:Ll}{a b:Int}(hm:sZ m ls b a)(i:¬a<m): vj m.toNat ls b.toNat=false:=by
 obtain⟨h,g,f⟩:=hm;have:a=m:=by omega
 subst this;unfold vj;rw[qBs];intro x e;have:=qN.1 f x e;simpa using this
theorem XP(cs:LC)(ns os:LB)(f:Lo)(ls:Ll)(j:Lk): af Tryz.prog G0 64 [net cs ns os f ls j] [] ⟨True,.dat (.sl Fa) (fa (cs,ns,os,f,ls,j)),[]⟩:=by
 refine ae (c:=mkc K14) aFD aK hm (Q6 cs ns os f ls j ⟨rfl,λ_=>?_⟩);simp only[qc,Dj,Es,Di,qd,Dt,Eb,Ec,Dp,Eh,Ei,Ed,Ey,Df,Et,Dl,Dn,Eo,Dy,Dw,Dh,Dq,Ee,Fh,Dc,Dx,Dk,Dz,Ej,Du,Eu,Ez,En,Ef,Fe,Fj,Fg,Ep,Em,Ew,Fb];refine⟨λh=>by unfold fa;rw[NC h];rfl,λh=>?_⟩;have e:=TC h;have x:=sV.1 e;obtain⟨ok,z⟩:=nT cs ns os f ls j e;have L:=ok.n12;have G:=AS ls
 refine⟨e,Hh,Hh,G,⟨0,⟨qL _,qV _⟩,by rw[x,pR],rfl,by rw[x,pR]⟩,λb ⟨y,T⟩=>⟨λhb=>⟨⟨qL _,qV _,by simp⟩,λa v=>⟨λg=>?_,λu=>?_⟩⟩,λhb=>?_⟩⟩
 .have a0:=v.1;have O:=DZ (f.length:Int) ls b
  and_intros
  all_goals try (intros;omega)
  .intro A;have i:=DY y (Jf a0 g A);exact⟨by simp only[vZ];omega,by simp only[vZ];omega,⟨by omega,by omega⟩,b+1,⟨by omega,by omega⟩,⟨by rw[i,qF],rfl,i.symm⟩,by omega⟩
  .intro r;exact⟨⟨by omega,by omega⟩,a+1,EO v g r,rfl,by omega⟩
 .have i:=Je (Jl v u) y;exact⟨⟨by omega,by omega⟩,b+1,⟨by omega,by omega⟩,⟨by rw[i],rfl,i.symm⟩,by omega⟩
 .have:b=f.length:=by omega
  subst this;unfold fa;rw[e];rfl
theorem oH: ∀(rs:Ll) (row:Li),(rs.foldl gj row).length=row.length
 | [],_=>rfl
 | l::rs,row=>by rw[kL,oH rs,kb]
theorem wx(ls:Ll)(m a:Nat): ∀r,(bfN ls m a r).length=m
 | 0=>by show(oG m a).length=m;simp[oG]
 | r+1=>by rw[zv];unfold zu;rw[oH,wx ls m a r]
theorem O7{m:Nat}{ls:Ll}(ok:ct m ls){row:Li}(e:row.length=m){l:Line}(f:l∈ls){K:Int}(h:∀b,at1 row b<=K): ∀b,at1 (gj row l) b<=K+5000:=by
 intro b;have o:=ok.at_ l f;rw[oD (by rw[e];omega)];have i:=h b;have g:=h (bj l).toNat;split<;>omega
theorem CN{m:Nat}{ls:Ll}(ok:ct m ls): ∀(rs:Ll) (row:Li) (K:Int),(∀l∈rs,l∈ls)->row.length=m->(∀b,at1 row b<=K)->∀b,at1 (rs.foldl gj row) b<=K+5000*rs.length
 | [],_,_,_,_,h=>λb=>by have:=h b;simpa using this
 | l::rs,row,K,e,f,h=>λb=>by
  have:=CN ok rs (gj row l) (K+5000) (λx g=>e x (by simp[g])) (by rw[kb];exact f) (O7 ok f (e l (by simp)) h) b;rw[kL,vU];omega
theorem aCa{m:Nat}{ls:Ll}(ok:ct m ls)(e:ls.length<=40)(a:Nat): ∀(r:Nat) b,at1 (bfN ls m a r) b<=200000*r
 | 0,b=>by
  show at1 (oG m a) b<=_;unfold at1 oG;rw[qA,qO];by_cases h:b<m
  .rw[vT h];simp only[zC,qP];split<;>omega
  .rw[wV (by rw[vI];omega)];simp
 | r+1,b=>by
  rw[zv];have:=CN ok ls (bfN ls m a r) (200000*r) (λ_ h=>h) (wx ls m a r) (aCa ok e a r) b;unfold zu;omega
theorem aGg: aj Tryz.prog G0 K15:=
 ai (ag λ((cs,ns,os,e,ls,b),_)=>XP cs ns os e ls b) aFD
theorem any_congr{α:Type}{p q:α->Bool}: ∀{l:List α},(∀x∈l,p x=q x)->l.any p=l.any q
 | [],_=>rfl
 | a::l,h=>by rw[qDr,qDr,h a (by simp),any_congr λx b=>h x (by simp[b])]
theorem aGf: aj Tryz.prog G0 K16:=aGg
theorem Vz{l:List ByteArray}: (∀i:Int,0<=i->i<l.length->rule2 l i=0)↔l.Pairwise (λa b=>a.toList≠b.toList):=by
 have key:∀i:Nat,∀h:i<l.length,rule2 l (i:Int)=0↔∀j,∀f:j<i,(l[j]'(by omega)).toList≠l[i].toList:=by
  intro i hi;unfold rule2 fX;rw[qZ,qA,qB hi,qP];constructor
  .intro h j f e;split at h
   .cases h
   .rename_i g;refine g (xX.2 ⟨l[j]'(by omega),wY.2 ⟨j,by rw[qI];omega,by rw[qCs]⟩,?_⟩);rw[e];exact yM _
  .intro h;rw[if_neg];intro g;obtain⟨w,hw,u⟩:=xX.1 g;obtain⟨j,f,rfl⟩:=wY.1 hw;rw[qI]at f;rw[qCs]at u;exact h j (by omega) (xI.1 u)
 rw[List.pairwise_iff_getElem];constructor
 .intro h i j hi f r;exact(key j f).1 (h j (by omega) (by omega)) i r
 .intro h i v x;have:=(key i.toNat (by omega)).2 λj f=>h j i.toNat (by omega) (by omega) f
  rwa [qR v]at this
theorem ru{kind e:Int}{l:List ByteArray}{g:List Bool}(L:0<=e): bz kind e l g=[]↔(l.length:Int)<=e/\(∀x∈l,b7 x=true)/\l.Pairwise (λa b=>a.toList≠b.toList)/\∀i,i<l.length->g.getD i false=true:=by
 have r:∀i:Nat,∀h:i<l.length,fX l (i:Int)=l[i]:=λi hi=>by
  unfold fX;rw[qZ,qA,qB hi,qP]
 constructor
 .intro h;obtain⟨u,j⟩:=tj L h;refine⟨u,λx z=>?_,Vz.1 λi y v=>(oh (j i y v)).2.1,λi hi=>?_⟩
  .obtain⟨i,hi,rfl⟩:=wY.1 z;have:=(oh (j i (by omega) (by omega))).1;unfold bA at this;rw[r i hi]at this;split at this
   .assumption
   .cases this
  .have:=vb (oh (j i (by omega) (by omega))).2.2
   rwa [qZ]at this
 .rintro⟨u,j,G,A⟩;unfold bz aQ Jh;rw[if_neg (by omega),wH,qCv];intro i hi;have hi:=vF.1 hi;have f:i<l.length:=by omega
  have V:bA l (i:Int)=0:=by unfold bA;rw[r i f,if_pos (j _ (wE f))]
  have T:=Vz.2 G (i:Int) (by omega) (by omega);have O:bK g (i:Int)=0:=by unfold bK;rw[qZ,if_pos (A i f)]
  have:HZ l g (i:Int)=0:=by unfold HZ;rw[V,T,O];rfl
  rw[if_pos this]
theorem jS{α:Type}{kind e:Int}(z:0<=e)(g:α->ByteArray)(good:α->Bool)(xs:List α): bz kind e (xs.map g) (xs.map good)=[] ↔
  (xs.length:Int)<=e/\(∀x∈xs,b7 (g x)=true)/\xs.Pairwise (λa b=>(g a).toList≠(g b).toList)/\∀x∈xs,good x=true:=by
 rw[ru z,vG,List.pairwise_map];constructor
 .rintro⟨u,r,j,h⟩;refine⟨u,λx f=>r _ (List.mem_map_of_mem f),j,λx f=>?_⟩;obtain⟨i,hi,rfl⟩:=wY.1 f;have:=h i hi
  rwa [qA,qO,qB hi,zC,qP]at this
 .rintro⟨u,r,j,h⟩;refine⟨u,λx f=>?_,j,λi hi=>?_⟩
  .obtain⟨y,v,rfl⟩:=wS.1 f;exact r y v
  .rw[qA,qO,qB hi,zC,qP];exact h _ (wE hi)
theorem lu(cs:LC)(ns os:LB)(f:Lo)(ls:Ll)(e:Lk)(h:noF (cs,ns,os,f,ls,e)=true): (ls.length:Int)<=40/\(∀x∈ls,b7 x.1=true)/\ls.Pairwise (λa b=>a.1.toList≠b.1.toList)/\∀x∈ls,cT (cs,ns,os,f,ls,e) x=true:=
 (jS (by decide) (λl:Line=>l.1) (cT (cs,ns,os,f,ls,e)) ls).1 (iL cs ns os f ls e h).2.2.2.2.1
theorem Walk.map {ls rs:Ll} (h:∀l∈ls,∃r∈rs,bj r=bj l/\lTo r=lTo l/\aW r<=aW l) {a b:Nat} {n:Int} (w:Walk ls a b n):∃m,m<=n/\Walk rs a b m:=by
 induction w with
 | nil=>exact⟨0,qL _,.nil _⟩
 | snoc l i _ e=>
  obtain⟨m,hm,g⟩:=e;obtain⟨r,f,u,j,v⟩:=h l i;rw[<- u]at g;exact⟨m+aW r,by omega,j▸.snoc r f g⟩
theorem Walk.ends {ls rs:Ll} (h:∀l∈ls,∃r∈rs,bj r=bj l/\lTo r=lTo l) {a b:Nat} {n:Int} (w:Walk ls a b n):∃m,Walk rs a b m:=by
 induction w with
 | nil=>exact⟨0,.nil _⟩
 | snoc l i _ e=>
  obtain⟨m,g⟩:=e;obtain⟨r,f,u,j⟩:=h l i;rw[<- u]at g;exact⟨m+aW r,j▸.snoc r f g⟩
noncomputable def K18: Kt:=K16
noncomputable def K19: Kt:=K18
theorem aEW: aj Tryz.prog G0 K18:=aGf
theorem bu{x:Int}(h:-1000000000<=x/\x<=1000000000): inR .i64 x:=by unfold inR;simp only;omega
theorem gw(cs:LC)(ns os:LB)(e:Lo)(ls:Ll)(f:Lk)(h:noF (cs,ns,os,e,ls,f)=true): (e.length:Int)<=12/\(∀x∈e,b7 x.1=true)/\e.Pairwise (λa b=>a.1.toList≠b.1.toList)/\∀x∈e,cQ (cs,ns,os,e,ls,f) x=true:=
 (jS (by decide) (λl:Off=>l.1) (cQ (cs,ns,os,e,ls,f)) e).1 (iL cs ns os e ls f h).2.2.2.1
theorem aEV: aj Tryz.prog G0 K19:=aEW
theorem wt(cs:LC)(ns os:LB)(b:Lo)(ls:Ll)(e:Lk): fa (cs,ns,os,b,ls,e)=[]↔noF (cs,ns,os,b,ls,e)=true/\bB b.length ls b.length=[]:=by
 unfold fa;cases h:noF (cs,ns,os,b,ls,e)with
 | true=>exact⟨λg=>⟨rfl,g⟩,λg=>g.2⟩
 | false=>
  constructor
  .intro g;have:noF (cs,ns,os,b,ls,e)=true:=sV.2 g;rw[h]at this;cases this
  .intro g;cases g.1
def PS(a b:Int): Int:=a%b
def bT(d:Int): Bool:=decide (-1000000<=d/\d<=1000000)
def nN(d:Int): Prop:=-1000000000000<=d/\d<=1000000000000
def ED(b:Int): Prop:=0<b/\b<=1000000
def fW(z:Int)(w:List Bool)(h:Li)(t:Int): Prop:=ax z w h=true/\-2000000000<=t/\t<=2000000000
def lk(z:Int)(w:List Bool)(h:Li)(d m:Int): Prop:=ax z w h=true/\bT d=true/\0<=m/\m<1440
def gQ(z t:Int): Int:=(t+z)/1440
def PX(z t:Int): Int:=(t+z)%1440
def jI(z d m:Int): Int:=d*1440+m-z
theorem gD(a b:Int)(e:
 let c1:=Dp (Fq a b) 0;let c2:=Fq a b+b;true/\(nN a/\ED b->b≠0/\(c1->inR .i64 c2/\c2=PS a b/\True)/\(c1=false->Fq a b=PS a b/\True))):
  evF (mkc K19) az 162 [.dat I a,.dat I b] [] ⟨nN a/\ED b,.dat I (PS a b),[]⟩:=oE e
theorem IH(a:Int)(b:
 let c1:=Ed a (-1000000);true/\(True->(c1->c1->c1)/\(Dj true c1->c1)/\Ea c1 (Ei a 1000000) false=bT a/\True)):
  evF (mkc K19) az 163 [.dat I a] [] ⟨True,.dat .bool (bT a),[]⟩:=oE b
def KT1: Kt:=kOr 162 (aw [.val I,.val I] (λ(a,b,_)=>nN a/\ED b) λ(a,b,_)=>.dat I (PS a b)) <|
 kOr 163 (aw [.val I] (λ_=>True) λ(a,_)=>.dat .bool (bT a)) K19
theorem QO(z:Int)(w:List Bool)(h:Li)(t:Int)(b:
 let c1:=Di (ax z w h);let c2:=Di c1;let c3:=Ea c1 true (Dp t (-2000000000));let c4:=Di c3;let c5:=Ea c3 true (Eh t 2000000000);let c6:=PS (t+z) 1440;let c7:=(t+z)-c6;let e:=Gg c7 1440;true/\(fW z w h t->True/\(c2->c2->c2)/\(Dj true c2->c2)/\(c4->c4->c4)/\(Dj true c4->c4)/\(c5->0=gQ z t/\0=PX z t/\True)/\(c5=false->inR .i64 (t+z)/\(nN (t+z)/\ED 1440)/\inR .i64 c7/\Eo 1440 0/\inR .i64 e/\e=gQ z t/\c6=PX z t/\True))):
  evF (mkc KT1) az 98 [cal z w h,.dat I t] [] ⟨fW z w h t,.tup [.dat I (gQ z t),.dat I (PX z t)],[]⟩:=oE b
theorem Wu(z:Int)(w:List Bool)(h:Li)(d m:Int)(e:
 let c1:=Di (ax z w h);let c2:=Di c1;let c3:=Ea c1 true (Di (bT d));let c4:=Di c3;let c5:=Ea c3 true (Dp m 0);let c6:=Di c5;let c7:=Ea c5 true (Ed m 1440);let f:=d*1440;let c9:=f+m;let b:=c9-z;true/\(lk z w h d m->True/\(c2->c2->c2)/\(c2->True)/\(c2->c2->c2)/\(Dj true c2->c2)/\(c4->c4->c4)/\(Dj true c4->c4)/\(c6->c6->c6)/\(Dj true c6->c6)/\(c7->0=jI z d m/\True)/\(c7=false->inR .i64 f/\inR .i64 c9/\inR .i64 b/\b=jI z d m/\True))):
  evF (mkc KT1) az 99 [cal z w h,.dat I d,.dat I m] [] ⟨lk z w h d m,.dat I (jI z d m),[]⟩:=oE e
def KT2: Kt:=kOr 98 (aw [.row C,.val I] (λ(c,t,_)=>fW c.1 c.2.1 c.2.2 t) λ(c,t,_)=>.tup [.dat I (gQ c.1 t),.dat I (PX c.1 t)]) <|
 kOr 99 (aw [.row C,.val I,.val I] (λ(c,d,m,_)=>lk c.1 c.2.1 c.2.2 d m) λ(c,d,m,_)=>.dat I (jI c.1 d m)) KT1
theorem aD8(a b:Int): af Tryz.prog G0 162 [.dat I a,.dat I b] [] ⟨nN a/\ED b,.dat I (PS a b),[]⟩:=by
 refine ae (c:=mkc K19) aEV aK hm (gD a b ⟨rfl,λ⟨⟨x,v⟩,g,u⟩=>?_⟩);have e:=qBd (a:=a) (b:=b);have z:=kZ a (show b≠0 by omega);have y:=kD a g;have j:(b.natAbs:Int)=b:=Int.natAbs_of_nonneg (by omega);simp only[Eo,Dp,Fq,Dq,PS,inR,qE,vY];by_cases f:0<=a\/b ∣ a
 .rw[if_pos f]at e;refine⟨by omega,λh=>by omega,λh=>⟨by omega,trivial⟩⟩
 .rw[if_neg f,j]at e;have r:a%b≠0:=λi=>f (.inr (Int.dvd_of_emod_eq_zero i))
  refine⟨by omega,λh=>⟨by omega,by omega,trivial⟩,λh=>by omega⟩
theorem MN(a:Int): af Tryz.prog G0 163 [.dat I a] [] ⟨True,.dat .bool (bT a),[]⟩:=by
 refine ae (c:=mkc K19) aEV aK hm (IH a ⟨rfl,λ_=>⟨λh _=>h,λh=>by simpa[Dj]using h,?_,trivial⟩⟩);rw[iZ];simp[bT,Ed,Ei]
theorem aEK: aj Tryz.prog G0 KT1:=ai (ag λ(a,b,_)=>aD8 a b)<|ai (ag λ(a,_)=>MN a) aEV
theorem X9(z:Int)(w:List Bool)(h:Li)(t:Int): af Tryz.prog G0 98 [cal z w h,.dat I t] [] ⟨fW z w h t,.tup [.dat I (gQ z t),.dat I (PX z t)],[]⟩:=by
 refine ae (c:=mkc KT1) aEK aK hm (QO z w h t ⟨rfl,λ⟨b,x,v⟩=>?_⟩);obtain⟨⟨u,r,j,i⟩,_⟩:=cA.1 b;have g:¬t < -2000000000:=by omega
 have f:¬t>2000000000:=by omega
 simp only[b,g,f,ql,iZ,Dj,Di,zQ,qAr,zS,vS,qBm,kW,yA,xU,yD,Dp,Eh,kK,zK,vX,kV,gG,qBh,qAj,qAu,qAh,kJ,Eo,Dh,Dq,Gg,inR,PS,gQ,PX,nN,ED];have A:=kZ (t+z) (show(1440:Int)≠0 by omega);have y:=kD (t+z) (show(0:Int)<1440 by omega);have e:t+z-(t+z)%1440=1440*((t+z)/1440):=by omega
 rw[e,qDb _ (by omega)];omega
theorem aA5(z:Int)(w:List Bool)(h:Li)(d m:Int): af Tryz.prog G0 99 [cal z w h,.dat I d,.dat I m] [] ⟨lk z w h d m,.dat I (jI z d m),[]⟩:=by
 refine ae (c:=mkc KT1) aEK aK hm (Wu z w h d m ⟨rfl,λ⟨b,hd,v,u⟩=>?_⟩);obtain⟨⟨r,j,i,g⟩,_⟩:=cA.1 b;have f:¬m<0:=by omega
 have e:¬m≥1440:=by omega
 simp only[b,hd,f,e,ql,iZ,Dj,Di,zQ,qAr,zS,vS,qBm,kW,yA,xU,yD,Dp,Ed,kK,zK,vX,kV,gG,qBh,qAj,qAu,qAh,kJ,Dh,Dq,Ee,inR,jI];unfold bT at hd;have:=vO hd;omega
theorem aEH: aj Tryz.prog G0 KT2:=ai (ag λ((z,w,h),t,_)=>X9 z w h t)<|ai (ag λ((z,w,h),d,m,_)=>aA5 z w h d m) aEK
def BS(h:Li)(d i:Int): Bool:=decide (h.getD i.toNat 0≥d)
def P0(h:Li)(i:Int): Prop:=0<=i/\i<h.length
def gW(g:Int->Bool)(n:Int): Int:=(((List.range n.toNat).filter λ(i:Nat)=>!g (i:Int)).length:Int)
def jK(g:Int->Bool)(pre:Int->Prop)(n:Int): Prop:=0<=n/\n<=1000000/\(∀i,0<=i->i<n->pre i)/\∀i j,0<=i->i<=j->j<n->g i=true->g j=true
def lR(g:Int->Bool)(n i j:Int): Prop:=0<=i/\i<=j/\j<=n/\(0<i->g (i-1)=false)/\(j<n->g j=true)
def atS(h:Li)(d:Int): Int:=gW (BS h d) h.length
def bL(w:List Bool)(h:Li)(d:Int): Bool:=w.getD (d%7).toNat false&&!h.contains d
def p1(x:Int×Int): Int:=x.1
def p2(x:Int×Int): Int:=x.2
def uJ(w:List Bool)(h:Li): Prop:=w.length=7/\h.length<=40/\∀i:Nat,i+1<h.length->h.getD i 0<h.getD (i+1) 0
theorem aDf(i d z:Int)(w:List Bool)(h:Li)(b:
 true/\(P0 h i->0<=i/\i<Df h/\Ed (Du h (Dc i) 0) d=BS h d i/\True)):
  evF (mkc KT2) az 267 [.dat I i,.ip C (z,w,h),.ip I d] [] ⟨P0 h i,.dat .bool (BS h d i),[]⟩:=oE b
def X0(g:Int->Bool)(n:Int): Ann:=⟨λid s=>match id with
 | 2=>some {α:=Int×Int,inv:=λx=>lR g n (p1 x) (p2 x),st:=λx=>put s [(5,.dat I (p1 x)),(6,.dat I (p2 x))],μ:=λx=>Dc (Dh (p2 x) (p1 x))}
 | _=>none,λ_ _=>none,λ_ _=>none⟩
theorem KN(n:Int)(pre:Int->Prop)(g:Int->Bool)(b:
 let c6:=Ty.int .i64;true/\(jK g pre n->(∃x,lR g n (p1 x) (p2 x)/\AV.clo1 c6 Ty.bool pre g=AV.clo1 c6 Ty.bool pre g/\(0:Int)=(0:Int)/\0=p1 x/\n=p2 x/\True)/\∀(x:Int×Int),let c1:=Dp (p1 x) (p2 x);let c2:=p1 x+p2 x;let c3:=Gi c2 1;let c4:=Di (g c3);let c5:=c3+1;lR g n (p1 x) (p2 x)->(c1->inR .i64 c2/\inR IntKind.u64 c2/\Dl 0 1/\Dc 1<=64/\inR .i64 c3/\pre c3/\(c4->inR .i64 c5/\∃y,lR g n (p1 y) (p2 y)/\(AV.clo1 c6 Ty.bool pre g=AV.clo1 c6 Ty.bool pre g/\(0:Int)=(0:Int)/\c5=p1 y/\p2 x=p2 y/\True)/\Dc (p2 y-p1 y)<Dc (p2 x-p1 x))/\(c4=false->∃y,lR g n (p1 y) (p2 y)/\(AV.clo1 c6 Ty.bool pre g=AV.clo1 c6 Ty.bool pre g/\(0:Int)=(0:Int)/\p1 x=p1 y/\c3=p2 y/\True)/\Dc (p2 y-p1 y)<Dc (p2 x-p1 x)))/\(c1=false->p1 x=gW g n/\True))):
  evF (mkc KT2) (lvA [(2,[1,4,5,6,7])] (X0 g n)) 266 [.dat I n,.clo1 I .bool pre g] [] ⟨jK g pre n,.dat I (gW g n),[]⟩:=oE b
def KT3: Kt:=λf args m=>match f,args,m with
 | 267,[.dat (.int .i64) i,.ip (.pair (.int .i64) (.pair (.sl .bool) (.sl (.int .i64)))) c,.ip (.int .i64) d],[]=>some ⟨P0 c.2.2 i,.dat .bool (BS c.2.2 d i),[]⟩
 | 266,[.dat (.int .i64) n,.fn 267 [.ip (.pair (.int .i64) (.pair (.sl .bool) (.sl (.int .i64)))) c,.ip (.int .i64) d]],[]=>some ⟨jK (BS c.2.2 d) (P0 c.2.2) n,.dat I (gW (BS c.2.2 d) n),[]⟩
 | _,_,_=>KT2 f args m
def aC7: Ann:=⟨λ_ _=>none,λid s=>match id with
 | 3=>some (frz (allNames s) s)
 | _=>none,λ_ _=>none⟩
theorem Qh(d z:Int)(w wk:List Bool)(h:Li)(e:
 let c9:=Df h;let c1:=PS d 7;let c2:=Du wk (Dc c1) false;let c3:=Di c2;let c4:=(z,w,h);let c5:=gW (BS h d) c9;let c6:=Eb c5 c9;let c7:=Di c6;let b:=c7->c7->c7;true/\(uJ wk h/\nN d->(nN d/\ED 7)/\Dk wk=7/\0<=c1/\c1<Dx 7/\(c3->false=bL wk h d/\True)/\(c3=false->d=d/\wk=wk/\c4=c4/\d=d/\false=false/\d=d/\c1=c1/\c2=c2/\c2=c2/\c3=c3/\jK (BS h d) (P0 h) c9/\b/\b/\b/\(c7->0<=c5)/\(c7->c5<Df h)/\b/\b/\b/\(Dj true c7->c7)/\Ea c6 true (Ec (Du h (Dc c5) 0) d)=bL wk h d/\True))):
  evF (mkc KT3) aC7 265 [.dat I d,.ia .bool wk,.ip C (z,w,h)] [] ⟨uJ wk h/\nN d,.dat .bool (bL wk h d),[]⟩:=oE e
theorem KG(z:Int)(w:List Bool)(h:Li)(b:
 let c3:=Fz 7 false;let c1:=Gl c3 w;let c2:=(z,w,h);true/\(Dk w=7->0=0/\7=7/\Dk c3=7/\Dk c3=7/\Dk c1=7/\0=0/\c1=w/\c2=c2/\True)):
  evF (mkc KT3) az 221 [cal z w h] [] ⟨Dk w=7,.fn 265 [.ia .bool w,.ip C (z,w,h)],[]⟩:=oE b
def KT4: Kt:=λf args m=>match f,args,m with
 | 265,[.dat (.int .i64) d,.ia .bool w,.ip (.pair (.int .i64) (.pair (.sl .bool) (.sl (.int .i64)))) c],[]=>some ⟨uJ w c.2.2/\nN d,.dat .bool (bL w c.2.2 d),[]⟩
 | 221,[.agg [.dat (.int .i64) z,.dat (.sl .bool) w,.dat (.sl (.int .i64)) h]],[]=>some ⟨Dk w=7,.fn 265 [.ia .bool w,.ip C (z,w,h)],[]⟩
 | _,_,_=>KT3 f args m
theorem Xb(z:Int)(w:List Bool)(h:Li)(d:Int)(b:
 let c1:=Ea (ax z w h) (bT d) false;let c2:=c1->c1->c1;true/\(ax z w h/\bT d->True/\(ax z w h->ax z w h->ax z w h)/\(ax z w h->True)/\(Dj true (ax z w h)->ax z w h)/\c2/\(c1->Dk w=7)/\c2/\c2/\(c1->uJ w h/\nN d)/\(Dj true c1->c1)/\Ea c1 (bL w h d) false=bL w h d/\True)):
  evF (mkc KT4) az 286 [cal z w h,.dat I d] [] ⟨ax z w h=true/\bT d=true,.dat .bool (bL w h d),[]⟩:=oE b
theorem VJ{h:Li}(hi:∀i:Nat,i+1<h.length->h.getD i 0<h.getD (i+1) 0): ∀(k i:Nat),i+k+1<h.length->h.getD i 0<h.getD (i+k+1) 0
 | 0,i,b=>hi i b
 | k+1,i,b=>by
  have g:=VJ hi k i (by omega);have f:=hi (i+k+1) (by omega);have e:i+(k+1)+1=i+k+1+1:=by omega
  rw[e];omega
theorem FA{h:Li}(hi:∀i:Nat,i+1<h.length->h.getD i 0<h.getD (i+1) 0){i j:Nat}(b:i<j)(e:j<h.length): h.getD i 0<h.getD j 0:=by
 have:=VJ hi (j-i-1) i (by omega)
 rwa [show i+(j-i-1)+1=j by omega]at this
theorem ng{g:Int->Bool}{i:Nat}: ∀N:Nat,(∀x:Nat,x<N->g (x:Int)=decide (i<=x))->((List.range N).filter λ(x:Nat)=>!g (x:Int)).length=min i N
 | 0,_=>by simp
 | N+1,h=>by
  rw[zU,yV,qF,ng N λx f=>h x (by omega)];by_cases b:i<=N
  .have e:g (N:Int)=true:=by rw[h N (by omega)];simpa using b
   simp only[yG,e,yA,qBk,vX,yX,yL];omega
  .have e:g (N:Int)=false:=by rw[h N (by omega)];simpa using b
   simp only[yG,e,yD,qBk,xQ,vU,yL];omega
theorem search_end{g:Int->Bool}{pre:Int->Prop}{n i j:Int}(u:jK g pre n)(r:lR g n i j)(A:¬i<j): i=gW g n:=by
 obtain⟨y,_,_,p3⟩:=u;obtain⟨h,t1,t2,t3,f⟩:=r;have e:i=j:=by omega
 subst e;have key:∀x:Nat,x<n.toNat->g (x:Int)=decide (i.toNat<=x):=λx z=>by
  by_cases b:i.toNat<=x
  .rw[qW b];exact p3 i x h (by omega) (by omega) (f (by omega))
  .rw[vV b];cases v:g (x:Int)with
   | false=>rfl
   | true=>
    have:=p3 x (i-1) (by omega) (by omega) (by omega) v;rw[t3 (by omega)]at this;cases this
 unfold gW;rw[ng _ key];omega
theorem SG(n:Int)(pre:Int->Prop)(g:Int->Bool): af Tryz.prog G0 266 [.dat I n,.clo1 I .bool pre g] [] ⟨jK g pre n,.dat I (gW g n),[]⟩:=by
 refine ae (c:=mkc KT2) aEH aK hm (KN n pre g ⟨rfl,λb=>?_⟩);have r:=b.1;have G:=b.2.1;have f:∀x:Int,0<=x->Gi x 1=x/2:=λx e=>by
  simp only[Gi];rw[show(2:Int) ^ (1:Int).toNat=2 by decide,qCn _ (by omega)]
 simp only[Di,qAr,zS,vS,zK,kF,Dp,Dl,Dy,Dh,Dq,Dw,Dc,qE,vY];refine⟨⟨(0,n),⟨qL _,r,qL _,λh=>absurd h (by simp only[p1];omega),λh=>absurd h (by simp only[p2];omega)⟩,rfl,rfl⟩,λx e=>⟨λu=>?_,λv=>search_end b e v⟩⟩;obtain⟨i,j⟩:=x;obtain⟨A,t1,t2,t3,z⟩:=e;simp only[p1,p2]at A t1 t2 t3 z u ⊢;rw[f (i+j) (by omega)];simp only[inR]
 refine⟨by omega,by omega,by omega,by decide,by omega,b.2.2.1 _ (by omega) (by omega),λy=>⟨by omega,((i+j)/2+1,j),⟨by simp only;omega,by simp only;omega,t2,λ_=>?_,z⟩,⟨rfl,rfl⟩,by simp only;omega⟩,
  λy=>⟨(i,(i+j)/2),⟨A,by simp only;omega,by simp only;omega,t3,λ_=>y⟩,⟨rfl,rfl⟩,by simp only;omega⟩⟩
 simp only[Int.add_sub_cancel];exact y
theorem aE7(i d:Int)(c:C.den): af Tryz.prog G0 267 [.dat I i,.ip C c,.ip I d] [] ⟨P0 c.2.2 i,.dat .bool (BS c.2.2 d i),[]⟩:=
 ae (c:=mkc KT2) aEH aK hm (aDf i d c.1 c.2.1 c.2.2 ⟨rfl,λh=>⟨h.1,h.2,rfl,trivial⟩⟩)
theorem MK(n d:Int)(c:C.den): af Tryz.prog G0 266 [.dat I n,.fn 267 [.ip C c,.ip I d]] [] ⟨jK (BS c.2.2 d) (P0 c.2.2) n,.dat I (gW (BS c.2.2 d) n),[]⟩:=
 (SG n (P0 c.2.2) (BS c.2.2 d)).args λC us i h=>by
  obtain⟨u,f,e,v,g,b,y,r,j⟩:=h;exact⟨u,f,e,v,g,b,y,jB (by kernel_rfl) rfl (λx=>aE7 x d c) i r,j⟩
theorem aEG: aj Tryz.prog G0 KT3:=by
 intro f args m c h;unfold KT3 at h;split at h
 .cases h;exact aE7 _ _ _
 .cases h;exact MK _ _ _
 .exact aEH _ _ _ _ h
theorem Ig{h:Li}(hi:∀i:Nat,i+1<h.length->h.getD i 0<h.getD (i+1) 0)(d:Int):
  0<=atS h d/\atS h d<=h.length/\(∀i:Nat,(i:Int)<atS h d->h.getD i 0<d)/\∀i:Nat,atS h d<=i->i<h.length->d<=h.getD i 0:=by
 have hex:∃k:Nat,k<=h.length/\(∀i:Nat,i<k->h.getD i 0<d)/\∀i:Nat,k<=i->i<h.length->d<=h.getD i 0:=by
  have:∀N:Nat,N<=h.length->∃k:Nat,k<=N/\(∀i:Nat,i<k->h.getD i 0<d)/\∀i:Nat,k<=i->i<N->d<=h.getD i 0:=by
   intro N;induction N with
   | zero=>intro _;exact⟨0,qJ _,λi hi=>by omega,λi _ hi=>by omega⟩
   | succ N A=>
    intro T;obtain⟨k,z,f,g⟩:=A (by omega);by_cases y:k<N
    .refine⟨k,by omega,f,λi u r=>?_⟩;rcases zD i N with j | j
     .exact g i u j
     .have v:i=N:=by omega
      have:=g k (qJ _) y;have:=FA hi y (show N<h.length by omega);rw[v];omega
    .have L:k=N:=by omega
     subst L;by_cases hd:h.getD k 0<d
     .refine⟨k+1,qJ _,λi G=>?_,λi u r=>by omega⟩;rcases zD i k with j | j
      .exact f i j
      .rw[show i=k by omega];exact hd
     .exact⟨k,by omega,f,λi u r=>by rw[show i=k by omega];omega⟩
  exact this h.length (qJ _)
 obtain⟨k,z,f,g⟩:=hex;have e:atS h d=k:=by
  unfold atS gW;rw[ng (i:=k) _ (λx O=>?_)]
  .omega
  .unfold BS;simp only[qZ];by_cases b:k<=x
   .rw[qW b];exact qW (g x b (by omega))
   .have:=f x (by omega);rw[vV b];exact vV (by omega)
 rw[e];exact⟨by omega,by omega,λi hi=>f i (by omega),λi u r=>g i (by omega) r⟩
theorem Om{w:List Bool}{h:Li}(e:uJ w h)(d:Int): jK (BS h d) (P0 h) h.length:=by
 refine⟨by omega,by have:=e.2.1;omega,λi f v=>⟨f,v⟩,λi j f r x b=>?_⟩;unfold BS at b ⊢;simp only[qE]at b ⊢;rcases Int.lt_or_le i j with g | u
 .have:=FA e.2.2 (show i.toNat<j.toNat by omega) (by omega);omega
 .rw[show j=i by omega];exact b
theorem Wj{w:List Bool}{h:Li}(v:uJ w h)(d:Int): (decide (atS h d=h.length)||(h.getD (atS h d).toNat 0 != d))=!h.contains d:=by
 obtain⟨L,G,z,y⟩:=Ig v.2.2 d;obtain⟨k,A⟩:∃k,k=atS h d:=⟨_,rfl⟩;rw[<- A]at L G z y ⊢;have f:d∈h↔k<h.length/\h.getD k.toNat 0=d:=by
  constructor
  .intro hm;obtain⟨i,hi⟩:=xZ.1 hm;have u:=(qG.1 hi).1;have e:h.getD i 0=d:=by rw[qA,hi];rfl
   have x:k<=i:=by
    rcases Int.lt_or_le (i:Int) k with b | r
    .have:=z i b;omega
    .exact r
   have g:k.toNat=i:=by
    rcases zD k.toNat i with b | r
    .have:=FA v.2.2 b u;have:=y k.toNat (by omega) (by omega);omega
    .omega
   exact⟨by omega,by rw[g];exact e⟩
  .rintro⟨x,g⟩;have b:k.toNat<h.length:=by omega
   rw[qA,qB b]at g;simp only[qP]at g;rw[<- g];exact wE _
 by_cases hd:d∈h
 .obtain⟨x,g⟩:=f.1 hd;have:h.contains d=true:=by simpa using hd
  rw[this,g];have:¬k=h.length:=by omega
  simp[this]
 .have:h.contains d=false:=by simpa using hd
  rw[this];by_cases j:k=h.length
  .simp[j]
  .have:h.getD k.toNat 0≠d:=λe=>hd (f.2 ⟨by omega,e⟩)
   simp only[j,kK,xU,yD,qCu,ne_eq];exact this
theorem X4(d:Int)(wk:List Bool)(c:C.den): af Tryz.prog G0 265 [.dat I d,.ia .bool wk,.ip C c] [] ⟨uJ wk c.2.2/\nN d,.dat .bool (bL wk c.2.2 d),[]⟩:=by
 obtain⟨z,w,h⟩:=c;refine ae (c:=mkc KT3) aEG aK hm (Qh d z w wk h ⟨rfl,λ⟨b,hd⟩=>?_⟩);have f:=Om b d;obtain⟨i,y,x,v⟩:=Ig b.2.2 d;have u:=kZ d (show(7:Int)≠0 by omega);have r:=kD d (show(0:Int)<7 by omega);have j:gW (BS h d) (Df h)=atS h d:=rfl;have e:jK (BS h d) (P0 h) (Df h):=f;simp only[j,e,ql,iZ,Dj,Di,zQ,qAr,zS,vS,qBm,kW,zK,kF,PS,Du,Dc,Eb,Ec,Dl,Dn,Df,Dx,Dk,qAe]
 refine⟨⟨hd,by omega,by omega⟩,b.1,u,by exact_mod_cast r,λhw=>?_,λhw=>⟨λ_=>i,λg=>by omega,?_⟩⟩
 .unfold bL;rw[hw];rfl
 .unfold bL;rw[hw,zQ,<- Wj b d]
  congr 1
theorem SE(z:Int)(w:List Bool)(h:Li): af Tryz.prog G0 221 [cal z w h] [] ⟨Dk w=7,.fn 265 [.ia .bool w,.ip C (z,w,h)],[]⟩:=by
 refine ae (c:=mkc KT3) aEG aK hm (KG z w h ⟨rfl,λhw=>?_⟩);have hw:w.length=7:=hw;have e:Gl (Fz 7 false) w=w:=by
  simp only[Gl,Fz,wG,<- hw,xG];rw[zN (by simp),wH]
 refine⟨rfl,rfl,by simp[Dk,Fz],by simp[Dk,Fz],by rw[e];exact hw,rfl,e,rfl,trivial⟩
theorem aCg: aj Tryz.prog G0 KT4:=by
 intro f args m c h;unfold KT4 at h;split at h
 .cases h;exact X4 _ _ _
 .cases h;exact SE _ _ _
 .exact aEG _ _ _ _ h
theorem zm{z:Int}{w:List Bool}{h:Li}(g:ax z w h=true): uJ w h:=by
 obtain⟨⟨_,_,f,e⟩,b⟩:=cA.1 g;exact⟨f,e,b⟩
theorem Tt{d:Int}(hd:bT d=true): nN d:=by
 unfold bT at hd;have:=vO hd;exact⟨by omega,by omega⟩
theorem aBg(z:Int)(w:List Bool)(h:Li)(d:Int): af Tryz.prog G0 286 [cal z w h,.dat I d] [] ⟨ax z w h=true/\bT d=true,.dat .bool (bL w h d),[]⟩:=by
 refine ae (c:=mkc KT4) aCg aK hm (Xb z w h d ⟨rfl,λ⟨b,hd⟩=>?_⟩);have e:=zm b;simp only[b,hd,iZ,Dj,zQ,qAr,zS,vS,qBm,kW,kJ,Dk];exact⟨e.1,e,Tt hd⟩
def iD(w:List Bool)(h:Li)(a n:Int): Li:=((List.range n.toNat).map λ(i:Nat)=>a+(i:Int)).filter λd=>bL w h d
def kr(w:List Bool)(h:Li)(a d:Int): Nat:=(((List.range (d-a).toNat).map λ(i:Nat)=>a+(i:Int)).filter λd=>bL w h d).length
def JI(w:List Bool)(h:Li)(a n:Int): Prop:=uJ w h/\-1000000000<=a/\a<=1000000000/\-100000000<=n/\n<=100000000
def lI(a n d:Int): Prop:=a<=d/\(d<=a+n\/d=a)
def uB(w:List Bool)(h:Li)(d:Int): Option Int:=(iD w h d 60).head?
def ic(w:List Bool)(h:Li)(d:Int): Int:=(uB w h d).getD 0
def ib(w:List Bool)(h:Li)(d:Int): Int:=if(uB w h d).isSome then 0 else 20
def P6(z:Int)(w:List Bool)(h:Li)(d:Int): Prop:=ax z w h=true/\bT d=true
def isZ(k:Nat): Prop:=k=0
theorem WY(z:Int)(w:List Bool)(h:Li)(a n:Int)(b:
 let c1:=Ty.bool.sl.pair (Ty.int .i64).sl;true/\(Dk w=7->Dk w=7/\1=1/\0=0/\a=a/\n=n/\1=1/\0=0/\AV.fn 265 [AV.ia Ty.bool w,AV.ip ((Ty.int IntKind.i64).pair c1) (z,w,h)]=AV.fn 265 [AV.ia Ty.bool w,AV.ip ((Ty.int .i64).pair c1) (z,w,h)]/\True)):
  evF (mkc KT4) az 164 [cal z w h,.dat I a,.dat I n] [] ⟨Dk w=7,.fn 222 [.ip I a,.ip I n,.ipv (.fn 265 [.ia .bool w,.ip C (z,w,h)])],[]⟩:=oE b
def aBT(w:List Bool)(h:Li)(a n:Int): Gu:=⟨λid y=>match id with
 | 1=>some {α:=Int,inv:=λd=>lI a n d,st:=λd=>⟨put y.s [(5,.dat I d)],kr w h a d,true⟩,μ:=λd=>Dc (Dh (Dq a n) d)}
 | _=>none,λ_ _=>none,λid=>id==3⟩
theorem QS(z a n:Int)(w w':List Bool)(h:Li)(e:
 let c1:=(z,w',h);let c2:=iD w h a n;let c3:=Dk c2;true/\true/\true/\false=false/\∀(l:Nat),JI w h a n->(∃x,lI a n x/\(l=l/\a=a/\n=n/\w=w/\c1=c1/\a=x/\a=a/\True)/\0=kr w h a x/\true)/\∀(x:Int),let c4:=Dp x (a+n);let c5:=kr w h a x;let c6:=c5+1;let c7:=x+1;let f:=Ea (bL w h x) (Di false) false;lI a n x->inR .i64 (a+n)/\(c4->(uJ w h/\nN x)/\(bL w h x->(bL w h x->bL w h x)/\(bL w h x->bL w h x)/\l=l/\true/\lC c2 c5 x/\∀(b:Bool),let c9:=Ea (bL w h x) (Di b) false;(Dj true (bL w h x)->bL w h x)/\(c9->b->c6=c3)/\(c9=false->inR IntKind.i64 c7/\∃y,lI a n y/\((l=l/\a=a/\n=n/\w=w/\c1=c1/\c7=y/\a=a/\True)/\c6=kr w h a y/\b)/\Dc ((a+n)-y)<Dc ((a+n)-x)))/\(bL w h x=false->(bL w h x->bL w h x->bL w h x)/\(Dj true (bL w h x)->bL w h x)/\(f->true->c5=c3)/\(f=false->inR .i64 c7/\∃y,lI a n y/\((l=l/\a=a/\n=n/\w=w/\c1=c1/\c7=y/\a=a/\True)/\c5=kr w h a y/\true)/\Dc ((a+n)-y)<Dc ((a+n)-x))))/\(c4=false->true->c5=c3)):
  evI (mkc KT4) (aBT w h a n) 222 [.ip I a,.ip I n,.ipv (.fn 265 [.ia .bool w,.ip C (z,w',h)])] ⟨JI w h a n,I,iD w h a n⟩:=oE e
def KR1: Kt:=kOr 164 (aw [.row C,.val I,.val I] (λ(c,_,_,_)=>Dk c.2.1=7) λ(c,a,n,_)=>.fn 222 [.ip I a,.ip I n,.ipv (.fn 265 [.ia .bool c.2.1,.ip C c])]) KT4
def aE1: FuncId->List AV->Option iV:=λf caps=>match f,caps with
 | 222,[.ip (.int .i64) a,.ip (.int .i64) n,.ipv (.fn 265 [.ia .bool w,.ip (.pair (.int .i64) (.pair (.sl .bool) (.sl (.int .i64)))) c])]=>some ⟨JI w c.2.2 a n,I,iD w c.2.2 a n⟩
 | _,_=>none
def flat(s:St): St:={s with tm:=s.tm.map aAp}
def aEj: Ann:=⟨λid s=>match id with
 | 4=>some {α:=Nat,inv:=λk=>isZ k,st:=λ_=>flat s,μ:=λk=>k}
 | _=>none,λ_ _=>none,λ_ _=>none⟩
noncomputable def aCK(K:Kt): Cfg:=⟨Tryz.prog,G0,K,λ_=>false,aE1,true,λ_ _ _=>none,λ_=>false⟩
theorem WJ(z:Int)(w:List Bool)(h:Li)(d:Int)(b:
 let c1:=Di (ax z w h);let c2:=Di c1;let c3:=Ea c1 true (Di (bT d));let c4:=(z,w,h);let c5:=iD w h d 60;true/\(P6 z w h d->True/\(c2->c2->c2)/\(c2->True)/\(c2->c2->c2)/\(Dj true c2->c2)/\(c3->1=1/\0=0/\1=1/\0=0/\1=1/\0=0/\1=1/\0=0/\0=ic w h d/\1=ib w h d/\True)/\(c3=false->Dk w=7/\JI w h d 60/\(∃x,isZ x/\x=0/\z=z/\w=w/\h=h/\d=d/\c4=c4/\1=1/\0=0/\0=0/\1=1/\0=0/\0=0/\z=z/\w=w/\h=h/\ax z w h=ax z w h/\c1=c1/\c1=c1/\c3=c3/\z=z/\w=w/\h=h/\d=d/\d=d/\(60:Int)=(60:Int)/\w=w/\c4=c4/\(0:Int)=(0:Int)/\(0:Int)=(0:Int)/\True)/\(∀(x:Nat) (y:Int),isZ x->lC c5 x y->1=1/\0=0/\1=1/\0=0/\1=1/\0=0/\1=1/\0=0/\y=ic w h d/\0=ib w h d/\True)/\∀(x:Nat),isZ x->x=Dk c5->1=1/\0=0/\1=1/\0=0/\1=1/\0=0/\1=1/\0=0/\0=ic w h d/\20=ib w h d/\True))):
  evF (aCK KR1) aEj 160 [cal z w h,.dat I d] [] ⟨P6 z w h d,.tup [.dat I (ic w h d),.dat I (ib w h d)],[]⟩:=oE b
theorem aBf(z:Int)(w:List Bool)(h:Li)(a n:Int): af Tryz.prog G0 164 [cal z w h,.dat I a,.dat I n] [] ⟨Dk w=7,.fn 222 [.ip I a,.ip I n,.ipv (.fn 265 [.ia .bool w,.ip C (z,w,h)])],[]⟩:=by
 refine ae (c:=mkc KT4) aCg aK hm (WY z w h a n ⟨rfl,λhw=>?_⟩);exact⟨hw,rfl,rfl,rfl,rfl,rfl,rfl,rfl,trivial⟩
theorem aEL: aj Tryz.prog G0 KR1:=ai (ag λ((z,w,h),a,n,_)=>aBf z w h a n) aCg
theorem Oz{α:Type}{f:Nat->α}{p:α->Bool}{k:Nat}(g:p (f k)=true): ∀N:Nat,k<N->(((List.range N).map f).filter p)[(((List.range k).map f).filter p).length]?=some (f k)
 | 0,h=>by omega
 | N+1,h=>by
  rw[zU,yU,yV];rcases zD k N with i | i
  .have b:=Oz g N i;rw[vM (qG.1 b).1];exact b
  .have e:N=k:=by omega
   subst e;rw[qX (qJ _),qCc];simp[g]
theorem Pg{w:List Bool}{h:Li}{a n x:Int}(g:a<=x)(b:x<a+n)(hw:bL w h x=true): lC (iD w h a n) (kr w h a x) x:=by
 have e:a+((x-a).toNat:Int)=x:=by omega
 have:=Oz (f:=λ(i:Nat)=>a+(i:Int)) (p:=λd=>bL w h d) (k:=(x-a).toNat) (by simp only[e];exact hw) n.toNat (by omega);simp only[e]at this;exact this
theorem rA{w:List Bool}{h:Li}{a x:Int}(b:a<=x): kr w h a (x+1)=kr w h a x+(if bL w h x then 1 else 0):=by
 unfold kr;rw[show(x+1-a).toNat=(x-a).toNat+1 by omega,zU,yU,yV,qF];have e:a+((x-a).toNat:Int)=x:=by omega
 congr 1
 simp only[zH,qCd,e,yG,qBk];split<;>simp_all
theorem H7(w:List Bool)(h:Li)(a:Int): kr w h a a=0:=by
 unfold kr;rw[show(a-a).toNat=0 by omega];rfl
theorem cnt_end{w:List Bool}{h:Li}{a n x:Int}(b:lI a n x)(e:¬x<a+n): kr w h a x=(iD w h a n).length:=by
 unfold kr iD;obtain⟨g,f⟩:=b;rw[show(x-a).toNat=n.toNat by omega]
theorem aBa (a n : Int) (w : List Bool) (c : C.den) : mA Tryz.prog G0 222 [.ip I a, .ip I n, .ipv (.fn 265 [.ia .bool w, .ip C c])] ⟨JI w c.2.2 a n, I, iD w c.2.2 a n⟩ := by
  obtain ⟨z, w', h⟩ := c
  refine jr (c := mkc KT4) (A := aBT w h a n) aCg aK hm ?_
  refine QS z a n w w' h ⟨rfl, rfl, rfl, rfl, fun l ⟨hc, b1, b2, b3, b4⟩ => ?_⟩
  simp only [ql, iZ, Dj, Di, zQ, qAr, zS, vS, qBm, kW, yA, yD, xU, qBh, qAu, qAj, gG, kV, zK, kF, vX, xH, reduceCtorEq, qAh, kJ, Dp, Eh, Ed, Ei, Dh, Dq, Dw, Dc, Dk, Dx, Dz, qE, vY, kK, qAm]
  refine ⟨⟨a, ⟨qL _, .inr rfl⟩, rfl, (H7 w h a).symm⟩, fun x hx => ?_⟩
  have hx1 := hx.1
  have hx2 := hx.2
  refine ⟨⟨by omega, by omega⟩, fun hlt => ⟨⟨hc, by omega, by omega⟩, fun hw => ?_, fun hw => ?_⟩, fun hge => cnt_end hx hge⟩
  · simp only [hw, ql, iZ, Dj, Di, zQ, qAr, zS, vS, qBm, kW, yA, yD, xU, qBh, qAu, qAj, gG, kV, zK, kF, vX, xH, reduceCtorEq, qAh, kJ, Dp, Eh, Ed, Ei, Dh, Dq, Dw, Dc, Dk, Dx, Dz, qE, vY, kK, qAm]
    refine ⟨Pg hx1 hlt hw, fun b => ⟨fun e1 e2 => (by rw [e1] at e2; cases e2), fun hb => ⟨⟨by omega, by omega⟩, x + 1, ⟨by omega, .inl (by omega)⟩, ⟨rfl, ?_, hb⟩, by omega⟩⟩⟩
    rw [rA hx1, hw]; rfl
  · simp only [hw, ql, iZ, Dj, Di, zQ, qAr, zS, vS, qBm, kW, yA, yD, xU, qBh, qAu, qAj, gG, kV, zK, kF, vX, xH, reduceCtorEq, qAh, kJ, Dp, Eh, Ed, Ei, Dh, Dq, Dw, Dc, Dk, Dx, Dz, qE, vY, kK, qAm]
    refine ⟨⟨by omega, by omega⟩, x + 1, ⟨by omega, .inl (by omega)⟩, ⟨rfl, ?_⟩, by omega⟩
    rw [rA hx1, hw]; rfl
theorem aCt: bm Tryz.prog G0 aE1:=by
 intro f caps c h;unfold aE1 at h;split at h
 .cases h;exact aBa _ _ _ _
 .cases h
theorem okd{d:Int}(hd:bT d=true): -1000000<=d/\d<=1000000:=by
 unfold bT at hd;exact vO hd
theorem aA8 (z : Int) (w : List Bool) (h : Li) (d : Int) : af Tryz.prog G0 160 [cal z w h, .dat I d] [] ⟨P6 z w h d, .tup [.dat I (ic w h d), .dat I (ib w h d)], []⟩ := by
  refine ae (c := aCK KR1) aEL aCt hm (WJ z w h d ⟨rfl, fun ⟨hv, hd⟩ => ?_⟩)
  have hc := zm hv
  have hd' := okd hd
  simp only [hv, hd, ql, iZ, Dj, Di, zQ, qAr, zS, vS, qBm, kW, yA, yD, xU, qBh, qAu, qAj, gG, kV, zK, kF, vX, xH, reduceCtorEq, qAh, kJ, Dp, Eh, Ed, Ei, Dh, Dq, Dw, Dc, Dk, Dx, Dz, qE, vY, kK, qAm]
  refine ⟨hc.1, ⟨hc, by omega, by omega, by omega, by omega⟩, ⟨0, rfl, rfl⟩, fun x y hx hy => ?_, fun x hx hl => ?_⟩
  · have hx : x = 0 := hx
    subst hx
    have : uB w h d = some y := by
      have hy : (iD w h d 60)[0]? = some y := hy
      unfold uB
      rw [List.head?_eq_getElem?]; exact hy
    simp [ic, ib, this]
  · have hx : x = 0 := hx
    subst hx
    have : uB w h d = none := by
      unfold uB
      rw [vP hl.symm]; rfl
    simp [ic, ib, this]
theorem By{w:List Bool}{h:Li}{a n y:Int}(b:y∈iD w h a n): a<=y/\y<a+n/\bL w h y=true:=by
 unfold iD at b;obtain⟨f,e⟩:=zV.1 b;obtain⟨i,hi,rfl⟩:=wS.1 f;have:=vF.1 hi;exact⟨by omega,by omega,e⟩
end Go.Eng.Sv
