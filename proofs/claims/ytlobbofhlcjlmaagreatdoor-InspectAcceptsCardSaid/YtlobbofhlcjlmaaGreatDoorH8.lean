/- The engine, part 8: append. -/
import Derived.Test.YtlobbofhlcjlmaaGreatDoorH7
set_option linter.unusedSimpArgs false
set_option linter.unusedVariables false
namespace Go.Eng
open Go.RowKit
def aQm (ty:Ty):RV→Option (List Prop×List ty.den)
 | (.dat (.sl ty') ys,_)=>if h:ty'=ty then some ([],h ▸ ys) else none
 | (.buf _ n,some (.buf _ ty' ys []))=>if h:ty'=ty then some ([ys.length=n],h ▸ ys) else none
 | (.val (.slice none 0 0),_)=>some ([],[])
 | _=>none
theorem qE {w:World} {D:Nat→Prop} {ty:Ty} {b:Nat}:∀ (ys:List ty.den) (off:Nat),
  (∀ (i:Nat) (y:ty.den),ys[i]?=some y→∃ ue,gU w b (off + i * ty.sz) ue∧aF w D ty y ue) →
  ∃ news:List Value,news.length=ys.length * ty.sz∧gU w b off news∧(∀ u ∈ news,u.oneCell'=true) ∧
   ∀ (i:Nat) (y:ty.den),ys[i]?=some y→aF w D ty y ((news.drop (i * ty.sz)).take ty.sz)
 | [],_,_=>⟨[],by simp,fun j u hj=>by simp at hj,fun u hu=>by simp at hu,fun i y hy=>by simp at hy⟩
 | y :: ys,off,h=>by
  obtain ⟨ue,g1,g2⟩:=h 0 y rfl
  have hl:=bG g2
  obtain ⟨news,n1,n2,n3,n4⟩:=qE ys (off + ty.sz) (fun i z hz=>by
   obtain ⟨ue',q1,q2⟩:=h (i + 1) z (by simpa using hz)
   refine ⟨ue',?_,q2⟩
   rw [show off + ty.sz + i * ty.sz=off + (i + 1) * ty.sz by rw [Nat.add_mul,Nat.one_mul];omega]
   exact q1)
  refine ⟨ue ++ news,by rw [List.length_append,n1,hl,List.length_cons,Nat.add_mul,Nat.one_mul];omega,?_,?_,?_⟩
  ·intro j u hj
   rcases Nat.lt_or_ge j ty.sz with hlt | hge
   ·rw [List.getElem?_append_left (by omega)] at hj
    have:=g1 j u hj
    simpa using this
   ·rw [List.getElem?_append_right (by omega)] at hj
    have:=n2 (j - ue.length) u hj
    rw [show off + ty.sz + (j - ue.length)=off + j by omega] at this
    exact this
  ·intro u hu
   rcases List.mem_append.1 hu with g | g
   ·exact jV g2 u g
   ·exact n3 u g
  ·intro i z hz
   cases i with
   | zero =>
    simp at hz;subst hz
    rw [Nat.zero_mul,List.drop_zero,List.take_append_of_le_length (by omega),List.take_of_length_le (by omega)]
    exact g2
   | succ i =>
    rw [show (i + 1) * ty.sz=ue.length + i * ty.sz by rw [Nat.add_mul,Nat.one_mul,hl];omega,← List.drop_drop,List.drop_left]
    exact n4 i z (by simpa using hz)
theorem aAb {P:Program} {C:Ctx} {t:Ty} {xs:List t.den} {raw:List Value} (hl:raw.length=xs.length * t.sz) (h:dV P C t xs [] raw):∀ u ∈ raw,u.oneCell'=true:=by
 intro u hu
 obtain ⟨j,hj⟩:=List.mem_iff_getElem?.1 hu
 have hjl:=(List.getElem?_eq_some_iff.1 hj).1
 have hp:=Ty.sz_pos t
 have hq:j / t.sz < xs.length:=(Nat.div_lt_iff_lt_mul hp).2 (by omega)
 have hr:j % t.sz < t.sz:=Nat.mod_lt _ hp
 have:=h (j / t.sz) _ (List.getElem?_eq_getElem hq)
 simp only [List.lookup] at this
 refine jV this u (List.mem_iff_getElem?.2 ⟨j % t.sz,?_⟩)
 rw [List.getElem?_take,if_pos hr,List.getElem?_drop,Nat.mul_comm,Nat.div_add_mod];exact hj
theorem aFV {S:Base} {σ:Sig} {a:Act} {w:World} {D:Nat→Prop} {E:Nat→Ent} (h:aZ S σ a w D E) {ty:Ty} {x:RV} {ns:List Prop} {ys:List ty.den} {v:Value}
  (hb:x.2=fD σ.m x.1) (hc:aQm ty x=some (ns,ys)) (hn:∀ q ∈ ns,q) (hx:x.1.rel S.P ⟨w,D,σ.m,E⟩ v) :
  (v=.slice none 0 0∧ys=[])∨∃ (ad:Addr) (c:Nat) (news:List Value),v=.slice (some ad) ys.length c∧news.length=ys.length * ty.sz ∧
   (∀ j u,news[j]?=some u→w.cell? (ad.add j)=some u)∧(∀ u ∈ news,u.oneCell'=true) ∧
   ∀ (i:Nat) (y:ty.den),ys[i]?=some y→aF w D ty y ((news.drop (i * ty.sz)).take ty.sz):=by
 unfold aQm at hc
 split at hc
 ·rename_i ty' ys' b2
  split at hc
  ·rename_i ht
   subst ht
   cases hc
   obtain ⟨ys,rfl⟩:∃ j:List ty'.den,j=ys':=⟨ys',rfl⟩
   obtain ⟨ao,cap,g1,g2,g3,g4,g5⟩:=hx
   simp only [List.cons.injEq,and_true] at g1
   subst g1
   cases ao with
   | none =>
    have hc0:=g3 rfl
    have hys:ys=[]:=List.eq_nil_of_length_eq_zero (by omega)
    subst hys;subst hc0
    exact .inl ⟨rfl,rfl⟩
   | some ad =>
    obtain ⟨news,n1,n2,n3,n4⟩:=qE (w:=w) (D:=D) (b:=ad.block) ys ad.off (fun i y hy=>by
     obtain ⟨a',ue,e,r1,r2,r3⟩:=g5 i y hy
     cases e
     exact ⟨ue,r2,r3⟩)
    refine .inr ⟨ad,cap,news,rfl,n1,fun j u hj=>?_,n3,n4⟩
    have hjn:=(List.getElem?_eq_some_iff.1 hj).1
    have hsp:=g4 ad rfl (by
     rcases Nat.eq_zero_or_pos (List.length ys) with h0 | h0
     ·rw [n1,show List.length ys=0 from h0,Nat.zero_mul] at hjn;omega
     ·exact h0)
    have:ad.add j=⟨ad.block,ad.off + j,none⟩:=by
     cases ad with | mk b o s=>simp only at hsp;subst hsp;exact Addr.add_mid b o _
    rw [this];exact n2 j u hj
  ·cases hc
 ·rename_i nm n el ty' ys'
  split at hc
  ·rename_i ht
   subst ht
   cases hc
   obtain ⟨ys,rfl⟩:∃ j:List ty'.den,j=ys':=⟨ys',rfl⟩
   have hm:σ.m nm=some (.buf el ty' ys []):=hb.symm
   have hlen:ys.length=n:=hn _ (by simp)
   have hv:=(hx _ hm).2 hlen
   obtain ⟨raw,r1,r2⟩:=h.bl nm _ hm
   rw [← hlen] at hv
   cases hnil:(E nm).isNil with
   | true =>
    have e3:(E nm).handle ys.length=.slice none 0 0:=by unfold Ent.handle;rw [hnil];rfl
    rw [e3] at r1
    rcases r1.2 with ⟨_,hz⟩ | ⟨g,cap,cur,hq,_⟩
    ·exact .inl ⟨hv.trans e3,List.eq_nil_of_length_eq_zero hz⟩
    ·cases hq
   | false =>
    have e3:(E nm).handle ys.length=.slice (some ⟨(E nm).b,0,none⟩) ys.length (E nm).cap:=by unfold Ent.handle;rw [hnil];rfl
    rw [e3] at r1
    exact .inr ⟨⟨(E nm).b,0,none⟩,(E nm).cap,raw,hv.trans e3,r1.1,r1.cells rfl,aAb r1.1 r2,fun i y hy=>by have:=r2 i y hy;simpa only [List.lookup] using this⟩
  ·cases hc
 ·cases hc
  simp only [AV.rel] at hx
  exact .inl ⟨hx,rfl⟩
 ·cases hc
def qO (n bytes:Nat):List Prop:=[n * bytes≤140737488355328,n≤9223372036854775807]
def aVz (P:Program) (nx:Nat) (t:TypeId) (s x:RV):Option Core :=
 match gZ P t with
 | some e=>match s with
  | (.buf nm n,some (.buf el ty xs []))=>if el=e then match aQm ty x,aAS P e ty with
   | some (ns,ys),some bytes=>some { need:=[xs.length=n] ++ ns ++ qO (n + ys.length) bytes,val:=.buf nm (n + ys.length),upd:=[(nm,.buf el ty (D.app xs ys) [])] }
   | _,_=>none
   else none
  | (.val (.slice none 0 0),_)=>match aJa P e with
   | some ty=>match aQm ty x,aAS P e ty with
    | some (ns,ys),some bytes=>some { need:=ns ++ qO ys.length bytes,val:=.buf nx ys.length,upd:=[(nx,.buf e ty ys [])],new:=some nx }
    | _,_=>none
   | none=>none
  | _=>none
 | none=>none
theorem aBe {P:Program} {C:Ctx} {t:Ty} {xs ys:List t.den} {raw news:List Value} (hl:raw.length=xs.length * t.sz) (h:dV P C t xs [] raw)
  (hy:∀ (i:Nat) (y:t.den),ys[i]?=some y→aF C.w C.D t y ((news.drop (i * t.sz)).take t.sz)):dV P C t (xs ++ ys) [] (raw ++ news):=by
 intro i y hiy
 simp only [List.lookup]
 rcases Nat.lt_or_ge i xs.length with hlt | hge
 ·rw [List.getElem?_append_left hlt] at hiy
  have:=h i y hiy
  simp only [List.lookup] at this
  have hm:i * t.sz + t.sz≤raw.length:=by
   have:=Nat.mul_le_mul_right t.sz (show i + 1≤xs.length from hlt)
   rw [Nat.add_mul,Nat.one_mul] at this;omega
  rw [List.drop_append_of_le_length (by omega),List.take_append_of_le_length (by rw [List.length_drop];omega)]
  exact this
 ·rw [List.getElem?_append_right hge] at hiy
  have:=hy _ y hiy
  rw [Nat.sub_mul,← hl] at this
  have hm:raw.length≤i * t.sz:=by rw [hl];exact Nat.mul_le_mul_right _ hge
  rw [List.drop_append,List.drop_of_length_le hm,List.nil_append]
  exact this
theorem rM {P:Program} {w:World} {t ty e:TypeId} {i:TypeInfo} (ht:P.underlying t=some (.slice e)) (hi:P.info? e=some i) (base:Option Addr) (n cap:Nat) (hn:n≤cap) (ad:Addr) (c:Nat) :
  (Builtin.append_ #[t,t] ty #[.slice base n cap,.slice (some ad) 0 c]).run P w=.ok (.slice base n cap) w:=by
 cases base <;> simp [Builtin.append_,run_underlying ht,sizeOf,typeInfo,hi,Builtin.lenOf,Builtin.firstCells,hn,loadCells,loadCellsFrom,storeCells]
theorem aRs {S:Base} {σ:Sig} {a:Act} {w:World} {D:Nat→Prop} {E:Nat→Ent} (h:aZ S σ a w D E) {nx:Nat} {t oty:TypeId} {s x:RV} {c:Core} {vs vx:Value}
  (hbs:s.2=fD σ.m s.1) (hbx:x.2=fD σ.m x.1) (hc:aVz S.P nx t s x=some c) (hn:∀ q ∈ c.need,q)
  (hs:s.1.rel S.P ⟨w,D,σ.m,E⟩ vs) (hx:x.1.rel S.P ⟨w,D,σ.m,E⟩ vx) (hu:∀ k,c.new=some k→Unm k σ) :
  ∃ r w',(Builtin.append_ #[t,t] oty #[vs,vx]).run S.P w=.ok r w'∧Outcome S ⟨σ.T,upM σ.m c.upd,σ.sv⟩ a c.val r w':=by
 unfold aVz at hc
 split at hc
 case h_2=>cases hc
 rename_i e he
 have hue:=eH he
 split at hc
 ·rename_i nm n el ty xs
  split at hc
  case isFalse=>cases hc
  rename_i hel
  subst hel
  split at hc
  case h_2=>cases hc
  rename_i ns ys bytes hsrc hz
  cases hc
  obtain ⟨i,z,hi,hz1,hz2,hz3,hz4⟩:=lY hz
  have hzs:z.cells.size=ty.sz:=by rw [← Array.length_toList,hz4,bJ]
  have hm:σ.m nm=some (.buf el ty xs []):=hbs.symm
  have hlen:xs.length=n:=hn _ (by simp)
  have hb1:(n + ys.length) * bytes≤140737488355328:=hn _ (by simp only [qO,List.mem_append];exact .inr (.head _))
  have hb2:n + ys.length≤9223372036854775807:=hn _ (by simp only [qO,List.mem_append];exact .inr (.tail _ (.head _)))
  have hv:=(hs _ hm).2 hlen
  obtain ⟨raw,r1,r2⟩:=h.bl nm _ hm
  rw [hlen] at r1
  -- the end, wherever the buffer lies
  have fin:∀ (w':World) (v':Value) (e':Ent) (raw':List Value),v'=e'.handle (n + ys.length) →
    (ys.length=0→e'=E nm)→w'.os=w.os→w'.tape=w.tape→w'.output=w.output→w.heap.size≤w'.heap.size →
    (∀ k,k < w.heap.size→((E nm).isNil=false→k≠(E nm).b)→w'.heap[k]?=w.heap[k]?) →
    (e'.isNil=false→(e'.b=w.heap.size∧w.heap.size < w'.heap.size)∨((E nm).isNil=false∧e'.b=(E nm).b)) →
    w'.ownsRow 0 el ty.sz v' (n + ys.length) (raw ++ raw') →
    (∀ (i:Nat) (y:ty.den),ys[i]?=some y→aF w D ty y ((raw'.drop (i * ty.sz)).take ty.sz)) →
    Outcome S ⟨σ.T,upM σ.m [(nm,.buf el ty (xs ++ ys) [])],σ.sv⟩ a (.buf nm (n + ys.length)) v' w':=by
   intro w' v' e' raw' hv' hsame ho ht2 hout hsz hw hee hown hel
   have hl2:(xs ++ ys).length=n + ys.length:=by rw [List.length_append,hlen]
   have hesame:(Blk.buf el ty xs []).len=(Blk.buf el ty (xs ++ ys) []).len→e'=E nm:=fun h0=>hsame (by simp only [Blk.len,List.length_append] at h0;omega)
   have hle:(Blk.buf el ty xs []).len≤(Blk.buf el ty (xs ++ ys) []).len:=by simp only [Blk.len,List.length_append];omega
   obtain ⟨L,N⟩:=h.turnLater (w':=w') (b:=.buf el ty (xs ++ ys) []) hm (e:=e') rfl hle hesame hw
   refine ⟨D,upE E nm e',h.turnBlk hm rfl hle hesame ho ht2 hout hsz hw hee ⟨raw ++ raw',by rw [hl2,← hv'];exact hown,?_⟩,fun b hb=>?_⟩
   ·exact aBe (by rw [r1.1,hlen]) (bT L (fun k hk=>N k) r2) (fun i y hy=>aH L.D L.w (hel i y hy))
   ·replace hb:upM σ.m [(nm,.buf el ty (xs ++ ys) [])] nm=some b:=hb
    rw [gB,if_pos rfl] at hb
    cases hb
    refine ⟨by simp only [Blk.len];omega,fun _=>?_⟩
    have:upE E nm e' nm=e':=by simp [upE]
    show v'=(upE E nm e' nm).handle _
    rw [this];exact hv'
  rcases aFV h hbx hsrc (fun q hq=>hn q (by simp [hq])) hx with ⟨rfl,rfl⟩ | ⟨ad,cx,news,rfl,n1,n2,n3,n4⟩
  ·refine ⟨vs,w,?_,?_⟩
   ·rw [hv];exact run_append_owned_none (P:=S.P) w 0 t oty el i ty.sz hue hi _ n raw r1
   ·exact fin w vs (E nm) [] (by simpa using hv) (fun _=>rfl) rfl rfl rfl (Nat.le_refl _) (fun _ _ _=>rfl) (fun hi=>.inr ⟨hi,rfl⟩) (by rw [hv];simpa using r1) (fun i y hy=>by simp at hy)
  ·by_cases hy0:ys.length=0
   ·have hys:ys=[]:=List.eq_nil_of_length_eq_zero hy0
    subst hys
    have hvs:∃ b n' cap,vs=.slice b n' cap∧n'≤cap∧n'=n:=by
     rw [hv];rcases r1.2 with ⟨hq,hz⟩ | ⟨g,cap,cur,hq,_,_,hle,_⟩
     ·exact ⟨none,0,0,hq,Nat.le_refl _,hz.symm⟩
     ·exact ⟨_,_,_,hq,hle,rfl⟩
    obtain ⟨b,n',cap,hvv,hle,_⟩:=hvs
    refine ⟨vs,w,?_,?_⟩
    ·rw [hvv];exact rM hue hi b n' cap hle ad cx
    ·exact fin w vs (E nm) [] (by simpa using hv) (fun _=>rfl) rfl rfl rfl (Nat.le_refl _) (fun _ _ _=>rfl) (fun hi=>.inr ⟨hi,rfl⟩) (by rw [hv];simpa using r1) (fun i y hy=>by simp at hy)
   ·have h63:n + ys.length≤maxLen:=by unfold maxLen;omega
    obtain ⟨v',w',q1,q2,q3,_⟩:=run_append_own (P:=S.P) w 0 t oty el i z ty.sz bytes hue hi hz1 hz2 hz3 hzs (Ty.sz_pos ty) _ n raw r1 ad ys.length cx news n1 n2 n3 h63 hb1 (Nat.zero_le _)
    cases hnil:(E nm).isNil with
    | true =>
     have e3:(E nm).handle n=.slice none 0 0:=by unfold Ent.handle;rw [hnil];rfl
     have hn0:n=0:=by
      rw [e3] at r1
      rcases r1.2 with ⟨_,hz⟩ | ⟨g,cap,cur,hq,_⟩
      ·exact hz
      ·cases hq
     subst hn0
     have hr:=run_append_nil (P:=S.P) w t oty el i z hue hi hz1 ad ys.length cx news (by rw [hz2];exact n1) n2 (by omega) (by omega) (by rw [hz3];rw [Nat.zero_add] at hb1;omega)
     rw [e3] at q1 q3
     rw [hr] at q1
     cases q1
     refine ⟨_,_,by rw [hv,e3];exact hr,fin _ _ ⟨w.heap.size,grownCap w ys.length 0 el,false,noR⟩ news (by simp [Ent.handle]) (fun h0=>(hy0 h0).elim) q3.os q3.tape q3.output q3.size
      (fun k hk _=>q3.block k hk (by simp [Value.ownBlock])) (fun _=>.inl ⟨rfl,by rw [World.size_alloc];simp⟩) q2 n4⟩
    | false =>
     have e3:(E nm).handle n=.slice (some ⟨(E nm).b,0,none⟩) n (E nm).cap:=by unfold Ent.handle;rw [hnil];rfl
     rw [e3] at r1 q1 q3
     have hblk:∀ k,k < w.heap.size→((E nm).isNil=false→k≠(E nm).b)→w'.heap[k]?=w.heap[k]?:=fun k hk hne=>q3.block k hk (by simp [Value.ownBlock];exact hne hnil)
     by_cases hroom:n + ys.length≤(E nm).cap
     ·obtain ⟨w2,p1,p2,p3⟩:=run_append_fits (P:=S.P) w 0 t oty el i ty.sz hue hi hz2 (E nm).b n (E nm).cap raw r1 ad ys.length cx news n1 n2 n3 hroom
      rw [p1] at q1
      cases q1
      exact ⟨_,_,by rw [hv,e3];exact p1,fin _ _ (E nm) news (by unfold Ent.handle;rw [hnil];rfl) (fun _=>rfl) q3.os q3.tape q3.output q3.size hblk (fun hi=>.inr ⟨hi,rfl⟩) q2 n4⟩
     ·have hr:=run_append_grow (P:=S.P) w t oty el i z hue hi hz1 ⟨(E nm).b,0,none⟩ n (E nm).cap raw (by rw [hz2];exact r1.1) (r1.cells rfl) ad ys.length cx news (by rw [hz2];exact n1) n2 (by omega) (by omega)
       (growslice_fits (by omega) (by rw [hz3];exact hb1))
      rw [hr] at q1
      cases q1
      refine ⟨_,_,by rw [hv,e3];exact hr,fin _ _ ⟨w.heap.size,grownCap w (n + ys.length) (E nm).cap el,false,noR⟩ news (by simp [Ent.handle]) (fun h0=>(hy0 h0).elim) q3.os q3.tape q3.output q3.size hblk
       (fun _=>.inl ⟨rfl,by rw [World.size_alloc];simp⟩) q2 n4⟩
 ·rename_i b2
  split at hc
  case h_2=>cases hc
  rename_i ty hty
  split at hc
  case h_2=>cases hc
  rename_i ns ys bytes hsrc hz
  cases hc
  obtain ⟨i,z,hi,hz1,hz2,hz3,hz4⟩:=lY hz
  have hzs:z.cells.size=ty.sz:=by rw [← Array.length_toList,hz4,bJ]
  have hb1:ys.length * bytes≤140737488355328:=hn _ (by simp only [qO,List.mem_append];exact .inr (.head _))
  have hb2:ys.length≤9223372036854775807:=hn _ (by simp only [qO,List.mem_append];exact .inr (.tail _ (.head _)))
  simp only [AV.rel] at hs
  subst hs
  -- nil goes on as an empty buffer
  have asNil:∀ r,r=Value.slice none 0 0→ys=[]→Outcome S ⟨σ.T,upM σ.m [(nx,.buf e ty ys [])],σ.sv⟩ a (.buf nx ys.length) r w:=by
   intro r hr hy
   subst hr hy
   have e3:upE E nx (⟨0,0,true,noR⟩:Ent) nx=⟨0,0,true,noR⟩:=by simp [upE]
   refine ⟨D,upE E nx ⟨0,0,true,noR⟩,h.newBlk (hu nx rfl) (Below.refl _ _) (fun h=>by cases h) ⟨[],World.ownsRow_nil _ _ _ _,fun i y hy=>by simp at hy⟩,fun b hb=>?_⟩
   replace hb:upM σ.m [(nx,.buf e ty [] [])] nx=some b:=hb
   rw [gB,if_pos rfl] at hb
   cases hb
   refine ⟨Nat.le_refl _,fun _=>?_⟩
   show _=(upE E nx _ nx).handle _
   rw [e3];rfl
  rcases aFV h hbx hsrc (fun q hq=>hn q (by simp [hq])) hx with ⟨rfl,hy⟩ | ⟨ad,cx,news,rfl,n1,n2,n3,n4⟩
  ·exact ⟨_,w,run_append_owned_none (P:=S.P) w 0 t oty e i ty.sz hue hi _ 0 [] (World.ownsRow_nil _ _ _ _),asNil _ rfl hy⟩
  ·by_cases hy0:ys.length=0
   ·have hys:ys=[]:=List.eq_nil_of_length_eq_zero hy0
    refine ⟨_,w,?_,asNil _ rfl hys⟩
    rw [hy0]
    exact rM hue hi none 0 0 (Nat.le_refl _) ad cx
   ·have hr:=run_append_nil (P:=S.P) w t oty e i z hue hi hz1 ad ys.length cx news (by rw [hz2];exact n1) n2 (by omega) (by omega) (by rw [hz3];omega)
    obtain ⟨v',w',q1,q2,q3,_⟩:=run_append_own (P:=S.P) w 0 t oty e i z ty.sz bytes hue hi hz1 hz2 hz3 hzs (Ty.sz_pos ty) _ 0 [] (World.ownsRow_nil _ _ _ _) ad ys.length cx news n1 n2 n3 (by unfold maxLen;omega) (by rw [Nat.zero_add];exact hb1) (Nat.zero_le _)
    rw [hr] at q1
    cases q1
    refine ⟨_,_,hr,aHo h (hu nx rfl) ⟨q3.os,q3.tape,q3.output,q3.size,fun k hk=>q3.block k hk (by simp [Value.ownBlock])⟩ (by rw [World.size_alloc];simp) (by simpa using q2) (by simpa using n4)⟩
 ·cases hc
end Go.Eng
