/- The engine, part 8d: array values, selections, strings as bytes, == on structs. -/
import Derived.Test.YtlobbofhlcjlmaaGreatDoorH8c
import Derived.Laws.StructEq
import Derived.Lib.ConvBytes
set_option linter.unusedSimpArgs false
set_option linter.unusedVariables false
namespace Go.Eng
open Go.RowKit
def aAr (P:Program) (t:TypeId) (ty:Ty):Option Nat:=match P.underlying t with
 | some (.array _ _)=>match sizeT P t with
  | some k=>if k=k / ty.sz * ty.sz then some (k / ty.sz) else none
  | none=>none
 | _=>none
theorem vZ {P:Program} {t:TypeId} {ty:Ty} {n:Nat} (h:aAr P t ty=some n):(∃ m e,P.underlying t=some (.array m e))∧sizeT P t=some (n * ty.sz):=by
 unfold aAr at h
 split at h
 ·rename_i m e hu
  split at h
  ·rename_i k hk
   split at h
   ·rename_i hd
    cases h
    exact ⟨⟨m,e,hu⟩,hk.trans (congrArg some hd)⟩
   ·cases h
  ·cases h
 ·cases h
theorem aZ.bufCells {S:Base} {σ:Sig} {a:Act} {w:World} {D:Nat→Prop} {E:Nat→Ent} (h:aZ S σ a w D E) {nm:Nat} {el:TypeId} {t:Ty} {xs:List t.den} {ov:List (Nat×AV)}
  (hm:σ.m nm=some (.buf el t xs ov)) (hnil:(E nm).isNil=false):∃ raw,dV S.P ⟨w,D,σ.m,E⟩ t xs ov raw∧raw.length=xs.length * t.sz∧gU w (E nm).b 0 raw:=by
 obtain ⟨raw,r1,r2⟩:=h.bl nm _ hm
 have e3:(E nm).handle xs.length=.slice (some ⟨(E nm).b,0,none⟩) xs.length (E nm).cap:=by unfold Ent.handle;rw [hnil];rfl
 rw [e3] at r1
 refine ⟨raw,r2,r1.1,fun j u hj=>?_⟩
 have hlt:j < xs.length * t.sz:=by rw [← r1.1];exact (List.getElem?_eq_some_iff.1 hj).1
 show w.cell? ⟨(E nm).b,0 + j,none⟩=some u
 rw [Nat.zero_add,r1.cellAt j hlt];exact hj
theorem zZ {P:Program} {C:Ctx} {t:Ty} {xs:List t.den} {raw:List Value} (h:dV P C t xs [] raw) (hl:raw.length=xs.length * t.sz):aAa C.w C.D t xs raw :=
 ⟨hl,fun i y hy=>by have:=h i y hy;simpa only [List.lookup] using this⟩
theorem rV {P:Program} {C:Ctx} {t:Ty} {xs:List t.den} {raw:List Value} (h:aAa C.w C.D t xs raw):dV P C t xs [] raw :=
 fun i y hy=>by simp only [List.lookup];exact h.2 i y hy
theorem aIm {w:World} {D:Nat→Prop} {t:Ty} {xs:List t.den} {us:List Value} (h:aAa w D t xs us):∀ u ∈ us,u.oneCell'=true :=
 aAb (P:=default) (C:=⟨w,D,fun _=>none,fun _=>⟨0,0,true,noR⟩⟩) h.1 (rV h)
theorem aBb {w w':World} {D D':Nat→Prop} (hD:∀ b,D b→D' b) (hw:∀ b,D b→w'.heap[b]?=w.heap[b]?) {t:Ty} {xs:List t.den} {us:List Value} (h:aAa w D t xs us):aAa w' D' t xs us :=
 ⟨h.1,fun i y hy=>aH hD hw (h.2 i y hy)⟩
theorem aEB {w:World} {D:Nat→Prop} {t:Ty} {xs:List t.den} {b off n c:Nat} (h:aF w D (.sl t) xs [.slice (some ⟨b,off,none⟩) n c]):∃ us,aAa w D t xs us∧gU w b off us:=by
 obtain ⟨ao,cap,h1,_,_,_,h5⟩:=h
 simp only [List.cons.injEq,Value.slice.injEq,and_true] at h1
 obtain ⟨h1,_,_⟩:=h1
 obtain ⟨news,n1,n2,_,n4⟩:=qE (w:=w) (D:=D) (b:=b) xs off (fun i y hy=>by
  obtain ⟨a,ue,g1,_,g3,g4⟩:=h5 i y hy
  rw [← h1] at g1
  cases g1
  exact ⟨ue,g3,g4⟩)
 exact ⟨news,⟨n1,n4⟩,n2⟩
def aAJ (P:Program) (t:TypeId) (p:RV):Option Core:=match p with
 | (.ptr _ g i 0,some (.buf _ ty xs []))=>match aAr P t ty with
  | some n=>some { need:=[D.len xs=g,i=0,D.len xs=n],val:=.av ty xs }
  | none=>none
 | (.ia ty xs,_)=>match aAr P t ty with
  | some n=>some { need:=[D.len xs=n],val:=.av ty xs }
  | none=>none
 | _=>none
theorem aBy {S:Base} {σ:Sig} {a:Act} {w:World} {D:Nat→Prop} {E:Nat→Ent} (h:aZ S σ a w D E) {p:RV} {t:TypeId} {c:Core} {v:Value}
  (hb:p.2=fD σ.m p.1) (hc:aAJ S.P t p=some c) (hn:∀ q ∈ c.need,q) (hp:p.1.rel S.P ⟨w,D,σ.m,E⟩ v) :
  ∃ r,(Instr.loadAt t v).run S.P w=.ok r w∧c.val.rel S.P ⟨w,D,σ.m,E⟩ r∧c.upd=[]∧c.new=none:=by
 have fin:∀ {ty:Ty} {xs:List ty.den} {n:Nat} {b off:Nat} {us:List Value},aAr S.P t ty=some n→xs.length=n→aAa w D ty xs us→gU w b off us →
   (Instr.loadAt t (.pointer (some ⟨b,off,none⟩))).run S.P w=.ok (.agg us.toArray) w:=by
  intro ty xs n b off us h1 h2 h3 h4
  obtain ⟨⟨m,e,hu⟩,hs⟩:=vZ h1
  exact run_loadAt_mid (P:=S.P) w b off t us (.array m e) h4 hu rfl (by rw [h3.1,h2];exact hs)
 unfold aAJ at hc
 split at hc
 ·rename_i nm g i el ty xs
  split at hc
  ·rename_i n hn1
   cases hc
   have hm:σ.m nm=some (.buf el ty xs []):=hb.symm
   have e1:xs.length=g:=hn _ (by simp)
   have e2:i=0:=hn _ (by simp)
   have e3:xs.length=n:=hn (xs.length=n) (by simp)
   obtain ⟨_,q2,q3⟩:=(hp _ hm).2 e1
   obtain ⟨raw,r1,r2,r3⟩:=h.bufCells hm q2
   have ev:v=.pointer (some ⟨(E nm).b,0,none⟩):=by
    rw [q3,e2];show Value.pointer (some ⟨(E nm).b,0 * _ + 0,none⟩)=_;rw [Nat.zero_mul]
   rw [ev]
   exact ⟨_,fin hn1 e3 (zZ r1 r2) r3,⟨raw,rfl,zZ r1 r2⟩,rfl,rfl⟩
  ·cases hc
 ·split at hc
  ·rename_i n hn1
   cases hc
   rename_i ty xs _ _
   have e3:xs.length=n:=hn (xs.length=n) (by simp)
   obtain ⟨b,off,rfl,g⟩:=hp
   obtain ⟨us,r1,r2⟩:=aEB g
   exact ⟨_,fin hn1 e3 r1 r2,⟨us,rfl,r1⟩,rfl,rfl⟩
  ·cases hc
 ·cases hc
def aGl (P:Program) (t:TypeId) (p:RV):Option Core:=match aAJ P t p with
 | some c=>some c
 | none=>aNJ P t p
theorem aIx {S:Base} {σ:Sig} {a:Act} {w:World} {D:Nat→Prop} {E:Nat→Ent} (h:aZ S σ a w D E) {p:RV} {t:TypeId} {c:Core} {v:Value}
  (hb:p.2=fD σ.m p.1) (hc:aGl S.P t p=some c) (hn:∀ q ∈ c.need,q) (hp:p.1.rel S.P ⟨w,D,σ.m,E⟩ v) :
  ∃ r,(Instr.loadAt t v).run S.P w=.ok r w∧c.val.rel S.P ⟨w,D,σ.m,E⟩ r∧c.upd=[]∧c.new=none:=by
 unfold aGl at hc
 split at hc
 ·rename_i c' hc'
  cases hc
  exact aBy h hb hc' hn hp
 ·exact aHq h hb hc hn hp
def aAY (P:Program) (t:TypeId) (p v:RV):Option Core:=match p,v with
 | (.ptr nm g i 0,some (.buf el ty xs [])),(.av ty' ys,_)=>if h:ty'=ty then match aAr P t ty with
  | some n=>some { need:=[D.len xs=g,i=0,D.len xs=n,D.len ys=n],val:=.val undef,upd:=[(nm,.buf el ty (h ▸ ys) [])] }
  | none=>none
  else none
 | _,_=>none
theorem aEf {S:Base} {σ:Sig} {a:Act} {w:World} {D:Nat→Prop} {E:Nat→Ent} (h:aZ S σ a w D E) {t:TypeId} {p v:RV} {c:Core} {vp u:Value}
  (hbp:p.2=fD σ.m p.1) (hc:aAY S.P t p v=some c) (hn:∀ q ∈ c.need,q)
  (hp:p.1.rel S.P ⟨w,D,σ.m,E⟩ vp) (hv:v.1.rel S.P ⟨w,D,σ.m,E⟩ u) :
  c.new=none∧c.val=.val undef∧∃ w',(Instr.storeAt t vp u).run S.P w=.ok () w'∧∃ D E,aZ S ⟨σ.T,upM σ.m c.upd,σ.sv⟩ a w' D E:=by
 unfold aAY at hc
 split at hc
 case h_2=>cases hc
 rename_i nm g i el ty xs ty' ys _
 split at hc
 case isFalse=>cases hc
 rename_i hty
 subst hty
 split at hc
 case h_2=>cases hc
 rename_i n hn1
 cases hc
 have hm:σ.m nm=some (.buf el ty' xs []):=hbp.symm
 have e1:xs.length=g:=hn _ (by simp)
 have e2:i=0:=hn _ (by simp)
 have e3:xs.length=n:=hn (xs.length=n) (by simp)
 have e4:ys.length=n:=hn _ (by simp)
 obtain ⟨_,hnil,q3⟩:=(hp _ hm).2 e1
 have hnil':(E nm).isNil=false:=hnil
 have ev:vp=.pointer (some ⟨(E nm).b,0,none⟩):=by
  rw [q3,e2];show Value.pointer (some ⟨(E nm).b,0 * _ + 0,none⟩)=_;rw [Nat.zero_mul]
 obtain ⟨us,rfl,g⟩:=hv
 obtain ⟨⟨m,e,hu⟩,hs⟩:=vZ hn1
 have hl:us.length=n * ty'.sz:=by rw [g.1,e4]
 obtain ⟨raw,r1,r2⟩:=h.bl nm _ hm
 have hhd:(E nm).handle xs.length=.slice (some ⟨(E nm).b,0,none⟩) xs.length (E nm).cap:=by unfold Ent.handle;rw [hnil'];rfl
 rw [hhd] at r1
 obtain ⟨cur,c1,c2,c3⟩:=jH r1 0 us (by rw [hl,e3];omega)
 have hrun:=jQ (P:=S.P) (t:=t) (u:=.agg us.toArray) c1 (by rw [hl];exact hs) rfl c2 (aIm g)
 refine ⟨rfl,rfl,_,by rw [ev];exact hrun,h.stored (b:=.buf el ty' ys []) hm hnil' rfl (by show xs.length=ys.length;omega) _ fun C' L N hw=>?_⟩
 refine ⟨us,?_,rV (aBb L.D L.w g)⟩
 have hrl:=r1.1
 have e5:raw.take 0 ++ us ++ raw.drop (0 + us.length)=us:=by
  rw [List.take_zero,List.nil_append,Nat.zero_add,List.drop_of_length_le (by rw [hrl,hl,e3];omega),List.append_nil]
 rw [e5] at c3
 rw [hw]
 have hh2:(E nm).handle ys.length=.slice (some ⟨(E nm).b,0,none⟩) xs.length (E nm).cap:=by unfold Ent.handle;rw [hnil',show ys.length=xs.length by omega];rfl
 rw [hh2,show ys.length=xs.length by omega]
 exact c3
def aEK (m:Nat→Option Blk):List AV→Option (List Prop)
 | []=>some []
 | c :: cs=>match aBl (c,fD m c),aEK m cs with
  | some a,some b=>some (a ++ b)
  | _,_=>none
theorem aHl {P:Program} {C:Ctx}:∀ {cs:List AV} {ns:List Prop} {us:List Value},aEK C.m cs=some ns→(∀ q ∈ ns,q)→AV.relL P C cs us→∀ u ∈ us,u.oneCell'=true
 | [],_,us,_,_,hr=>by
  have:us=[]:=hr
  subst this;intro u hu;cases hu
 | c :: cs,ns,us,h,hn,hr=>by
  simp only [aEK] at h
  split at h
  ·rename_i a b h1 h2
   cases h
   obtain ⟨u,us',e,g1,g2⟩:=hr
   subst e
   intro x hx
   rcases List.mem_cons.1 hx with rfl | hx
   ·exact aKv (p:=(c,fD C.m c)) (.inr rfl) h1 (fun q hq=>hn q (List.mem_append.2 (.inl hq))) g1
   ·exact aHl h2 (fun q hq=>hn q (List.mem_append.2 (.inr hq))) g2 x hx
  ·cases h
theorem vN {m m':Nat→Option Blk}:∀ {cs:List AV},(∀ k ∈ AV.namesL cs,m' k=m k)→aEK m' cs=aEK m cs
 | [],_=>rfl
 | c :: cs,h=>by
  simp only [aEK]
  have e:fD m' c=fD m c:=by
   cases c <;> first | rfl | exact h _ (by simp [AV.namesL,AV.names])
  rw [e,vN fun k hk=>h k (by simp [AV.namesL,hk])]
def nY (P:Program) (m:Nat→Option Blk) (t:TypeId) (p v:RV):Option Core:=match p,v.1 with
 | (.ptr nm g i c,some (.var cs)),.agg ds=>match aEK m ds,sizeT P t with
  | some ns,some k=>if k=ds.length∧c + ds.length≤cs.length then
    some { need:=[1=g,i=0] ++ ns,val:=.val undef,upd:=[(nm,.var (cs.take c ++ ds ++ cs.drop (c + ds.length)))] } else none
  | _,_=>none
 | _,_=>none
theorem aEd {S:Base} {σ:Sig} {a:Act} {w:World} {D:Nat→Prop} {E:Nat→Ent} (h:aZ S σ a w D E) {t:TypeId} {p v:RV} {c:Core} {vp u:Value}
  (hbp:p.2=fD σ.m p.1) (hc:nY S.P σ.m t p v=some c) (hn:∀ q ∈ c.need,q)
  (hp:p.1.rel S.P ⟨w,D,σ.m,E⟩ vp) (hv:v.1.rel S.P ⟨w,D,σ.m,E⟩ u) :
  c.new=none∧c.val=.val undef∧∃ w',(Instr.storeAt t vp u).run S.P w=.ok () w'∧∃ D E,aZ S ⟨σ.T,upM σ.m c.upd,σ.sv⟩ a w' D E:=by
 unfold nY at hc
 split at hc
 case h_2=>cases hc
 rename_i _ nm g i c0 cs ds hv1
 split at hc
 case h_2=>cases hc
 rename_i ns k hone hsz
 split at hc
 case isFalse=>cases hc
 rename_i hk
 obtain ⟨hk,hfit⟩:=hk
 cases hc
 rw [hv1] at hv
 obtain ⟨us,rfl,g2⟩:=hv
 have hm:σ.m nm=some (.var cs):=hbp.symm
 have g3:=aHl (C:=⟨w,D,σ.m,E⟩) hone (fun q hq=>hn q (by simp [hq])) g2
 have e1:1=g:=hn _ (by simp)
 have e2:i=0:=hn _ (by simp)
 subst e2
 obtain ⟨_,hnil,ev⟩:=(hp _ hm).2 e1
 have hnil':(E nm).isNil=false:=hnil
 have ev':vp=.pointer (some ⟨(E nm).b,c0,none⟩):=by rw [ev,Nat.zero_mul,Nat.zero_add]
 obtain ⟨_,cur,el,r1,r2⟩:=h.bl nm _ hm
 have hl1:=AV.relL_length g2
 have hl2:=AV.relL_length r2
 have hcur:c0 + us.length≤cur.size:=by
  have hf:=hfit
  rw [hl1,hl2,Array.length_toList] at hf;exact hf
 have hrun:=jQ (P:=S.P) (t:=t) (o:=c0) (u:=.agg us.toArray) r1 (by rw [hsz,hk,hl1]) rfl hcur g3
 refine ⟨rfl,rfl,w.setRow (E nm).b (cur.toList.take c0 ++ us ++ cur.toList.drop (c0 + us.length)).toArray,by rw [ev'];exact hrun,?_⟩
 have hes:(Blk.var cs).es=(Blk.var (cs.take c0 ++ ds ++ cs.drop (c0 + ds.length))).es:=by
  simp only [Blk.es,List.length_append,List.length_take,List.length_drop];omega
 refine aZ.stored h hm hnil' hes rfl (cur.toList.take c0 ++ us ++ cur.toList.drop (c0 + us.length)).toArray fun C' L N hw=>?_
 refine ⟨hnil',(cur.toList.take c0 ++ us ++ cur.toList.drop (c0 + us.length)).toArray,el,by rw [hw];exact setRow_heap w _ cur _ el _ r1,?_⟩
 exact aDh (AV.relL_mono L (fun k _=>N k) r2) (AV.relL_mono L (fun k _=>N k) g2) c0 (by omega)
theorem aAW {P:Program} {m m':Nat→Option Blk} {t:TypeId} {p v:RV} (h:∀ k ∈ v.1.names,m' k=m k):nY P m' t p v=nY P m t p v:=by
 unfold nY
 split
 ·rename_i ds hv
  rw [hv] at h
  rw [vN (m:=m) (m':=m') (fun k hk=>h k (by simpa [AV.names] using hk))]
 ·rfl
def aVr:AV→Bool
 | .fn _ _=>true
 | _=>false
def aTq:AV→Bool
 | .fn _ _=>true
 | .ip _ _=>true
 | .ips _=>true
 | .yld _=>true
 | _=>false
def aGP (P:Program) (mt:Bool) (nx:Nat) (elem:TypeId) (p:RV):Option Core:=match p.1 with
 | .av ty xs=>match aAr P elem ty with
  | some n=>if mt=true then (if 0 < n∧n≤1000000 then some { need:=[D.len xs=n],val:=.ptr nx n 0 0,upd:=[(nx,.buf elem ty xs [])],new:=some nx } else none)
   else some { val:=.ia ty xs }
  | none=>none
 | a=>if mt=false∧aTq a=true then some { val:=.ipv a } else none
theorem aI1 {S:Base} {σ:Sig} {a:Act} {w:World} {D:Nat→Prop} {E:Nat→Ent} (h:aZ S σ a w D E) {mt:Bool} {nx:Nat} {elem:TypeId} {p:RV} {c:Core} {v:Value}
  (hc:aGP S.P mt nx elem p=some c) (hn:∀ q ∈ c.need,q) (hu:∀ k,c.new=some k→Unm k σ) (hp:p.1.rel S.P ⟨w,D,σ.m,E⟩ v) :
  ∃ r w',(Instr.box elem v).run S.P w=.ok r w'∧Outcome S ⟨σ.T,upM σ.m c.upd,σ.sv⟩ a c.val r w':=by
 have run:∀ us:List Value,v.cells=us.toArray→(Instr.box elem v).run S.P w=.ok (.pointer (some ⟨w.heap.size,0,none⟩)) (w.alloc (.cells us.toArray elem)):=by
  intro us hus
  simp [Instr.box,newVar,newRow,hus]
 have cellAt:∀ (us:List Value),gU (w.alloc (.cells us.toArray elem)) w.heap.size 0 us:=fun us j u hj=>by
  rw [Nat.zero_add]
  show (w.alloc _).cell? ⟨w.heap.size,j,none⟩=some u
  rw [World.cell?_alloc_new];simpa using hj
 unfold aGP at hc
 split at hc
 ·rename_i ty xs hp1
  rw [hp1] at hp
  obtain ⟨us,rfl,g⟩:=hp
  have hlen:=g.1
  split at hc
  case h_2=>cases hc
  rename_i n hn1
  split at hc
  ·split at hc
   case isFalse=>cases hc
   rename_i hk
   obtain ⟨k0,k1⟩:=hk
   cases hc
   have e3:xs.length=n:=hn _ (by simp)
   subst e3
   have e4:upE E nx (⟨w.heap.size,xs.length,false,noR⟩:Ent) nx=⟨w.heap.size,xs.length,false,noR⟩:=by simp [upE]
   refine ⟨_,_,run us rfl,D,upE E nx ⟨w.heap.size,xs.length,false,noR⟩,h.newBlk (hu nx rfl) (qP w _) (fun _=>⟨rfl,by rw [World.size_alloc];simp⟩)
    ⟨us,⟨hlen,.inr ⟨w.heap.size,xs.length,us.toArray,?_,Nat.zero_le _,?_,Nat.le_refl _,?_,?_,?_⟩⟩,?_⟩,fun b hb=>?_⟩
   ·simp [Ent.handle]
   ·show (w.heap.push _)[w.heap.size]?=_
    simp
   ·unfold maxLen;omega
   ·rw [← Array.length_toList];exact hlen
   ·show us.take (xs.length * ty.sz)=us
    rw [← hlen,List.take_length]
   ·exact rV (aBb (fun _ g=>g) (fun b hb=>heap_alloc_old w _ b (h.dlt b hb)) g)
   ·replace hb:upM σ.m [(nx,.buf elem ty xs [])] nx=some b:=hb
    rw [gB,if_pos rfl] at hb
    cases hb
    refine ⟨Nat.le_refl _,fun _=>⟨k0,?_,?_⟩⟩
    ·show (upE E nx _ nx).isNil=false
     rw [e4]
    ·show _=Value.pointer (some ⟨(upE E nx _ nx).b,_,none⟩)
     rw [e4];simp
  ·cases hc
   refine ⟨_,_,run us rfl,fun b=>D b∨b=w.heap.size,E,h.newData _,w.heap.size,0,rfl,some ⟨w.heap.size,0,none⟩,xs.length,rfl,Nat.le_refl _,(fun h=>by cases h),(fun ad had _=>by cases had;rfl),fun i y hy=>?_⟩
   refine ⟨_,_,rfl,.inr rfl,?_,aH (fun b hb=>.inl hb) (fun b hb=>heap_alloc_old w _ b (h.dlt b hb)) (g.2 i y hy)⟩
   intro j u hj
   rw [List.getElem?_take] at hj
   split at hj
   ·rw [List.getElem?_drop] at hj
    have:=cellAt us (i * ty.sz + j) u hj
    rw [Nat.zero_add] at this
    show (w.alloc _).cell? ⟨w.heap.size,0 + i * ty.sz + j,none⟩=some u
    rw [Nat.zero_add];exact this
   ·cases hj
 ·split at hc
  case isFalse=>cases hc
  rename_i hk
  obtain ⟨_,hf⟩:=hk
  cases hc
  have hcells:v.cells=#[v]:=by
   cases hq:p.1 <;> rw [hq] at hf <;> first | cases hf | skip
   all_goals rw [hq] at hp
   ·obtain ⟨_,_,_,rfl,_⟩:=hp;rfl
   ·obtain ⟨us,rfl,_⟩:=hp;rfl
   ·obtain ⟨_,_,_,rfl,_⟩:=hp;rfl
   ·have hp:v=_:=hp
    subst hp;rfl
  refine ⟨_,_,run [v] hcells,fun b=>D b∨b=w.heap.size,E,h.newData _,w.heap.size,0,v,rfl,.inr rfl,?_,?_⟩
  ·show (w.alloc _).cell? ⟨w.heap.size,0,none⟩=some v
   rw [World.cell?_alloc_new];rfl
  ·refine AV.rel_mono (C:=⟨w,D,σ.m,E⟩) (C':=⟨w.alloc (.cells [v].toArray elem),fun b=>D b∨b=w.heap.size,σ.m,E⟩) ⟨fun b hb=>.inl hb,fun b hb=>heap_alloc_old w _ b (h.dlt b hb)⟩ (fun nm _ b' hb'=>⟨b',hb',rfl,Nat.le_refl _,fun _=>rfl⟩) hp
def zN (P:Program) (m:Nat→Option Blk) (mt:Bool) (elem:TypeId) (p:AV):Option Core:=match p with
 | .agg cs=>if mt=false∧aJa P elem=none then match aEK m cs with
  | some ns=>some { need:=ns,val:=.ips cs }
  | none=>none
  else none
 | .ptr nm 1 0 0=>if mt=false then match m nm with
  | some (.var _)=>some { val:=.ipv (.ptr nm 1 0 0) }
  | _=>none
  else none
 | _=>none
theorem aI0 {S:Base} {σ:Sig} {a:Act} {w:World} {D:Nat→Prop} {E:Nat→Ent} (h:aZ S σ a w D E) {mt:Bool} {elem:TypeId} {p:AV} {c:Core} {v:Value}
  (hc:zN S.P σ.m mt elem p=some c) (hp:p.rel S.P ⟨w,D,σ.m,E⟩ v) :
  ∃ r w',(Instr.box elem v).run S.P w=.ok r w'∧Outcome S ⟨σ.T,upM σ.m c.upd,σ.sv⟩ a c.val r w':=by
 have key:∀ (us:List Value) (cs:List AV) (x:AV),v.cells=us.toArray→AV.relL S.P ⟨w,D,σ.m,E⟩ cs us→(∀ C b,C.D b→gU C.w b 0 us→AV.relL S.P C cs us→x.rel S.P C (.pointer (some ⟨b,0,none⟩))) →
   ∃ r w',(Instr.box elem v).run S.P w=.ok r w'∧Outcome S ⟨σ.T,upM σ.m [],σ.sv⟩ a x r w':=by
  intro us cs x hus g hx
  have run:(Instr.box elem v).run S.P w=.ok (.pointer (some ⟨w.heap.size,0,none⟩)) (w.alloc (.cells us.toArray elem)):=by
   simp [Instr.box,newVar,newRow,hus]
  refine ⟨_,_,run,fun b=>D b∨b=w.heap.size,E,h.newData _,hx _ _ (.inr rfl) ?_ ?_⟩
  ·intro j u hj
   rw [Nat.zero_add]
   show (w.alloc _).cell? ⟨w.heap.size,j,none⟩=some u
   rw [World.cell?_alloc_new];simpa using hj
  ·exact AV.relL_mono (C:=⟨w,D,σ.m,E⟩) (C':=⟨w.alloc (.cells us.toArray elem),fun b=>D b∨b=w.heap.size,σ.m,E⟩) ⟨fun b hb=>.inl hb,fun b hb=>heap_alloc_old w _ b (h.dlt b hb)⟩ (fun nm _ b' hb'=>⟨b',hb',rfl,Nat.le_refl _,fun _=>rfl⟩) g
 unfold zN at hc
 split at hc
 ·rename_i cs
  split at hc
  case isFalse=>cases hc
  split at hc
  case h_2=>cases hc
  cases hc
  obtain ⟨us,rfl,g⟩:=hp
  exact key us cs (.ips cs) rfl g fun C b h1 h2 h3=>⟨b,0,us,rfl,h1,h2,h3⟩
 ·rename_i nm
  split at hc
  case isFalse=>cases hc
  split at hc
  case h_2=>cases hc
  rename_i bl hm
  cases hc
  obtain ⟨_,_,hv⟩:=(hp _ hm).2 rfl
  refine key [v] [.ptr nm 1 0 0] _ (by rw [hv];rfl) ⟨v,[],rfl,hp,rfl⟩ fun C b h1 h2 h3=>⟨b,0,v,rfl,h1,h2 0 v rfl,?_⟩
  obtain ⟨u,us',e,g,_⟩:=h3
  cases e;exact g
 ·cases hc
theorem aDZ {P:Program} {m m':Nat→Option Blk} {mt:Bool} {elem:TypeId} {p:AV} (h:∀ k ∈ p.names,m' k=m k):zN P m' mt elem p=zN P m mt elem p:=by
 unfold zN
 split
 ·rw [vN (m:=m) (m':=m') fun k hk=>h k (by simpa [AV.names] using hk)]
 ·rw [h _ (by simp [AV.names])]
 ·rfl
def aDA (P:Program) (t:TypeId) (x i:AV):Option Core:=match P.underlying t,i with
 | some (.array n e),.dat (.int _) i=>match x with
  | .av ty xs=>if sizeT P e=some ty.sz then match kM P e with
    | some true=>some { need:=[D.ile 0 i,D.ilt i (D.ofN n),D.len xs=n],val:=.agg (cellsOf ty (D.get xs (D.nat i) ty.dflt)) }
    | some false=>if ty.sz=1 then some { need:=[D.ile 0 i,D.ilt i (D.ofN n),D.len xs=n],val:=.dat ty (D.get xs (D.nat i) ty.dflt) } else none
    | none=>none
   else match aAr P e ty with
    | some m=>some { need:=[D.ile 0 i,D.ilt i (D.ofN n),D.len xs=D.nI n m],val:=.av ty (D.seg xs (D.nI (D.nat i) m) m) }
    | none=>none
  | .agg cs=>if sizeT P e=some 1∧kM P e=some false∧cs.length=n then some { need:=[D.ile 0 i,D.ilt i (D.ofN n)],val:=.sel i cs } else none
  | _=>none
 | _,_=>none
theorem lS {P:Program} {w:World} {t e:TypeId} {n:Nat} {k:IntKind} {i:Int} {cs:Array Value} {sz:Nat} (hu:P.underlying t=some (.array n e)) (hs:sizeT P e=some sz) (h0:0≤i) (h1:i < n) :
  (Instr.index t (.agg cs) (.int k i)).run P w=(part e cs (i.toNat * sz)).run P w:=by
 simp [Instr.index,asIntOf,run_underlying hu,h0,h1,dN hs w]
theorem zY {P:Program} {w:World} {e:TypeId} {sz off:Nat} {cs:Array Value} (ha:kM P e=some true) (hs:sizeT P e=some sz):(part e cs off).run P w=.ok (.agg (cs.extract off (off + sz))) w:=by
 simp [part,oD ha w,dN hs w]
theorem gV {P:Program} {w:World} {e:TypeId} {off:Nat} {cs:Array Value} {v:Value} (ha:kM P e=some false) (hv:cs[off]?=some v):(part e cs off).run P w=.ok v w:=by
 simp [part,oD ha w,hv]
theorem aIF {P:Program} {e:TypeId} {m:Nat} {e':TypeId} (h:P.underlying e=some (.array m e')):kM P e=some true:=by
 unfold kM;rw [h]
theorem aGv {P:Program} {C:Ctx} {w:World} {t:TypeId} {x i:AV} {c:Core} {v vi:Value} (hc:aDA P t x i=some c) (hn:∀ q ∈ c.need,q)
  (hx:x.rel P C v) (hi:i.rel P C vi):∃ r,(Instr.index t v vi).run P w=.ok r w∧c.val.rel P C r∧c.upd=[]∧c.new=none:=by
 unfold aDA at hc
 split at hc
 case h_2=>cases hc
 rename_i n e k i0 hu
 simp only [AV.rel,aF,List.cons.injEq,and_true] at hi
 subst hi
 obtain ⟨i,rfl⟩:∃ j:Int,(j:(Ty.int k).den)=i0:=⟨i0,rfl⟩
 split at hc
 ·rename_i ty xs
  obtain ⟨us,rfl,g1,g2⟩:=hx
  split at hc
  ·rename_i hs
   have elem:0≤i→i < (n:Int)→xs.length=n→aF C.w C.D ty (xs.getD i.toNat ty.dflt) ((us.drop (i.toNat * ty.sz)).take ty.sz):=fun h0 h1 h2=>g2 i.toNat _ (getElem?_getD (by omega))
   split at hc
   ·rename_i ha
    cases hc
    have h0:0≤i:=hn _ (by simp)
    have h1:i < (n:Int):=hn _ (by simp)
    have h2:xs.length=n:=hn _ (by simp)
    refine ⟨_,by rw [lS hu hs h0 h1,zY ha hs],⟨(us.drop (i.toNat * ty.sz)).take ty.sz,?_,fM (elem h0 h1 h2)⟩,rfl,rfl⟩
    congr 1
    apply Array.ext'
    simp [List.take_drop,Nat.add_comm]
   ·rename_i ha
    split at hc
    case isFalse=>cases hc
    rename_i h1z
    cases hc
    have h0:0≤i:=hn _ (by simp)
    have h1:i < (n:Int):=hn _ (by simp)
    have h2:xs.length=n:=hn _ (by simp)
    have hr:=elem h0 h1 h2
    have hlen:=(bG hr).trans h1z
    obtain ⟨u,hu1⟩:=List.length_eq_one_iff.1 hlen
    rw [hu1] at hr
    refine ⟨u,?_,hr,rfl,rfl⟩
    rw [lS hu hs h0 h1]
    refine gV ha ?_
    have:((us.drop (i.toNat * ty.sz)).take ty.sz)[0]?=some u:=by rw [hu1];rfl
    rw [List.getElem?_take,if_pos (Ty.sz_pos ty),List.getElem?_drop] at this
    simpa using this
   ·cases hc
  ·split at hc
   ·rename_i m hm
    cases hc
    obtain ⟨⟨m',e',hue⟩,hs⟩:=vZ hm
    have h0:0≤i:=hn _ (by simp)
    have h1:i < (n:Int):=hn _ (by simp)
    have h2:xs.length=n * m:=hn _ (by simp)
    have hin:i.toNat * m + m≤xs.length:=by
     rw [h2]
     have:=Nat.mul_le_mul_right m (show i.toNat + 1≤n by omega)
     rw [Nat.add_mul,Nat.one_mul] at this;exact this
    refine ⟨_,by rw [lS hu hs h0 h1,zY (aIF hue) hs],⟨(us.drop (i.toNat * (m * ty.sz))).take (m * ty.sz),?_,?_,fun q y hy=>?_⟩,rfl,rfl⟩
    ·congr 1
     apply Array.ext'
     simp [List.take_drop,Nat.add_comm]
    ·have e1:i.toNat * (m * ty.sz)=i.toNat * m * ty.sz:=(Nat.mul_assoc _ _ _).symm
     have e2:=Nat.mul_le_mul_right ty.sz hin
     rw [Nat.add_mul] at e2
     simp only [D.seg,D.nI,D.nat,List.length_take,List.length_drop]
     rw [g1,e1,Nat.min_eq_left (by omega),Nat.min_eq_left (by omega)]
    ·have hy':(List.take m (xs.drop (i.toNat * m)))[q]?=some y:=hy
     rw [List.getElem?_take] at hy'
     split at hy'
     case isFalse=>cases hy'
     rename_i hq
     rw [List.getElem?_drop] at hy'
     have hr:=g2 _ y hy'
     have e1:(i.toNat * m + q) * ty.sz=i.toNat * (m * ty.sz) + q * ty.sz:=by rw [Nat.add_mul,Nat.mul_assoc]
     rw [e1,← List.drop_drop] at hr
     have e2:((us.drop (i.toNat * (m * ty.sz))).take (m * ty.sz)).drop (q * ty.sz)=((us.drop (i.toNat * (m * ty.sz))).drop (q * ty.sz)).take (m * ty.sz - q * ty.sz):=List.drop_take
     rw [e2,List.take_take]
     have e3:ty.sz≤m * ty.sz - q * ty.sz:=by
      have:=Nat.mul_le_mul_right ty.sz (show q + 1≤m from hq)
      rw [Nat.add_mul,Nat.one_mul] at this
      omega
     rw [Nat.min_eq_left e3]
     exact hr
   ·cases hc
 ·rename_i cs
  split at hc
  case isFalse=>cases hc
  rename_i hk
  obtain ⟨hs,ha,hl⟩:=hk
  cases hc
  have h0:0≤i:=hn _ (by simp)
  have h1:i < (n:Int):=hn _ (by simp)
  obtain ⟨us,rfl,g⟩:=hx
  have hlen:=AV.relL_length g
  have hlt:i.toNat < us.length:=by omega
  refine ⟨us[i.toNat],?_,⟨us,g,List.getElem?_eq_getElem hlt⟩,rfl,rfl⟩
  rw [lS hu hs h0 h1,Nat.mul_one]
  exact gV ha (by simp [hlt])
 ·cases hc
def aNR (P:Program) (t:TypeId):Bool:=match P.underlying t with | some (.int .u8)=>true | _=>false
theorem aHx {P:Program} {t:TypeId} (h:aNR P t=true):P.underlying t=some (.int .u8):=by
 unfold aNR at h
 split at h
 ·assumption
 ·cases h
def aLp (P:Program) (s d:TypeId) (a:AV):Option Core:=match a with
 | .dat .str x=>match P.underlying s,gZ P d with
  | some .string,some e=>if aNR P e=true then some { val:=.dat (.sl (.int .u8)) (D.bytes x) } else none
  | _,_=>none
 | .dat (.sl (.int .u8)) xs=>match gZ P s,P.underlying d with
  | some e,some .string=>if aNR P e=true then some { val:=.dat .str (D.ofBytes xs) } else none
  | _,_=>none
 | _=>none
theorem aLo {S:Base} {σ:Sig} {a:Act} {w:World} {D:Nat→Prop} {E:Nat→Ent} (h:aZ S σ a w D E) {s d:TypeId} {x:AV} {c:Core} {v:Value}
  (hc:aLp S.P s d x=some c) (hx:x.rel S.P ⟨w,D,σ.m,E⟩ v) :
  ∃ r w',(convert s d v).run S.P w=.ok r w'∧Outcome S ⟨σ.T,upM σ.m c.upd,σ.sv⟩ a c.val r w':=by
 unfold aLp at hc
 split at hc
 ·rename_i x
  simp only [AV.rel,aF,List.cons.injEq,and_true] at hx
  subst hx
  split at hc
  case h_2=>cases hc
  rename_i e hs hd
  split at hc
  case isFalse=>cases hc
  rename_i he
  cases hc
  have he':=aHx he
  have hsz:=Go.Lib.bytesWorld_size w e x
  have hbel:Below w.heap.size w (Go.Lib.bytesWorld w e x):=⟨by simp [Go.Lib.bytesWorld,World.freeze,World.alloc,World.drew,-World.alloc_eq,-World.drew_eq],by simp [Go.Lib.bytesWorld,World.freeze,World.alloc,World.drew,-World.alloc_eq,-World.drew_eq],
   by simp [Go.Lib.bytesWorld,World.freeze,World.alloc,World.drew,-World.alloc_eq,-World.drew_eq],by rw [hsz];omega,fun k hk=>Go.Lib.bytesWorld_at_old w e x k hk⟩
  have hlen:(Eng.D.bytes x).length=x.size:=by
   show (List.map _ x.data.toList).length=x.data.size
   rw [List.length_map,Array.length_toList]
  refine ⟨_,_,Go.Lib.run_convert_string_bytes (P:=S.P) w s d e x hs (eH hd) he',fun b=>D b∨b=w.heap.size,E,?_,some ⟨w.heap.size,0,none⟩,grownCap w x.size 0 e,?_,?_,(fun h=>by cases h),(fun ad had _=>by cases had;rfl),fun i y hy=>?_⟩
  ·refine h.world hbel (fun b=>⟨fun hb=>?_,fun hb=>?_⟩) (fun b hb=>?_)
   ·rcases hb with g | g
    ·exact .inl g
    ·exact .inr ⟨⟨by omega,by rw [hsz];omega⟩,.inr g⟩
   ·rcases hb with g | g
    ·exact .inl g
    ·exact g.2
   ·rcases hb with g | g
    ·have:=h.dlt b g;rw [hsz];omega
    ·rw [hsz];omega
  ·rw [hlen]
  ·rw [hlen];exact grownCap_ge w _ 0 e
  ·have hi:i < x.size:=by have:=(List.getElem?_eq_some_iff.1 hy).1;rwa [hlen] at this
   refine ⟨_,[.int .u8 y],rfl,.inr rfl,fun j u hj=>?_,rfl⟩
   cases j with
   | succ j=>simp at hj
   | zero =>
    simp only [List.getElem?_cons_zero,Option.some.injEq] at hj
    subst hj
    show (Go.Lib.bytesWorld w e x).cell? ⟨w.heap.size,0 + i * 1 + 0,none⟩=_
    rw [show 0 + i * 1 + 0=i by omega,Go.Lib.bytesWorld_cell w e x i hi]
    have hy':(List.map (fun b:UInt8=>(b.toNat:Int)) x.data.toList)[i]?=some y:=hy
    rw [List.getElem?_map] at hy'
    cases hq:x.data.toList[i]? with
    | none=>rw [hq] at hy';cases hy'
    | some b =>
     rw [hq] at hy'
     simp only [Option.map_some,Option.some.injEq] at hy'
     rw [← hy']
     simp [List.getD,hq]
 ·rename_i xs
  split at hc
  case h_2=>cases hc
  rename_i e hs hd
  split at hc
  case isFalse=>cases hc
  rename_i he
  cases hc
  have he':=aHx he
  obtain ⟨ao,cap,h1,_,_,h4,h5⟩:=hx
  simp only [List.cons.injEq,and_true] at h1
  subst h1
  refine ⟨.string (strOfNums xs),w,?_,D,E,h,rfl⟩
  cases xs with
  | nil =>
   rw [run_convert_bytes_string w s d e ao _ cap (eH hs) he' hd]
   cases ao with
   | none=>simp [Conv.bytesToString];rfl
   | some ad =>
    have hl:(loadCells ad 0).run S.P w=.ok #[] w:=by
     have:=run_loadCells_list (P:=S.P) w ad [] (fun j v hj=>by simp at hj)
     simpa using this
    rw [List.length_nil,run_bytesToString w ad 0 cap [] (by simpa using hl)]
    rfl
  | cons y ys =>
   obtain ⟨ad,ue,g1,_,_,_⟩:=h5 0 y rfl
   subst g1
   have hspot:=h4 ad rfl (by simp)
   obtain ⟨bl,off,sp⟩:=ad
   simp only at hspot
   subst hspot
   refine run_convert_bytes_arg w s e (eH hs) he' bl off _ cap (y :: ys) rfl (fun i hi=>?_) d hd
   obtain ⟨a2,ue2,q1,_,q3,q4⟩:=h5 i _ (List.getElem?_eq_getElem hi)
   cases q1
   simp only [aF] at q4
   subst q4
   have:=q3 0 _ rfl
   simp only [Nat.add_zero,Ty.sz,Nat.mul_one] at this
   rw [this]
   simp [List.getD,List.getElem?_eq_getElem hi]
 ·cases hc
def oM (P:Program):List Field→List AV→Nat→List AV→Option Bool
 | [],_,_,_=>some true
 | f :: fs,cs,off,ds=>if f.name ≠ "_" ∧ f.offset=off then match P.underlying f.type,cs,ds with
   | some (.int _),.dat (.int k1) x :: cs,.dat (.int k2) y :: ds=>if k1=k2 then (match oM P fs cs (off + 1) ds with | some r=>some (D.and (D.eq x y) r) | none=>none) else none
   | some .string,.dat .str x :: cs,.dat .str y :: ds=>match oM P fs cs (off + 1) ds with | some r=>some (D.and (D.sEq x y) r) | none=>none
   | some .bool,.dat .bool x :: cs,.dat .bool y :: ds=>match oM P fs cs (off + 1) ds with | some r=>some (D.and (D.beq x y) r) | none=>none
   | _,_,_=>none
  else none
def aLc (P:Program) (op:BinOp) (t:TypeId) (a b:AV):Option Core:=match a,b,P.underlying t with
 | .agg cs,.agg ds,some (.struct fs)=>if P.stoodInHeld t=false∧P.eqGuardType P.depth t=false then match oM P fs.toList cs 0 ds,op with
   | some r,.eql=>some { val:=.dat .bool r }
   | some r,.neq=>some { val:=.dat .bool (D.not r) }
   | _,_=>none
  else none
 | _,_,_=>none
theorem lH {P:Program} {C:Ctx} {w:World} {d:Nat} {X Y:Array Value}:∀ {fs:List Field} {cs ds:List AV} {off:Nat} {r:Bool} {us vs:List Value},oM P fs cs off ds=some r →
  AV.relL P C cs us→AV.relL P C ds vs→X.toList.drop off=us→Y.toList.drop off=vs→(Op.eqFields (d + 1) X Y fs).run P w=.ok r w
 | [],_,_,_,_,_,_,h,_,_,_,_=>by cases h;simp [Op.eqFields]
 | f :: fs,cs,ds,off,r,us,vs,h,h1,h2,h3,h4=>by
  unfold oM at h
  split at h
  case isFalse=>cases h
  rename_i hf
  obtain ⟨hf1,hf2⟩:=hf
  have at_:∀ {Z:Array Value} {z:Value} {zs:List Value},Z.toList.drop off=z :: zs→Z[f.offset]?=some z∧Z.toList.drop (off + 1)=zs:=fun {Z z zs} e=>by
   constructor
   ·have:(Z.toList.drop off)[0]?=some z:=by rw [e];rfl
    rw [List.getElem?_drop] at this
    rw [hf2];simpa using this
   ·rw [← List.drop_drop,e];rfl
  split at h
  ·rename_i k k1 x cs k2 y ds hu
   split at h
   case isFalse=>cases h
   rename_i hk
   subst hk
   split at h
   case h_2=>cases h
   rename_i r' hr
   cases h
   obtain ⟨u,us',e1,q1,q2⟩:=h1
   obtain ⟨v,vs',e2,q3,q4⟩:=h2
   simp only [AV.rel,aF,List.cons.injEq,and_true] at q1 q3
   subst q1 q3
   obtain ⟨x1,x2⟩:=at_ (h3.trans e1)
   obtain ⟨y1,y2⟩:=at_ (h4.trans e2)
   have ih:=lH (w:=w) (d:=d) hr q2 q4 x2 y2
   have ha:kM P f.type=some false:=by unfold kM;rw [hu]
   rw [Op.eqFields,if_pos hf1]
   simp only [Sem.run_bind,gV ha x1,gV ha y1,Result.andThen_ok,run_equalIn_int w d f.type k1 k x y hu]
   by_cases hxy:(x == y)=true
   ·simp only [hxy,Bool.not_true,Bool.false_eq_true,if_false,ih,D.and,D.eq,Bool.true_and]
   ·simp only [Bool.not_eq_true] at hxy
    simp [hxy,D.and,D.eq]
  ·rename_i x cs y ds hu
   split at h
   case h_2=>cases h
   rename_i r' hr
   cases h
   obtain ⟨u,us',e1,q1,q2⟩:=h1
   obtain ⟨v,vs',e2,q3,q4⟩:=h2
   simp only [AV.rel,aF,List.cons.injEq,and_true] at q1 q3
   subst q1 q3
   obtain ⟨x1,x2⟩:=at_ (h3.trans e1)
   obtain ⟨y1,y2⟩:=at_ (h4.trans e2)
   have ih:=lH (w:=w) (d:=d) hr q2 q4 x2 y2
   have ha:kM P f.type=some false:=by unfold kM;rw [hu]
   rw [Op.eqFields,if_pos hf1]
   simp only [Sem.run_bind,gV ha x1,gV ha y1,Result.andThen_ok,run_equalIn_string w d f.type x y hu]
   by_cases hxy:(x.toList == y.toList)=true
   ·simp only [hxy,Bool.not_true,Bool.false_eq_true,if_false,ih,D.and,D.sEq,Bool.true_and]
   ·simp only [Bool.not_eq_true] at hxy
    simp [hxy,D.and,D.sEq]
  ·rename_i x cs y ds hu
   split at h
   case h_2=>cases h
   rename_i r' hr
   cases h
   obtain ⟨u,us',e1,q1,q2⟩:=h1
   obtain ⟨v,vs',e2,q3,q4⟩:=h2
   simp only [AV.rel,aF,List.cons.injEq,and_true] at q1 q3
   subst q1 q3
   obtain ⟨x1,x2⟩:=at_ (h3.trans e1)
   obtain ⟨y1,y2⟩:=at_ (h4.trans e2)
   have ih:=lH (w:=w) (d:=d) hr q2 q4 x2 y2
   have ha:kM P f.type=some false:=by unfold kM;rw [hu]
   rw [Op.eqFields,if_pos hf1]
   simp only [Sem.run_bind,gV ha x1,gV ha y1,Result.andThen_ok,run_equalIn_bool' w d f.type x y hu]
   by_cases hxy:(x == y)=true
   ·simp only [hxy,Bool.not_true,Bool.false_eq_true,if_false,ih,D.and,D.beq,Bool.true_and]
   ·simp only [Bool.not_eq_true] at hxy
    simp [hxy,D.and,D.beq]
  ·cases h
theorem aLb {P:Program} {C:Ctx} {w:World} {op:BinOp} {t:TypeId} {x y:Operand} {a b:AV} {u v:Value} {c:Core} (h:aLc P op t a b=some c)
  (ha:a.rel P C u) (hb:b.rel P C v):∃ r,(do eqGuard op t x y u v;binOp op t u v:Sem Value).run P w=.ok r w∧c.val.rel P C r∧c.upd=[]∧c.new=none:=by
 unfold aLc at h
 split at h
 case h_2=>cases h
 rename_i cs ds fs hu
 split at h
 case isFalse=>cases h
 rename_i hk
 obtain ⟨k1,k2⟩:=hk
 obtain ⟨us,rfl,g1⟩:=ha
 obtain ⟨vs,rfl,g2⟩:=hb
 have hf:P.fieldsOf t=fs:=by unfold Program.fieldsOf;rw [hu]
 have hu':P.underlying t=some (.struct (P.fieldsOf t)):=by rw [hf];exact hu
 split at h
 ·rename_i r hr
  cases h
  have hq:=lH (w:=w) (d:=9998) (X:=us.toArray) (Y:=vs.toArray) hr g1 g2 rfl rfl
  refine ⟨.bool r,?_,rfl,rfl,rfl⟩
  rw [Sem.run_bind,run_eqGuard_agg w _ t x y _ _ k2,Result.andThen_ok,run_eql_struct,run_equalIn_struct w 9999 t _ _ hu' k1,hf,hq]
  rfl
 ·rename_i r hr
  cases h
  have hq:=lH (w:=w) (d:=9998) (X:=us.toArray) (Y:=vs.toArray) hr g1 g2 rfl rfl
  refine ⟨.bool (!r),?_,rfl,rfl,rfl⟩
  rw [Sem.run_bind,run_eqGuard_agg w _ t x y _ _ k2,Result.andThen_ok,run_neq_struct,run_equalIn_struct w 9999 t _ _ hu' k1,hf,hq]
  rfl
 ·cases h
end Go.Eng
