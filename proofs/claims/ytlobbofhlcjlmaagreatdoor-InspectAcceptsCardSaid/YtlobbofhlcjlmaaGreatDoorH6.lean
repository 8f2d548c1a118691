/- The engine, part 6: box, alloc, store, make, append, literals. -/
import Derived.Test.YtlobbofhlcjlmaaGreatDoorH5
set_option linter.unusedSimpArgs false
set_option linter.unusedVariables false
namespace Go.Eng
open Go.RowKit
def Yields (S:Base) (σ':Sig) (a:Act) (x:AV) (r:Result Next):Prop :=
 (∃ v w',r=.ok (.value v) w'∧Outcome S σ' a x v w')∨(∃ w',r=.ok .skip w'∧Outcome S σ' a x undef w') ∨
 (∃ f args w',r=.ok (.enter f args) w'∧Calls S.P f args w' fun e w''=>∃ v,e=.returned v∧Outcome S σ' a x v w'')
def aJa (P:Program) (t:TypeId):Option Ty:=match aUv P 12 t with
 | some ty=>if sizeT P t=some ty.sz then some ty else none
 | none=>none
theorem aD8 {P:Program} {t:TypeId} {ty:Ty} (h:aJa P t=some ty):sizeT P t=some ty.sz:=by
 unfold aJa at h
 split at h
 ·split at h
  ·rename_i hs;cases h;exact hs
  ·cases h
 ·cases h
def aVx (P:Program) (mt:Bool) (nx:Nat) (elem:TypeId) (p:RV):Option Core :=
 match aEL p with
 | some ns=>match mt,aJa P elem with
  | false,some ty=>match gG ty (fF p.1) with
   | some (x,[])=>some { need:=ns,val:=.ip ty x }
   | _=>some { need:=ns,val:=.ptr nx 1 0 0,upd:=[(nx,.var (fF p.1))],new:=some nx }
  | _,_=>some { need:=ns,val:=.ptr nx 1 0 0,upd:=[(nx,.var (fF p.1))],new:=some nx }
 | none=>none
theorem aPe {S:Base} {σ:Sig} {a:Act} {w:World} {D:Nat→Prop} {E:Nat→Ent} (h:aZ S σ a w D E) {nx:Nat} (hu:Unm nx σ) {cs:List AV} {us:List Value} (el:TypeId)
  (hr:AV.relL S.P ⟨w,D,σ.m,E⟩ cs us) (hnm:nx ∉ AV.namesL cs) :
  Outcome S ⟨σ.T,upM σ.m [(nx,.var cs)],σ.sv⟩ a (.ptr nx 1 0 0) (.pointer (some ⟨w.heap.size,0,none⟩)) (w.alloc (.cells us.toArray el)):=by
 have e1:(w.alloc (.cells us.toArray el)).heap.size=w.heap.size + 1:=World.size_alloc _ _
 have hbel:Below w.heap.size w (w.alloc (.cells us.toArray el)):=⟨rfl,rfl,rfl,by rw [e1];omega,fun k hk=>heap_alloc_old w _ k hk⟩
 have hlat:Later ⟨w,D,σ.m,E⟩ ⟨w.alloc (.cells us.toArray el),D,upM σ.m [(nx,.var cs)],upE E nx ⟨w.heap.size,0,false,noR⟩⟩ :=
  ⟨fun b hb=>hb,fun b hb=>hbel.block b (h.dlt b hb)⟩
 refine ⟨D,upE E nx ⟨w.heap.size,0,false,noR⟩,h.newBlk hu hbel (fun _=>⟨rfl,by rw [e1];omega⟩) ⟨rfl,us.toArray,el,heap_alloc_new w _,?_⟩,fun b hb=>?_⟩
 ·refine AV.relL_mono hlat (fun k hk b' hb'=>?_) (by simpa using hr)
  have ek:k≠nx:=fun e=>hnm (e ▸ hk)
  replace hb':upM σ.m [(nx,.var cs)] k=some b':=hb'
  rw [gB,if_neg ek] at hb'
  exact ⟨b',hb',rfl,Nat.le_refl _,fun _=>by show upE E nx _ k=E k;simp [upE,ek]⟩
 ·replace hb:upM σ.m [(nx,.var cs)] nx=some b:=hb
  rw [gB,if_pos rfl] at hb
  cases hb
  have e3:upE E nx (⟨w.heap.size,0,false,noR⟩:Ent) nx=⟨w.heap.size,0,false,noR⟩:=by simp [upE]
  refine ⟨Nat.le_refl _,fun _=>⟨by omega,?_,?_⟩⟩
  ·show (upE E nx _ nx).isNil=false;rw [e3]
  ·show _=Value.pointer (some ⟨(upE E nx _ nx).b,_,_⟩);rw [e3];simp
theorem aRl {S:Base} {σ:Sig} {a:Act} {w:World} {D:Nat→Prop} {E:Nat→Ent} (h:aZ S σ a w D E) {mt:Bool} {nx:Nat} {elem:TypeId} {p:RV} {c:Core} {v:Value}
  (hb:p.2=fD σ.m p.1) (hc:aVx S.P mt nx elem p=some c) (hn:∀ q ∈ c.need,q) (hu:∀ k,c.new=some k→Unm k σ∧k ∉ AV.namesL (fF p.1)) (hp:p.1.rel S.P ⟨w,D,σ.m,E⟩ v) :
  ∃ r w',(Instr.box elem v).run S.P w=.ok r w'∧Outcome S ⟨σ.T,upM σ.m c.upd,σ.sv⟩ a c.val r w':=by
 have run:∀ us:List Value,v.cells=us.toArray→(Instr.box elem v).run S.P w=.ok (.pointer (some ⟨w.heap.size,0,none⟩)) (w.alloc (.cells us.toArray elem)):=by
  intro us hus
  simp [Instr.box,newVar,newRow,hus]
 have var:∀ ns,aEL p=some ns→c={ need:=ns,val:=.ptr nx 1 0 0,upd:=[(nx,.var (fF p.1))],new:=some nx } →
   ∃ r w',(Instr.box elem v).run S.P w=.ok r w'∧Outcome S ⟨σ.T,upM σ.m c.upd,σ.sv⟩ a c.val r w':=by
  intro ns h1 hc
  subst hc
  obtain ⟨us,g1,g2,_⟩:=uF hb h1 hn hp
  obtain ⟨u1,u2⟩:=hu nx rfl
  exact ⟨_,_,run us g1,aPe h u1 elem g2 u2⟩
 unfold aVx at hc
 split at hc
 ·rename_i ns h1
  split at hc
  ·split at hc
   ·rename_i x hx
    cases hc
    obtain ⟨us,g1,g2,_⟩:=uF hb h1 hn hp
    obtain ⟨u1,u2,e,r1,r2⟩:=fQ hx g2
    simp only [AV.relL] at r2
    subst r2
    simp only [List.append_nil] at e
    subst e
    refine ⟨_,_,run _ g1,fun b=>D b∨b=w.heap.size,E,h.newData _,w.heap.size,0,us,rfl,.inr rfl,?_,?_⟩
    ·intro j u hj
     rw [Nat.zero_add]
     show (w.alloc _).cell? ⟨w.heap.size,j,none⟩=some u
     rw [World.cell?_alloc_new];simpa using hj
    ·exact aH (fun b hb=>.inl hb) (fun b hb=>heap_alloc_old w _ b (h.dlt b hb)) r1
   ·cases hc;exact var _ h1 rfl
  ·cases hc;exact var _ h1 rfl
 ·cases hc
def aLB (P:Program) (nx:Nat) (elem:TypeId):Option Core :=
 match (P.info? elem).bind (·.zero) with
 | some z=>some { val:=.ptr nx 1 0 0,upd:=[(nx,.var (z.cells.toList.map aEP))],new:=some nx }
 | none=>none
theorem aAg:∀ l:List Value,AV.namesL (l.map aEP)=[]
 | []=>rfl
 | v :: l=>by
  simp only [List.map_cons,AV.namesL,aAg l,List.append_nil]
  cases v <;> rfl
theorem yM {P:Program} {C:Ctx}:∀ l:List Value,AV.relL P C (l.map aEP) l
 | []=>rfl
 | v :: l=>⟨v,l,rfl,aEO v,yM l⟩
theorem aLA {S:Base} {σ:Sig} {a:Act} {w:World} {D:Nat→Prop} {E:Nat→Ent} (h:aZ S σ a w D E) {nx:Nat} {elem:TypeId} {c:Core}
  (hc:aLB S.P nx elem=some c) (hu:∀ k,c.new=some k→Unm k σ) :
  ∃ r w',(Instr.alloc elem true (.tuple #[])).run S.P w=.ok r w'∧Outcome S ⟨σ.T,upM σ.m c.upd,σ.sv⟩ a c.val r w':=by
 unfold aLB at hc
 split at hc
 ·rename_i z hz
  cases hc
  cases hi:S.P.info? elem with
  | none=>rw [hi] at hz;cases hz
  | some i =>
   have hz':i.zero=some z:=by rw [hi] at hz;exact hz
   refine ⟨_,w.alloc (.cells z.cells elem),?_,aPe h (hu nx rfl) elem (us:=z.cells.toList) (yM _) (by rw [aAg];simp)⟩
   simp [Instr.alloc,zeroValue,typeInfo,hi,hz',newVar,newRow]
 ·cases hc
theorem aDh {P:Program} {C:Ctx} {cs new:List AV} {us vs:List Value} (h:AV.relL P C cs us) (hn:AV.relL P C new vs) (c:Nat) (hc:c + new.length≤cs.length) :
  AV.relL P C (cs.take c ++ new ++ cs.drop (c + new.length)) (us.take c ++ vs ++ us.drop (c + vs.length)):=by
 rw [AV.relL_length hn]
 exact AV.relL_append (AV.relL_append (AV.relL_take h _) hn) (AV.relL_drop h _)
def aAp (el:TypeId) (t:Ty) (xs:List t.den) (i:Nat) (y:t.den):Blk:=.buf el t (D.set xs i y) []
def zM (el:TypeId) (t:Ty) (xs:List t.den) (i:Nat) (v:AV):Blk:=.buf el t xs [(i,v)]
def aHy:AV→Bool
 | .agg _=>true
 | _=>false
def aJV (P:Program) (t:TypeId) (p v:RV):Option Core :=
 match aEL v,sizeT P t with
 | some ns,some k =>
  if k=(fF v.1).length then
   match p with
   | (.ptr nm g i c,some (.var cs)) =>
    if c + (fF v.1).length≤cs.length then
     some { need:=[1=g,i=0] ++ ns,val:=.val undef,upd:=[(nm,.var (cs.take c ++ fF v.1 ++ cs.drop (c + (fF v.1).length)))] }
    else none
   | (.ptr nm g i c,some (.buf el ty xs [])) =>
    let old:=cellsOf ty (D.get xs i ty.dflt)
    if c + (fF v.1).length≤ty.sz then
     match gG ty (old.take c ++ fF v.1 ++ old.drop (c + (fF v.1).length)) with
     | some (y,[])=>some { need:=[xs.length=g] ++ ns,val:=.val undef,upd:=[(nm,aAp el ty xs i y)] }
     | _=>if ty.sz=1∧c=0∧aHy v.1=false then some { need:=[xs.length=g] ++ ns,val:=.val undef,upd:=[(nm,zM el ty xs i v.1)] } else none
    else none
   | (.ptr nm g i c,some (.buf el ty xs [(j,_)])) =>
    if ty.sz=1∧c=0∧aHy v.1=false then
     match gG ty (fF v.1) with
     | some (y,[])=>some { need:=[xs.length=g,i=j] ++ ns,val:=.val undef,upd:=[(nm,aAp el ty xs i y)] }
     | _=>some { need:=[xs.length=g,i=j] ++ ns,val:=.val undef,upd:=[(nm,zM el ty xs i v.1)] }
    else none
   | _=>none
  else none
 | _,_=>none
theorem jQ {P:Program} {w:World} {t:TypeId} {g o:Nat} {cur:Array Value} {el:TypeId} {u:Value} {us:List Value} (hg:w.heap[g]?=some (.cells cur el (0,0)))
  (hs:sizeT P t=some us.length) (hu:u.cells=us.toArray) (hl:o + us.length≤cur.size) (h1:∀ v ∈ us,v.oneCell'=true) :
  (Instr.storeAt t (.pointer (some ⟨g,o,none⟩)) u).run P w=.ok () (w.setRow g (cur.toList.take o ++ us ++ cur.toList.drop (o + us.length)).toArray):=by
 have h2:=run_storeCells_at (P:=P) g o el us 0 cur w hg (by simpa using hl) h1
 have h3:=dN hs w
 simp only [Nat.add_zero] at h2
 simp [Instr.storeAt,Instr.sureAddr,storeVar,hu,h3,h2]
theorem jH {w:World} {base:Nat} {el:TypeId} {sz n:Nat} {g cap:Nat} {raw:List Value} (h:w.ownsRow base el sz (.slice (some ⟨g,0,none⟩) n cap) n raw) (o:Nat) (us:List Value)
  (hl:o + us.length≤n * sz):∃ cur,w.heap[g]?=some (.cells cur el (0,0))∧o + us.length≤cur.size ∧
   (w.setRow g (cur.toList.take o ++ us ++ cur.toList.drop (o + us.length)).toArray).ownsRow base el sz (.slice (some ⟨g,0,none⟩) n cap) n (raw.take o ++ us ++ raw.drop (o + us.length)):=by
 rcases h.2 with ⟨hv,_⟩ | ⟨g',cap',cur,hv,hb,hh,hnc,hcm,hcs,htake⟩
 ·cases hv
 ·simp only [Value.slice.injEq,Option.some.injEq,Addr.mk.injEq,and_true,true_and] at hv
  obtain ⟨rfl,rfl⟩:=hv
  have hrl:=h.1
  have hcl:n * sz≤cur.size:=by rw [hcs];exact Nat.mul_le_mul_right _ hnc
  refine ⟨cur,hh,by omega,⟨?_,.inr ⟨g,cap,_,rfl,hb,setRow_heap w g cur _ el _ hh,hnc,hcm,?_,?_⟩⟩⟩
  ·simp only [List.length_append,List.length_take,List.length_drop];omega
  ·simp only [List.size_toArray,List.length_append,List.length_take,List.length_drop,Array.length_toList];omega
  ·rw [← htake]
   simp only [List.take_append,List.length_take,List.length_append,Array.length_toList,List.take_take,List.drop_take]
   rw [show min o cur.size=o by omega,show n * sz - o=us.length + (n * sz - (o + us.length)) by omega]
   rw [show min (n * sz) o=o by omega,show min o (n * sz)=o by omega]
   congr 1
   ·congr 1
    rw [List.take_of_length_le (by omega)]
theorem vX {P:Program} {C:Ctx} {t:Ty} {xs:List t.den} {raw us:List Value} {i:Nat} {y:t.den} (hrl:raw.length=xs.length * t.sz) (hi:i < xs.length)
  {ov:List (Nat×AV)} (hov:∀ k a,ov.lookup k=some a→k=i) (h:dV P C t xs ov raw) (hu:us.length=t.sz) (hy:aF C.w C.D t y us) :
  dV P C t (xs.set i y) [] (raw.take (i * t.sz) ++ us ++ raw.drop (i * t.sz + us.length)):=by
 have hp:=Ty.sz_pos t
 have hmul:∀ j,j < xs.length→j * t.sz + t.sz≤xs.length * t.sz:=fun j hj=>by
  have:=Nat.mul_le_mul_right t.sz (show j + 1≤xs.length from hj)
  rw [Nat.add_mul,Nat.one_mul] at this;exact this
 have him:=hmul i hi
 intro k z hz
 simp only [List.lookup]
 rw [List.getElem?_set] at hz
 split at hz
 ·rename_i ek
  subst ek
  ·cases hz
   have e:((raw.take (i * t.sz) ++ us ++ raw.drop (i * t.sz + us.length)).drop (i * t.sz)).take t.sz=us:=by
    rw [List.append_assoc,List.drop_append_of_le_length (by rw [List.length_take];omega),List.drop_of_length_le (by rw [List.length_take];omega),List.nil_append,← hu,List.take_left']
    rfl
   rw [e];exact hy
 ·rename_i ek
  have hk:k < xs.length:=(List.getElem?_eq_some_iff.1 hz).1
  have g:=h k z hz
  have hlk:ov.lookup k=none:=by
   cases ho:ov.lookup k with
   | none=>rfl
   | some a=>exact (ek (hov k a ho).symm).elim
  rw [hlk] at g
  have hkm:=hmul k hk
  have e:((raw.take (i * t.sz) ++ us ++ raw.drop (i * t.sz + us.length)).drop (k * t.sz)).take t.sz=(raw.drop (k * t.sz)).take t.sz:=by
   apply List.ext_getElem?
   intro q
   simp only [List.getElem?_take,List.getElem?_drop]
   split
   ·rename_i hq
    rcases Nat.lt_or_ge k i with hlt | hge
    ·have h3:k * t.sz + q < i * t.sz:=by
      have:=Nat.mul_le_mul_right t.sz (show k + 1≤i from hlt)
      rw [Nat.add_mul,Nat.one_mul] at this;omega
     rw [List.append_assoc,List.getElem?_append_left (by rw [List.length_take];omega),List.getElem?_take,if_pos h3]
    ·have h3:i * t.sz + t.sz≤k * t.sz:=by
      have:=Nat.mul_le_mul_right t.sz (show i + 1≤k by omega)
      rw [Nat.add_mul,Nat.one_mul] at this;omega
     rw [List.getElem?_append_right (by rw [List.length_append,List.length_take];omega),List.getElem?_drop]
     congr 1
     rw [List.length_append,List.length_take];omega
   ·rfl
  rw [e];exact g
theorem aAq {P:Program} {C:Ctx} {t:Ty} {xs:List t.den} {raw:List Value} {u:Value} {i:Nat} {a:AV} (hrl:raw.length=xs.length * t.sz) (hi:i < xs.length) (h1:t.sz=1)
  {ov:List (Nat×AV)} (hov:∀ k a,ov.lookup k=some a→k=i) (h:dV P C t xs ov raw) (hu:u.oneCell'=true) (hy:a.rel P C u) :
  dV P C t xs [(i,a)] (raw.take (i * t.sz) ++ [u] ++ raw.drop (i * t.sz + [u].length)):=by
 intro k z hz
 have hk:k < xs.length:=(List.getElem?_eq_some_iff.1 hz).1
 rw [h1] at hrl ⊢
 simp only [Nat.mul_one,List.length_singleton] at hrl ⊢
 simp only [List.lookup]
 by_cases ek:k=i
 ·subst ek
  simp only [beq_self_eq_true]
  refine ⟨trivial,u,?_,hu,hy⟩
  rw [List.append_assoc,List.getElem?_append_right (by rw [List.length_take];omega),List.length_take]
  rw [show k - min k raw.length=0 by omega];rfl
 ·have hb:(k == i)=false:=by simpa using ek
  simp only [hb]
  have g:=h k z hz
  have hlk:ov.lookup k=none:=by
   cases ho:ov.lookup k with
   | none=>rfl
   | some a=>exact (ek (hov k a ho)).elim
  rw [hlk,h1] at g
  simp only [Nat.mul_one] at g
  have e:((raw.take i ++ [u] ++ raw.drop (i + 1)).drop k).take 1=(raw.drop k).take 1:=by
   apply List.ext_getElem?
   intro q
   simp only [List.getElem?_take,List.getElem?_drop]
   split
   ·rename_i hq
    have:q=0:=by omega
    subst this
    simp only [Nat.add_zero]
    rcases Nat.lt_or_ge k i with hlt | hge
    ·rw [List.append_assoc,List.getElem?_append_left (by rw [List.length_take];omega),List.getElem?_take,if_pos hlt]
    ·rw [List.getElem?_append_right (by rw [List.length_append,List.length_take,List.length_singleton];omega),List.getElem?_drop]
     congr 1
     rw [List.length_append,List.length_take,List.length_singleton];omega
   ·rfl
  rw [e];exact g
theorem aS4 {α:Type} (raw us:List α) (o c n:Nat) (hc:c + us.length≤n) (hr:o + n≤raw.length) :
  raw.take o ++ ((((raw.drop o).take n).take c) ++ us ++ ((raw.drop o).take n).drop (c + us.length)) ++ raw.drop (o + n)=raw.take (o + c) ++ us ++ raw.drop (o + c + us.length):=by
 have h1:raw.take (o + c)=raw.take o ++ (raw.drop o).take c:=List.take_add
 have h2:raw.drop (o + c + us.length)=((raw.drop o).take n).drop (c + us.length) ++ raw.drop (o + n):=by
  have h3:raw.drop o=(raw.drop o).take n ++ raw.drop (o + n):=by
   rw [← List.drop_drop,List.take_append_drop]
  have h4:raw.drop (o + c + us.length)=(raw.drop o).drop (c + us.length):=by rw [List.drop_drop];congr 1;omega
  rw [h4]
  conv=>lhs;rw [h3]
  rw [List.drop_append_of_le_length (by rw [List.length_take,List.length_drop];omega)]
 rw [h1,h2,List.take_take,Nat.min_eq_left (by omega)]
 simp only [List.append_assoc]
theorem aZ.stored {S:Base} {σ:Sig} {a:Act} {w:World} {D:Nat→Prop} {E:Nat→Ent} (h:aZ S σ a w D E) {nm:Nat} {b0 b:Blk} (hm:σ.m nm=some b0) (hnil:(E nm).isNil=false)
  (hes:b0.es=b.es) (hlen:b0.len=b.len) (cs:Array Value)
  (hb:∀ C',Later ⟨w,D,σ.m,E⟩ C'→(∀ k,vJ ⟨w,D,σ.m,E⟩ C' k)→C'.w=w.setRow (E nm).b cs→iL S.P 0 C' (E nm) b) (hpr:∀ i k,rowsOf (E nm) b i k→rowsOf (E nm) b0 i k:=by (intro i k h;obtain ⟨_,_,_,_,_,_,h,_⟩:=h;cases h)) :
  ∃ D' E',aZ S ⟨σ.T,upM σ.m [(nm,b)],σ.sv⟩ a (w.setRow (E nm).b cs) D' E':=by
 have hw:∀ k,k < w.heap.size→((E nm).isNil=false→k≠(E nm).b)→(w.setRow (E nm).b cs).heap[k]?=w.heap[k]?:=fun k _ hk=>setRow_other w _ k cs (hk hnil)
 obtain ⟨L,N⟩:=h.turnLater (w':=w.setRow (E nm).b cs) (b:=b) hm (e:=E nm) hes (Nat.le_of_eq hlen) (fun _=>rfl) hw
 exact ⟨D,upE E nm (E nm),h.turnBlk (w':=w.setRow (E nm).b cs) hm (e:=E nm) hes (Nat.le_of_eq hlen) (fun _=>rfl) rfl rfl rfl (by simp) hw (fun hi=>.inr ⟨hi,rfl⟩) (hb _ L N rfl) hpr⟩
theorem aJU {S:Base} {σ:Sig} {a:Act} {w:World} {D:Nat→Prop} {E:Nat→Ent} (h:aZ S σ a w D E) {t:TypeId} {p v:RV} {c:Core} {vp u:Value}
  (hbp:p.2=fD σ.m p.1) (hbv:v.2=fD σ.m v.1) (hc:aJV S.P t p v=some c) (hn:∀ q ∈ c.need,q)
  (hp:p.1.rel S.P ⟨w,D,σ.m,E⟩ vp) (hv:v.1.rel S.P ⟨w,D,σ.m,E⟩ u) :
  c.new=none∧c.val=.val undef∧∃ w',(Instr.storeAt t vp u).run S.P w=.ok () w'∧∃ D E,aZ S ⟨σ.T,upM σ.m c.upd,σ.sv⟩ a w' D E:=by
 unfold aJV at hc
 split at hc
 case h_2=>cases hc
 rename_i ns k hone hsz
 split at hc
 case isFalse=>cases hc
 rename_i hk
 have ones:(∀ q ∈ ns,q)→∃ us:List Value,u.cells=us.toArray∧AV.relL S.P ⟨w,D,σ.m,E⟩ (fF v.1) us∧∀ z ∈ us,z.oneCell'=true:=fun hns=>uF hbv hone hns hv
 -- a pointer into a block
 have ptr:∀ nm g i c0 b,p.1=.ptr nm g i c0→σ.m nm=some b→b.len=g→i < g∧(E nm).isNil=false∧vp=.pointer (some ⟨(E nm).b,i * b.es + c0,none⟩):=fun nm g i c0 b hpe hm hl=>by
  rw [hpe] at hp;exact (hp b hm).2 hl
 split at hc
 ·rename_i nm g i c0 cs
  have hm:σ.m nm=some (.var cs):=hbp.symm
  split at hc
  case isFalse=>cases hc
  rename_i hfit
  cases hc
  obtain ⟨us,g1,g2,g3⟩:=ones (fun q hq=>hn q (by simp [hq]))
  have e1:1=g:=hn _ (by simp)
  have e2:i=0:=hn _ (by simp)
  subst e2
  obtain ⟨_,hnil,ev⟩:=ptr nm g 0 c0 _ rfl hm e1
  have ev':vp=.pointer (some ⟨(E nm).b,c0,none⟩):=by rw [ev,Nat.zero_mul,Nat.zero_add]
  obtain ⟨_,cur,el,r1,r2⟩:=h.bl nm _ hm
  have hl1:=AV.relL_length g2
  have hl2:=AV.relL_length r2
  have hcur:c0 + us.length≤cur.size:=by
   have hf:=hfit
   rw [hl1,hl2,Array.length_toList] at hf;exact hf
  have hrun:=jQ (P:=S.P) (t:=t) (o:=c0) r1 (by rw [hsz,hk,hl1]) g1 hcur g3
  refine ⟨rfl,rfl,w.setRow (E nm).b (cur.toList.take c0 ++ us ++ cur.toList.drop (c0 + us.length)).toArray,by rw [ev'];exact hrun,?_⟩
  have hes:(Blk.var cs).es=(Blk.var (cs.take c0 ++ fF v.1 ++ cs.drop (c0 + (fF v.1).length))).es:=by
   simp only [Blk.es,List.length_append,List.length_take,List.length_drop];omega
  refine aZ.stored h hm hnil hes rfl (cur.toList.take c0 ++ us ++ cur.toList.drop (c0 + us.length)).toArray fun C' L N hw=>?_
  refine ⟨hnil,(cur.toList.take c0 ++ us ++ cur.toList.drop (c0 + us.length)).toArray,el,by rw [hw];exact setRow_heap w _ cur _ el _ r1,?_⟩
  exact aDh (AV.relL_mono L (fun k _=>N k) r2) (AV.relL_mono L (fun k _=>N k) g2) c0 (by omega)
 ·rename_i nm g i c0 el ty xs
  have hm:σ.m nm=some (.buf el ty xs []):=hbp.symm
  simp only [] at hc
  split at hc
  case isFalse=>cases hc
  rename_i hfit
  have both:(∀ q ∈ ns,q)→xs.length=g→i < xs.length∧∃ us raw cur,(E nm).isNil=false∧u.cells=us.toArray∧AV.relL S.P ⟨w,D,σ.m,E⟩ (fF v.1) us∧(∀ z ∈ us,z.oneCell'=true) ∧
    raw.length=xs.length * ty.sz∧dV S.P ⟨w,D,σ.m,E⟩ ty xs [] raw∧us.length=(fF v.1).length ∧
    (Instr.storeAt t vp u).run S.P w=.ok () (w.setRow (E nm).b cur) ∧
    (w.setRow (E nm).b cur).ownsRow 0 el ty.sz ((E nm).handle xs.length) xs.length (raw.take (i * ty.sz + c0) ++ us ++ raw.drop (i * ty.sz + c0 + us.length)):=by
   intro hns e1
   obtain ⟨us,g1,g2,g3⟩:=ones hns
   obtain ⟨hi,hnil,e⟩:=ptr nm g i c0 _ rfl hm e1
   obtain ⟨raw,r1,r2⟩:=h.bl nm _ hm
   have hi':i < xs.length:=by omega
   have hl1:=AV.relL_length g2
   have hhd:(E nm).handle xs.length=.slice (some ⟨(E nm).b,0,none⟩) xs.length (E nm).cap:=by unfold Ent.handle;rw [hnil];rfl
   rw [hhd] at r1
   have hmul:i * ty.sz + ty.sz≤xs.length * ty.sz:=by
    have:=Nat.mul_le_mul_right ty.sz (show i + 1≤xs.length from hi')
    rw [Nat.add_mul,Nat.one_mul] at this;exact this
   obtain ⟨cur,q1,q2,q3⟩:=jH r1 (i * ty.sz + c0) us (by omega)
   refine ⟨hi',us,raw,_,hnil,g1,g2,g3,r1.1,r2,hl1.symm,?_,by rw [hhd];exact q3⟩
   rw [e]
   exact jQ q1 (by rw [hsz,hk,hl1]) g1 q2 g3
  split at hc
  ·rename_i y hy
   cases hc
   obtain ⟨hi,us,raw,cur,hnil,_,g2,_,hrl,r2,hul,hrun,hown⟩:=both (fun q hq=>hn q (by simp [hq])) (hn _ (by simp))
   refine ⟨rfl,rfl,_,hrun,h.stored hm hnil (by simp [aAp,Blk.es]) (by simp [aAp,Blk.len]) cur fun C' L N hw=>?_⟩
   have hx:=r2 i _ (getElem?_getD (d:=ty.dflt) hi)
   simp only [List.lookup] at hx
   have hmul:i * ty.sz + ty.sz≤xs.length * ty.sz:=by
    have:=Nat.mul_le_mul_right ty.sz (show i + 1≤xs.length from hi)
    rw [Nat.add_mul,Nat.one_mul] at this;exact this
   have hol:=fM (P:=S.P) (C:=⟨w,D,σ.m,E⟩) hx
   have hnew:=aDh hol g2 c0 (by have:=AV.relL_length hol;rw [List.length_take,List.length_drop] at this;omega)
   obtain ⟨u1,u2,e,q1,q2⟩:=fQ hy hnew
   simp only [AV.relL] at q2
   subst q2
   simp only [List.append_nil] at e
   have q1':aF C'.w C'.D ty y u1:=aH L.D L.w q1
   have hul1:=bG q1
   refine ⟨raw.take (i * ty.sz + c0) ++ us ++ raw.drop (i * ty.sz + c0 + us.length),by rw [hw];simpa [aAp] using hown,?_⟩
   have fin:=vX (ov:=[]) hrl hi (fun k a hk=>by simp at hk) (bT L (fun k _=>N k) r2) hul1 q1'
   have e3:raw.take (i * ty.sz) ++ u1 ++ raw.drop (i * ty.sz + u1.length)=raw.take (i * ty.sz + c0) ++ us ++ raw.drop (i * ty.sz + c0 + us.length):=by
    rw [hul1,← e]
    have hseg:=aS4 raw us (i * ty.sz) c0 ty.sz (by omega) (by omega)
    exact hseg
   rw [← e3];exact fin
  ·split at hc
   case isFalse=>cases hc
   rename_i hone1
   obtain ⟨hz1,hc0,hagg⟩:=hone1
   cases hc
   obtain ⟨hi,us,raw,cur,hnil,_,g2,g3,hrl,r2,hul,hrun,hown⟩:=both (fun q hq=>hn q (by simp [hq])) (hn _ (by simp))
   obtain ⟨z,hz,hzr⟩:∃ z,us=[z]∧v.1.rel S.P ⟨w,D,σ.m,E⟩ z:=by
    have hcv:fF v.1=[v.1]:=by
     cases hq:v.1 <;> first | rfl | (rw [hq] at hagg;cases hagg)
    rw [hcv] at g2
    obtain ⟨z,us',e,q1,q2⟩:=g2
    simp only [AV.relL] at q2
    subst q2
    exact ⟨z,e,q1⟩
   subst hz hc0
   refine ⟨rfl,rfl,_,hrun,h.stored hm hnil (by simp [zM,Blk.es]) (by simp [zM,Blk.len]) cur fun C' L N hw=>?_⟩
   refine ⟨raw.take (i * ty.sz + 0) ++ [z] ++ raw.drop (i * ty.sz + 0 + [z].length),by rw [hw];exact hown,?_⟩
   exact aAq (ov:=[]) hrl hi hz1 (fun k a hk=>by simp at hk) (bT L (fun k _=>N k) r2) (g3 z (by simp)) (AV.rel_mono L (fun k _=>N k) hzr)
 ·rename_i nm g i c0 el ty xs j av
  have hm:σ.m nm=some (.buf el ty xs [(j,av)]):=hbp.symm
  split at hc
  case isFalse=>cases hc
  rename_i hone1
  obtain ⟨hz1,hc0,hagg⟩:=hone1
  subst hc0
  have hov:i=j→∀ k a,List.lookup k [(j,av)]=some a→k=i:=fun e k a hk=>by
   simp only [List.lookup] at hk
   split at hk
   ·rename_i hkj;rw [e];simpa using hkj
   ·cases hk
  have both:(∀ q ∈ ns,q)→xs.length=g→i < xs.length∧∃ z raw cur,(E nm).isNil=false∧v.1.rel S.P ⟨w,D,σ.m,E⟩ z∧AV.relL S.P ⟨w,D,σ.m,E⟩ (fF v.1) [z]∧z.oneCell'=true ∧
    raw.length=xs.length * ty.sz∧dV S.P ⟨w,D,σ.m,E⟩ ty xs [(j,av)] raw ∧
    (Instr.storeAt t vp u).run S.P w=.ok () (w.setRow (E nm).b cur) ∧
    (w.setRow (E nm).b cur).ownsRow 0 el ty.sz ((E nm).handle xs.length) xs.length (raw.take (i * ty.sz) ++ [z] ++ raw.drop (i * ty.sz + [z].length)):=by
   intro hns e1
   obtain ⟨us,g1,g2,g3⟩:=ones hns
   obtain ⟨z,hz,hzr⟩:∃ z,us=[z]∧v.1.rel S.P ⟨w,D,σ.m,E⟩ z:=by
    have hcv:fF v.1=[v.1]:=by
     cases hq:v.1 <;> first | rfl | (rw [hq] at hagg;cases hagg)
    rw [hcv] at g2
    obtain ⟨z,us',e,q1,q2⟩:=g2
    simp only [AV.relL] at q2
    subst q2
    exact ⟨z,e,q1⟩
   subst hz
   obtain ⟨hi,hnil,e⟩:=ptr nm g i 0 _ rfl hm e1
   obtain ⟨raw,r1,r2⟩:=h.bl nm _ hm
   have hi':i < xs.length:=by omega
   have hl1:=AV.relL_length g2
   have hhd:(E nm).handle xs.length=.slice (some ⟨(E nm).b,0,none⟩) xs.length (E nm).cap:=by unfold Ent.handle;rw [hnil];rfl
   rw [hhd] at r1
   have hmul:i * ty.sz + ty.sz≤xs.length * ty.sz:=by
    have:=Nat.mul_le_mul_right ty.sz (show i + 1≤xs.length from hi')
    rw [Nat.add_mul,Nat.one_mul] at this;exact this
   obtain ⟨cur,q1,q2,q3⟩:=jH r1 (i * ty.sz) [z] (by rw [List.length_singleton];omega)
   refine ⟨hi',z,raw,_,hnil,hzr,g2,g3 z (by simp),r1.1,r2,?_,by rw [hhd];exact q3⟩
   have e':vp=.pointer (some ⟨(E nm).b,i * ty.sz,none⟩):=by rw [e];rfl
   rw [e']
   exact jQ q1 (by rw [hsz,hk,hl1]) g1 q2 g3
  split at hc
  ·rename_i y hy
   cases hc
   obtain ⟨hi,z,raw,cur,hnil,hzr,g2,_,hrl,r2,hrun,hown⟩:=both (fun q hq=>hn q (by simp [hq])) (hn _ (by simp))
   have eij:i=j:=hn _ (by simp)
   refine ⟨rfl,rfl,_,hrun,h.stored hm hnil (by simp [aAp,Blk.es]) (by simp [aAp,Blk.len]) cur fun C' L N hw=>?_⟩
   obtain ⟨u1,u2,e,q1,q2⟩:=fQ hy g2
   simp only [AV.relL] at q2
   subst q2
   simp only [List.append_nil] at e
   subst e
   refine ⟨raw.take (i * ty.sz) ++ [z] ++ raw.drop (i * ty.sz + [z].length),by rw [hw];simpa [aAp] using hown,?_⟩
   exact vX hrl hi (hov eij) (bT L (fun k _=>N k) r2) (by rw [hz1];rfl) (aH L.D L.w q1)
  ·cases hc
   obtain ⟨hi,z,raw,cur,hnil,hzr,g2,g3,hrl,r2,hrun,hown⟩:=both (fun q hq=>hn q (by simp [hq])) (hn _ (by simp))
   have eij:i=j:=hn _ (by simp)
   refine ⟨rfl,rfl,_,hrun,h.stored hm hnil (by simp [zM,Blk.es]) (by simp [zM,Blk.len]) cur fun C' L N hw=>?_⟩
   refine ⟨raw.take (i * ty.sz) ++ [z] ++ raw.drop (i * ty.sz + [z].length),by rw [hw];exact hown,?_⟩
   exact aAq hrl hi hz1 (hov eij) (bT L (fun k _=>N k) r2) g3 (AV.rel_mono L (fun k _=>N k) hzr)
 ·cases hc
end Go.Eng
