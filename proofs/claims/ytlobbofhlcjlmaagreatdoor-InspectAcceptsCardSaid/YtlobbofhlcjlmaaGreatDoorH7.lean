/- The engine, part 7: slice literals, make, append. -/
import Derived.Test.YtlobbofhlcjlmaaGreatDoorH6
set_option linter.unusedSimpArgs false
set_option linter.unusedVariables false
namespace Go.Eng
open Go.RowKit
theorem foldl_set (cs:List Value):∀ (A:Array Value) (off k:Nat),off + k + cs.length≤A.size →
  ((cs.zipIdx k).foldl (fun a (c,j)=>a.setIfInBounds (off + j) c) A).toList=A.toList.take (off + k) ++ cs ++ A.toList.drop (off + k + cs.length):=by
 induction cs with
 | nil=>intro A off k _;simp
 | cons c cs ih =>
  intro A off k h
  simp only [List.length_cons] at h
  simp only [List.zipIdx_cons,List.foldl_cons]
  have h2:=ih (A.setIfInBounds (off + k) c) off (k + 1) (by simp;omega)
  rw [h2,Array.toList_setIfInBounds]
  have e:=list_seg_step A.toList (off + k) c cs (by simp;omega)
  simpa [Nat.add_assoc,Nat.add_comm 1] using e
theorem fill_dense (sz:Nat):∀ (vals:List Value) (uss:List (List Value)) (k:Nat) (A:Array Value),vals.length=uss.length →
  (∀ (i:Nat) v us,vals[i]?=some v→uss[i]?=some us→v.cells=us.toArray∧us.length=sz)→(k + vals.length) * sz≤A.size →
  ∃ B:Array Value,Instr.fill (fun i=>some (i * sz,sz)) A ((List.range' k vals.length).zip vals)=some B∧B.toList=A.toList.take (k * sz) ++ uss.flatten ++ A.toList.drop ((k + vals.length) * sz)
 | [],uss,k,A,hl,_,_=>by
  have:uss=[]:=List.eq_nil_of_length_eq_zero (by simpa using hl.symm)
  subst this
  exact ⟨A,by simp [Instr.fill],by simp⟩
 | v :: vals,uss,k,A,hl,h,hs=>by
  match uss,hl with
  | us :: uss,hl =>
   obtain ⟨h1,h2⟩:=h 0 v us rfl rfl
   simp only [List.length_cons] at hs hl
   have e1:(k + (vals.length + 1)) * sz=k * sz + sz + vals.length * sz:=by rw [Nat.add_mul,Nat.add_mul,Nat.one_mul];omega
   have hset:=foldl_set us A (k * sz) 0 (by omega)
   generalize hA:(us.zipIdx 0).foldl (fun a (c,j)=>a.setIfInBounds (k * sz + j) c) A=A' at hset
   have hsz:A'.size=A.size:=by
    have h9:=congrArg List.length hset
    simp only [List.length_append,List.length_take,List.length_drop,Array.length_toList,h2] at h9
    omega
   obtain ⟨B,g1,g2⟩:=fill_dense sz vals uss (k + 1) A' (by omega) (fun i v us hv hu=>h (i + 1) v us (by simpa using hv) (by simpa using hu)) (by rw [hsz,Nat.add_assoc,Nat.add_comm 1];exact hs)
   refine ⟨B,?_,?_⟩
   ·simp only [List.length_cons,List.range'_succ,List.zip_cons_cons,Instr.fill,h1]
    have hx:us.toArray.size=sz:=by simpa using h2
    have hif:¬ (us.toArray.size≠sz∨k * sz + us.toArray.size > A.size):=by rw [hx];omega
    rw [if_neg (by simpa using hif)]
    have hz:us.toArray.zipIdx.foldl (fun cs x=>cs.setIfInBounds (k * sz + x.2) x.1) A=A':=by
     rw [← hA,← Array.foldl_toList]
     simp
    simp only [Nat.add_comm] at hz g1 ⊢
    rw [hz];exact g1
   ·rw [g2,hset]
    simp only [Nat.add_zero,List.flatten_cons]
    have e2:(k + 1) * sz=k * sz + sz:=by rw [Nat.add_mul,Nat.one_mul]
    have e3:(k + 1 + vals.length) * sz=k * sz + sz + vals.length * sz:=by rw [Nat.add_mul,Nat.add_mul,Nat.one_mul]
    have e4:(k + (v :: vals).length) * sz=k * sz + sz + vals.length * sz:=by rw [List.length_cons];exact e1
    rw [e2,e3,e4,h2]
    have l1:(A.toList.take (k * sz) ++ us).length=k * sz + sz:=by
     rw [List.length_append,List.length_take,Array.length_toList];omega
    rw [List.take_append_of_le_length (by omega),List.take_of_length_le (by omega)]
    rw [List.drop_append,List.drop_of_length_le (by omega),l1,List.nil_append,List.drop_drop]
    rw [show k * sz + sz + (k * sz + sz + vals.length * sz - (k * sz + sz))=k * sz + sz + vals.length * sz by omega]
    simp only [List.append_assoc]
def aFk (ty:Ty):List AV→Option (List ty.den)
 | []=>some []
 | v :: vs=>match gG ty (fF v),aFk ty vs with
  | some (x,[]),some xs=>some (x :: xs)
  | _,_=>none
theorem aDU {P:Program} {C:Ctx} {a:AV} {ty:Ty} {x:ty.den} {v:Value} (h:gG ty (fF a)=some (x,[])) (hr:a.rel P C v) :
  ∃ us:List Value,v.cells=us.toArray∧aF C.w C.D ty x us:=by
 have one:AV.relL P C [a] [v]→fF a=[a]→∃ us:List Value,v.cells=us.toArray∧aF C.w C.D ty x us:=by
  intro h1 h2
  rw [h2] at h
  obtain ⟨u1,u2,e,r1,r2⟩:=fQ h h1
  simp only [AV.relL] at r2
  subst r2
  simp only [List.append_nil] at e
  subst e
  have:=jV r1 v (by simp)
  exact ⟨[v],(by cases v <;> first | rfl | (cases this)),r1⟩
 by_cases hag:aHy a=true
 ·cases a <;> first | (cases hag;done) | skip
  obtain ⟨us,e,g⟩:=hr
  subst e
  obtain ⟨u1,u2,e,r1,r2⟩:=fQ h g
  simp only [AV.relL] at r2
  subst r2
  simp only [List.append_nil] at e
  subst e
  exact ⟨us,rfl,r1⟩
 ·exact one ⟨v,[],rfl,hr,rfl⟩ (by cases a <;> first | rfl | exact (hag rfl).elim)
theorem aFj {P:Program} {C:Ctx} {ty:Ty}:∀ {vs:List AV} {xs:List ty.den} {vals:List Value},aFk ty vs=some xs→AV.relL P C vs vals →
  xs.length=vals.length∧∃ uss:List (List Value),vals.length=uss.length∧(∀ (i:Nat) v us,vals[i]?=some v→uss[i]?=some us→v.cells=us.toArray∧us.length=ty.sz) ∧
   ∀ (i:Nat) y us,xs[i]?=some y→uss[i]?=some us→aF C.w C.D ty y us
 | [],xs,vals,h,hr=>by
  simp only [aFk] at h;cases h
  simp only [AV.relL] at hr;subst hr
  exact ⟨rfl,[],rfl,fun i v us hv=>by simp at hv,fun i y us hy=>by simp at hy⟩
 | a :: vs,xs,vals,h,hr=>by
  simp only [aFk] at h
  split at h
  ·rename_i x xs' h1 h2
   cases h
   obtain ⟨v,vals',e,r1,r2⟩:=hr
   subst e
   obtain ⟨us,q1,q2⟩:=aDU h1 r1
   obtain ⟨l1,uss,l2,g1,g2⟩:=aFj h2 r2
   refine ⟨by simp [l1],us :: uss,by simp [l2],fun i v' us' hv hu=>?_,fun i y us' hy hu=>?_⟩
   ·cases i with
    | zero=>simp at hv hu;subst hv hu;exact ⟨q1,bG q2⟩
    | succ i=>exact g1 i v' us' (by simpa using hv) (by simpa using hu)
   ·cases i with
    | zero=>simp at hy hu;subst hy hu;exact q2
    | succ i=>exact g2 i y us' (by simpa using hy) (by simpa using hu)
  ·cases h
theorem kY {α:Type} (sz:Nat):∀ (uss:List (List α)),(∀ us ∈ uss,us.length=sz)→∀ (i:Nat) (us:List α),uss[i]?=some us→(uss.flatten.drop (i * sz)).take sz=us
 | [],_,i,us,h=>by simp at h
 | u :: uss,hl,i,us,h=>by
  have hu:=hl u (by simp)
  cases i with
  | zero =>
   simp at h;subst h
   rw [Nat.zero_mul,List.drop_zero,List.flatten_cons,List.take_append_of_le_length (by omega),List.take_of_length_le (by omega)]
  | succ i =>
   have ih:=kY sz uss (fun us hus=>hl us (by simp [hus])) i us (by simpa using h)
   rw [List.flatten_cons,show (i + 1) * sz=u.length + i * sz by rw [Nat.add_mul,Nat.one_mul,hu];omega,← List.drop_drop,List.drop_left]
   exact ih
theorem jJ {α:Type} (sz:Nat):∀ (uss:List (List α)),(∀ us ∈ uss,us.length=sz)→uss.flatten.length=uss.length * sz
 | [],_=>by simp
 | u :: uss,h=>by
  rw [List.flatten_cons,List.length_append,jJ sz uss (fun us hus=>h us (by simp [hus])),h u (by simp),List.length_cons,Nat.add_mul,Nat.one_mul];omega
def aNK (P:Program) (e:TypeId):Bool:=match P.info? e with
 | some i=>i.zero.isSome
 | none=>false
def aVk (P:Program) (mt:Bool) (nx:Nat) (t:TypeId) (len:Nat) (idxs:List Nat) (vs:List AV):Option Core :=
 match gZ P t with
 | some e=>match aJa P e with
  | some ty=>if idxs=List.range' 0 vs.length∧vs.length=len∧len * ty.sz≤16777216∧aNK P e=true then
    match aFk ty vs with
    | some xs=>if mt=true∨len=0 then some { val:=.buf nx len,upd:=[(nx,.buf e ty xs [])],new:=some nx } else some { val:=.dat (.sl ty) xs }
    | none=>none
   else none
  | none=>none
 | none=>none
theorem aKb {P:Program} {w:World} {t e:TypeId} {ty:Ty} {vals:List Value} {uss:List (List Value)} (he:gZ P t=some e) (hsz:sizeT P e=some ty.sz) (hlit:aNK P e=true)
  (hfit:vals.length * ty.sz≤16777216) (hl:vals.length=uss.length) (hu:∀ (i:Nat) v us,vals[i]?=some v→uss[i]?=some us→v.cells=us.toArray∧us.length=ty.sz) :
  (Instr.buildSlice t vals.length ((List.range' 0 vals.length).zip vals).toArray).run P w=.ok (.slice (some ⟨w.heap.size,0,none⟩) vals.length vals.length) (w.alloc (.cells uss.flatten.toArray e)):=by
 have hue:=eH he
 unfold aNK at hlit
 unfold sizeT at hsz
 cases hi:P.info? e with
 | none=>rw [hi] at hlit;cases hlit
 | some i =>
  rw [hi] at hlit hsz
  simp only [Option.map_some,Option.some.injEq] at hsz
  cases hz:i.zero with
  | none=>simp [hz] at hlit
  | some z =>
   have hall:∀ us ∈ uss,us.length=ty.sz:=fun us hus=>by
    obtain ⟨k,hk⟩:=List.mem_iff_getElem?.1 hus
    have hk':k < vals.length:=by rw [hl];exact (List.getElem?_eq_some_iff.1 hk).1
    exact (hu k vals[k] us (List.getElem?_eq_getElem hk') hk).2
   have fl:=jJ ty.sz uss hall
   have key:∀ A:Array Value,A.size=vals.length * ty.sz→Instr.fill (fun i=>some (i * ty.sz,ty.sz)) A ((List.range' 0 vals.length).zip vals)=some uss.flatten.toArray:=by
    intro A hA
    obtain ⟨B,g1,g2⟩:=fill_dense ty.sz vals uss 0 A hl hu (by rw [Nat.zero_add];omega)
    rw [g1]
    congr 1
    apply Array.ext'
    rw [g2,Nat.zero_mul,Nat.zero_add,List.take_zero,List.nil_append,List.drop_of_length_le (by rw [Array.length_toList];omega),List.append_nil]
   have n1:¬ vals.length * ty.sz > 2 ^ 24:=by omega
   by_cases h0:vals.length * ty.sz=0
   ·have k:=key ((Array.range (vals.length * ty.sz)).map (((#[]:Array Value))[· % 0]!)) (by simp)
    simp only [Instr.buildSlice,Sem.run_bind,run_underlying hue,Result.andThen_ok,dN (P:=P) (t:=e) (n:=ty.sz) (by simp [sizeT,hi,hsz]),if_neg n1,Sem.run_pure,if_pos h0]
    simp only [List.size_toArray,List.length_nil,k,newRow,Sem.run_bind,run_newObj,Result.andThen_ok,Sem.run_pure,World.alloc_eq]
   ·have k:=key ((Array.range (vals.length * ty.sz)).map (z.cells[· % z.cells.size]!)) (by simp)
    simp only [Instr.buildSlice,Sem.run_bind,run_underlying hue,Result.andThen_ok,dN (P:=P) (t:=e) (n:=ty.sz) (by simp [sizeT,hi,hsz]),if_neg n1,Sem.run_pure,if_neg h0]
    simp only [zeroValue,typeInfo,Sem.run_bind,run_program,Result.andThen_ok,hi,Sem.run_pure,hz,k,newRow,run_newObj,World.alloc_eq]
theorem Unm.notIn {nm:Nat} {σ:Sig} (h:Unm nm σ) (l:List (Nat×AV)) (hl:l=[]):nm ∉ AV.namesL (l.map (·.2)):=by subst hl;simp [AV.namesL]
theorem aHo {S:Base} {σ:Sig} {a:Act} {w w':World} {D:Nat→Prop} {E:Nat→Ent} (h:aZ S σ a w D E) {nx:Nat} (hu:Unm nx σ) {e:TypeId} {ty:Ty} {xs:List ty.den} {raw:List Value} {cap:Nat}
  (hw:Below w.heap.size w w') (hs:w.heap.size < w'.heap.size)
  (hown:w'.ownsRow 0 e ty.sz (.slice (some ⟨w.heap.size,0,none⟩) xs.length cap) xs.length raw)
  (hel:∀ (i:Nat) y,xs[i]?=some y→aF w D ty y ((raw.drop (i * ty.sz)).take ty.sz)) :
  Outcome S ⟨σ.T,upM σ.m [(nx,.buf e ty xs [])],σ.sv⟩ a (.buf nx xs.length) (.slice (some ⟨w.heap.size,0,none⟩) xs.length cap) w':=by
 have e3:upE E nx (⟨w.heap.size,cap,false,noR⟩:Ent) nx=⟨w.heap.size,cap,false,noR⟩:=by simp [upE]
 refine ⟨D,upE E nx ⟨w.heap.size,cap,false,noR⟩,h.newBlk hu hw (fun _=>⟨rfl,hs⟩) ⟨raw,hown,?_⟩,fun b hb=>?_⟩
 ·intro i y hy
  simp only [List.lookup]
  exact aH (fun b hb=>hb) (fun b hb=>hw.block b (h.dlt b hb)) (hel i y hy)
 ·replace hb:upM σ.m [(nx,.buf e ty xs [])] nx=some b:=hb
  rw [gB,if_pos rfl] at hb
  cases hb
  refine ⟨Nat.le_refl _,fun _=>?_⟩
  show _=(upE E nx _ nx).handle _
  rw [e3];rfl
theorem qP (w:World) (o:Obj):Below w.heap.size w (w.alloc o) :=
 ⟨rfl,rfl,rfl,by rw [World.size_alloc];omega,fun k hk=>heap_alloc_old w _ k hk⟩
theorem aQT {S:Base} {σ:Sig} {a:Act} {w:World} {D:Nat→Prop} {E:Nat→Ent} (h:aZ S σ a w D E) {mt:Bool} {nx len:Nat} {t:TypeId} {idxs:List Nat} {vs:List AV} {vals:List Value} {c:Core}
  (hc:aVk S.P mt nx t len idxs vs=some c) (hr:AV.relL S.P ⟨w,D,σ.m,E⟩ vs vals) (hu:∀ k,c.new=some k→Unm k σ) :
  c.need=[]∧∃ r w',(Instr.buildSlice t len (idxs.zip vals).toArray).run S.P w=.ok r w'∧Outcome S ⟨σ.T,upM σ.m c.upd,σ.sv⟩ a c.val r w':=by
 unfold aVk at hc
 split at hc
 case h_2=>cases hc
 rename_i e he
 split at hc
 case h_2=>cases hc
 rename_i ty hty
 split at hc
 case isFalse=>cases hc
 rename_i hcond
 obtain ⟨h1,h2,h3,h4⟩:=hcond
 split at hc
 case h_2=>cases hc
 rename_i xs hxs
 have hsz:=aD8 hty
 obtain ⟨l1,uss,l2,g1,g2⟩:=aFj hxs hr
 have hvl:=AV.relL_length hr
 have hlen:vals.length=len:=by omega
 have hrun:=aKb (w:=w) he hsz h4 (by rw [hlen];exact h3) l2 g1
 rw [← hvl,← h1,hvl,hlen] at hrun
 have hall:∀ us ∈ uss,us.length=ty.sz:=fun us hus=>by
  obtain ⟨k,hk⟩:=List.mem_iff_getElem?.1 hus
  have hk':k < vals.length:=by rw [l2];exact (List.getElem?_eq_some_iff.1 hk).1
  exact (g1 k vals[k] us (List.getElem?_eq_getElem hk') hk).2
 have hraw:∀ (i:Nat) (y:ty.den),xs[i]?=some y→aF w D ty y ((uss.flatten.drop (i * ty.sz)).take ty.sz):=by
  intro i y hy
  have hi:i < uss.length:=by rw [← l2,← l1];exact (List.getElem?_eq_some_iff.1 hy).1
  have hg:=List.getElem?_eq_getElem hi
  rw [kY ty.sz uss hall i _ hg]
  exact g2 i y _ hy hg
 have hfl:=jJ ty.sz uss hall
 split at hc
 ·cases hc
  refine ⟨rfl,_,_,hrun,?_⟩
  have hxl:xs.length=len:=by omega
  have hown:(w.alloc (.cells uss.flatten.toArray e)).ownsRow 0 e ty.sz (.slice (some ⟨w.heap.size,0,none⟩) xs.length xs.length) xs.length uss.flatten:=by
   have:=World.ownsRow_lit (base:=0) (e:=e) (size:=ty.sz) w uss.flatten.toArray xs.length (Nat.zero_le _) (by
    have:xs.length≤xs.length * ty.sz:=Nat.le_mul_of_pos_right _ (Ty.sz_pos ty)
    rw [hxl] at this ⊢;unfold maxLen;omega) (by rw [List.size_toArray,hfl,← l2,← l1])
   simpa using this
  have out:=aHo h (hu nx rfl) (qP w _) (by rw [World.size_alloc];omega) hown hraw
  rw [hxl] at out
  exact out
 ·cases hc
  refine ⟨rfl,_,_,hrun,fun b=>D b∨b=w.heap.size,E,h.newData _,?_⟩
  have hxl:List.length xs=len:=by omega
  refine ⟨some ⟨w.heap.size,0,none⟩,len,by rw [hxl],by omega,(fun h=>by cases h),(fun a ha _=>by cases ha;rfl),fun i y hy=>?_⟩
  refine ⟨⟨w.heap.size,0,none⟩,_,rfl,.inr rfl,?_,aH (fun b hb=>.inl hb) (fun b hb=>heap_alloc_old w _ b (h.dlt b hb)) (hraw i y hy)⟩
  intro j u hj
  rw [List.getElem?_take] at hj
  split at hj
  ·rw [List.getElem?_drop] at hj
   show (w.alloc _).cell? ⟨w.heap.size,0 + i * ty.sz + j,none⟩=some u
   rw [Nat.zero_add,World.cell?_alloc_new]
   simpa using hj
  ·cases hj
def aTn (nx:Nat) (e:TypeId) (ty:Ty) (bytes:Nat) (n:Int):Core :=
 { need:=[0≤n,(bytes:Int) * n≤281474976710656,n≤9223372036854775807],val:=.buf nx (D.nat n),upd:=[(nx,.buf e ty (D.rep n ty.dflt) [])],new:=some nx }
def aTm (nx:Nat) (e:TypeId) (ty:Ty) (bytes:Nat) (n:Int):Core :=
 { need:=[0≤n,(bytes:Int) * n≤281474976710656,n≤9223372036854775807],val:=.buf nx 0,upd:=[(nx,.buf e ty [] [])],new:=some nx }
def zeroCells:Ty→List Value
 | .int k=>[.int k 0]
 | .bool=>[.bool false]
 | .str=>[.string ByteArray.empty]
 | .sl _=>[.slice none 0 0]
 | .pair a b=>zeroCells a ++ zeroCells b
theorem kC (w:World) (D:Nat→Prop):∀ t:Ty,aF w D t t.dflt (zeroCells t)
 | .int _ | .bool | .str=>rfl
 | .sl e=>bU w D e
 | .pair a b=>⟨_,_,rfl,kC w D a,kC w D b⟩
def aFN:Ty→Value→Bool
 | .int k,.int k' n=>decide (k=k') && decide (n=0)
 | .bool,.bool b=>!b
 | .str,.string s=>s.data.size == 0
 | .sl _,.slice none 0 0=>true
 | _,_=>false
theorem aL2 {t:Ty} {v:Value} (h:aFN t v=true):zeroCells t=[v]:=by
 unfold aFN at h
 split at h
 ·simp only [Bool.and_eq_true,decide_eq_true_eq] at h
  obtain ⟨rfl,rfl⟩:=h;rfl
 ·simp only [Bool.not_eq_true'] at h
  subst h;rfl
 ·rename_i s
  have:s=ByteArray.empty:=by
   cases s with | mk d =>
    have:d=#[]:=Array.eq_empty_of_size_eq_zero (by simpa using h)
    subst this;rfl
  rw [this];rfl
 ·rfl
 ·cases h
def isZero:Ty→List Value→Option (List Value)
 | .pair a b,l=>match isZero a l with | some r=>isZero b r | none=>none
 | .int k,v :: r=>if aFN (.int k) v then some r else none
 | .bool,v :: r=>if aFN .bool v then some r else none
 | .str,v :: r=>if aFN .str v then some r else none
 | .sl e,v :: r=>if aFN (.sl e) v then some r else none
 | .int _,[] | .bool,[] | .str,[] | .sl _,[]=>none
theorem uK {t:Ty} {v:Value} {r r':List Value} (h:(if aFN t v then some r else none)=some r'):v :: r=zeroCells t ++ r':=by
 split at h
 ·rename_i h1;cases h;rw [aL2 h1];rfl
 ·cases h
theorem xQ:∀ {t:Ty} {l r:List Value},isZero t l=some r→l=zeroCells t ++ r
 | .int k,v :: l,r,h=>by simp only [isZero] at h;exact uK h
 | .bool,v :: l,r,h=>by simp only [isZero] at h;exact uK h
 | .str,v :: l,r,h=>by simp only [isZero] at h;exact uK h
 | .sl _,v :: l,r,h=>by simp only [isZero] at h;exact uK h
 | .int _,[],r,h=>by simp [isZero] at h
 | .bool,[],r,h=>by simp [isZero] at h
 | .str,[],r,h=>by simp [isZero] at h
 | .sl _,[],r,h=>by simp [isZero] at h
 | .pair a b,l,r,h=>by
  simp only [isZero] at h
  split at h
  ·rename_i r1 h1
   rw [xQ h1,xQ h];simp [zeroCells]
  ·cases h
def aAS (P:Program) (e:TypeId) (ty:Ty):Option Nat:=match P.info? e with
 | some i=>match i.zero with
  | some z=>match isZero ty z.cells.toList with
   | some []=>if i.size=ty.sz then some i.bytes else none
   | _=>none
  | none=>none
 | none=>none
theorem lY {P:Program} {e:TypeId} {ty:Ty} {bytes:Nat} (h:aAS P e ty=some bytes):∃ i z,P.info? e=some i∧i.zero=some z∧i.size=ty.sz∧i.bytes=bytes∧z.cells.toList=zeroCells ty:=by
 unfold aAS at h
 split at h
 ·rename_i i hi
  split at h
  ·rename_i z hz
   split at h
   ·rename_i h3
    split at h
    ·rename_i hs
     cases h
     exact ⟨i,z,hi,hz,hs,rfl,by have:=xQ h3;simpa using this⟩
    ·cases h
   ·cases h
  ·cases h
 ·cases h
theorem bJ:∀ t:Ty,(zeroCells t).length=t.sz
 | .int _ | .bool | .str | .sl _=>rfl
 | .pair a b=>by simp [zeroCells,Ty.sz,bJ a,bJ b]
def aQS (P:Program) (nx:Nat) (t:TypeId) (l c:AV) (same:Bool):Option Core :=
 match gZ P t with
 | some e=>match aJa P e with
  | some ty=>match aAS P e ty with
   | some bytes=>match l,c with
    | .dat (.int _) l,.dat (.int _) c=>if same then some (aTn nx e ty bytes c) else
      match l with
      | .ofNat 0=>some (aTm nx e ty bytes c)
      | _=>none
    | _,_=>none
   | none=>none
  | none=>none
 | none=>none
theorem vH (z:Array Value) (sz:Nat) (hz:z.size=sz) (_hp:0 < sz) (n:Nat):(madeCells z (n * sz)).toList=(List.replicate n z.toList).flatten:=by
 apply List.ext_getElem?
 intro j
 have hlen:(List.replicate n z.toList).flatten.length=n * sz:=by
  rw [jJ sz _ (fun us hus=>by rw [List.eq_of_mem_replicate hus];simpa using hz),List.length_replicate]
 by_cases hj:j < n * sz
 ·have hq:j / sz < n:=(Nat.div_lt_iff_lt_mul _hp).2 hj
  have hr:j % sz < sz:=Nat.mod_lt _ _hp
  have hg:(List.replicate n z.toList)[j / sz]?=some z.toList:=by rw [List.getElem?_replicate,if_pos hq]
  have hseg:=kY sz (List.replicate n z.toList) (fun us hus=>by rw [List.eq_of_mem_replicate hus];simpa using hz) _ _ hg
  have h1:((List.replicate n z.toList).flatten)[j]?=z.toList[j % sz]?:=by
   have h2:=congrArg (fun l=>l[j % sz]?) hseg
   have h3:j / sz * sz + j % sz=j:=by rw [Nat.mul_comm];exact Nat.div_add_mod j sz
   simp only [List.getElem?_take,if_pos hr,List.getElem?_drop,h3] at h2
   exact h2
  rw [h1]
  simp only [madeCells,Array.toList_map,Array.toList_range,List.getElem?_map,List.getElem?_range hj,Option.map_some,hz]
  simp [hz,hr]
 ·rw [List.getElem?_eq_none (by rw [Array.length_toList,size_madeCells];omega),List.getElem?_eq_none (by omega)]
theorem aNI {S:Base} {σ:Sig} {a:Act} {w:World} {D:Nat→Prop} {E:Nat→Ent} (h:aZ S σ a w D E) {nx:Nat} {t:TypeId} {l c:AV} {same:Bool} {co:Core} {vl vc:Value}
  (hsame:same=true→vl=vc) (hc:aQS S.P nx t l c same=some co) (hn:∀ q ∈ co.need,q) (hl:l.rel S.P ⟨w,D,σ.m,E⟩ vl) (hcr:c.rel S.P ⟨w,D,σ.m,E⟩ vc) (hu:∀ k,co.new=some k→Unm k σ) :
  ∃ r w',(Instr.makeSlice t vl vc).run S.P w=.ok r w'∧Outcome S ⟨σ.T,upM σ.m co.upd,σ.sv⟩ a co.val r w':=by
 unfold aQS at hc
 split at hc
 case h_2=>cases hc
 rename_i e he
 split at hc
 case h_2=>cases hc
 rename_i ty hty
 split at hc
 case h_2=>cases hc
 rename_i bytes hz
 obtain ⟨i,z,hi,hz1,hz2,hz3,hz4⟩:=lY hz
 have hue:=eH he
 have hzs:z.cells.size=ty.sz:=by rw [← Array.length_toList,hz4,bJ]
 split at hc
 case h_2=>cases hc
 rename_i kl l kc c
 simp only [AV.rel,aF,List.cons.injEq,and_true] at hl hcr
 subst hl hcr
 obtain ⟨c,rfl⟩:∃ j:Int,j=c:=⟨c,rfl⟩
 obtain ⟨l,rfl⟩:∃ j:Int,j=l:=⟨l,rfl⟩
 have rows:∀ (n:Nat),(madeCells z.cells (n * ty.sz)).toList=(List.replicate n (zeroCells ty)).flatten:=fun n=>by
  rw [vH z.cells ty.sz hzs (Ty.sz_pos ty) n,hz4]
 have elem:∀ (n:Nat) (i:Nat) (y:ty.den),(List.replicate n ty.dflt)[i]?=some y→aF w D ty y (((List.replicate n (zeroCells ty)).flatten.drop (i * ty.sz)).take ty.sz):=by
  intro n i y hy
  rw [List.getElem?_replicate] at hy
  split at hy
  ·rename_i hlt
   cases hy
   rw [kY ty.sz _ (fun us hus=>by rw [List.eq_of_mem_replicate hus,bJ]) i (zeroCells ty) (by rw [List.getElem?_replicate,if_pos hlt])]
   exact kC w D ty
  ·cases hy
 split at hc
 ·rename_i hsm
  cases hc
  have h0:(0:Int)≤c:=hn _ (.head _)
  have h1:(bytes:Int) * c≤281474976710656:=hn _ (.tail _ (.head _))
  have h2:c≤9223372036854775807:=hn _ (.tail _ (.tail _ (.head _)))
  have hlc:=hsame hsm
  simp only [Value.int.injEq] at hlc
  obtain ⟨rfl,rfl⟩:=hlc
  obtain ⟨n,rfl⟩:=Int.eq_ofNat_of_zero_le h0
  have hb:i.bytes * n≤281474976710656:=by rw [hz3];have h3:((bytes * n:Nat):Int)≤281474976710656:=(by rw [Int.natCast_mul];exact h1);omega
  obtain ⟨w',r1,r2,r3⟩:=run_make_full (P:=S.P) w 0 t e i z ty.sz hue hi hz1 hz2 kl kl n hb (by unfold maxLen;omega) (Nat.zero_le _)
  refine ⟨_,w',r1,?_⟩
  rw [rows n] at r2
  have hlt:w.heap.size < w'.heap.size:=by
   rcases r2.2 with ⟨hv,_⟩ | ⟨g,cap,cur,hv,_,hh,_⟩
   ·cases hv
   ·simp only [Value.slice.injEq,Option.some.injEq,Addr.mk.injEq,and_true,true_and] at hv
    rw [hv.1];exact (Array.getElem?_eq_some_iff.1 hh).1
  have hrl:(List.replicate n ty.dflt).length=n:=List.length_replicate
  have out:=aHo h (hu nx rfl) (xs:=List.replicate n ty.dflt) (cap:=n) (e:=e) ⟨r3.os,r3.tape,r3.output,r3.size,fun k hk=>r3.block k hk (by simp)⟩ hlt (by rw [hrl];exact r2) (elem n)
  rw [hrl] at out
  simpa [aTn,Eng.D.rep,Eng.D.nat] using out
 ·split at hc
  ·rename_i hl0
   cases hc
   have h0:(0:Int)≤c:=hn _ (.head _)
   have h1:(bytes:Int) * c≤281474976710656:=hn _ (.tail _ (.head _))
   have h2:c≤9223372036854775807:=hn _ (.tail _ (.tail _ (.head _)))
   obtain ⟨n,rfl⟩:=Int.eq_ofNat_of_zero_le h0
   have hb:i.bytes * n≤281474976710656:=by rw [hz3];have h3:((bytes * n:Nat):Int)≤281474976710656:=(by rw [Int.natCast_mul];exact h1);omega
   obtain ⟨w',r1,r2,r3⟩:=run_make_own (P:=S.P) w 0 t e i z ty.sz hue hi hz1 hz2 kl kc n hb (by unfold maxLen;omega) (Nat.zero_le _)
   refine ⟨_,w',r1,?_⟩
   have hlt:w.heap.size < w'.heap.size:=by
    rcases r2.2 with ⟨hv,_⟩ | ⟨g,cap,cur,hv,_,hh,_⟩
    ·cases hv
    ·simp only [Value.slice.injEq,Option.some.injEq,Addr.mk.injEq,and_true,true_and] at hv
     rw [hv.1];exact (Array.getElem?_eq_some_iff.1 hh).1
   exact aHo h (hu nx rfl) (xs:=[]) (cap:=n) (e:=e) ⟨r3.os,r3.tape,r3.output,r3.size,fun k hk=>r3.block k hk (by simp)⟩ hlt r2 (fun i y hy=>by simp at hy)
  ·cases hc
end Go.Eng
