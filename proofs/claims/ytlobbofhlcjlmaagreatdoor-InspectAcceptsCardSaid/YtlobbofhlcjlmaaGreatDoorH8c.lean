/- PeH8b, PeH8c -/
import Derived.Test.YtlobbofhlcjlmaaGreatDoorH8
set_option linter.unusedSimpArgs false
set_option linter.unusedVariables false
/- The engine, part 8b: arrays, copy, struct literals. -/
namespace Go.Eng
open Go.RowKit
namespace D
abbrev aIj {α:Type} (n:Nat) (x:α):List α:=List.replicate n x
end D
def aVY (P:Program):Nat→TypeId→Option (Nat×Ty)
 | 0,_=>none
 | f + 1,t=>match P.underlying t with
  | some (.array n e)=>match aVY P f e with
   | some (c,ty)=>some (n * c,ty)
   | none=>none
  | _=>match aJa P t with
   | some ty=>some (1,ty)
   | none=>none
def xP (ty:Ty):Nat→List Value→Bool
 | 0,l=>l.isEmpty
 | n + 1,l=>match isZero ty l with
  | some r=>xP ty n r
  | none=>false
theorem aBH {ty:Ty}:∀ {n:Nat} {l:List Value},xP ty n l=true→l=(List.replicate n (zeroCells ty)).flatten
 | 0,l,h=>by simpa [xP] using h
 | n + 1,l,h=>by
  simp only [xP] at h
  split at h
  ·rename_i r hr
   rw [xQ hr,aBH h,List.replicate_succ,List.flatten_cons]
  ·cases h
def aTr (P:Program) (t:TypeId):Bool:=match P.underlying t with
 | some (.array _ _)=>true
 | _=>false
def aB6 (P:Program) (nx:Nat) (elem:TypeId):Option Core :=
 if aTr P elem then match aVY P 4 elem,(P.info? elem).bind (·.zero) with
  | some (n,ty),some z=>if xP ty n z.cells.toList=true∧0 < n∧n≤1000000 then
    some { val:=.ptr nx n 0 0,upd:=[(nx,.buf elem ty (D.aIj n ty.dflt) [])],new:=some nx } else none
  | _,_=>none
 else none
theorem aFD {S:Base} {σ:Sig} {a:Act} {w:World} {D:Nat→Prop} {E:Nat→Ent} (h:aZ S σ a w D E) {nx:Nat} {elem:TypeId} {c:Core}
  (hc:aB6 S.P nx elem=some c) (hu:∀ k,c.new=some k→Unm k σ) :
  ∃ r w',(Instr.alloc elem true (.tuple #[])).run S.P w=.ok r w'∧Outcome S ⟨σ.T,upM σ.m c.upd,σ.sv⟩ a c.val r w':=by
 unfold aB6 at hc
 split at hc
 case isFalse=>cases hc
 split at hc
 case h_2=>cases hc
 rename_i n ty z harr hz
 split at hc
 case isFalse=>cases hc
 rename_i hk
 obtain ⟨hzs,hn0,hn1⟩:=hk
 cases hc
 cases hi:S.P.info? elem with
 | none=>rw [hi] at hz;cases hz
 | some i =>
  have hz':i.zero=some z:=by rw [hi] at hz;exact hz
  have hraw:=aBH hzs
  have hall:∀ us ∈ List.replicate n (zeroCells ty),us.length=ty.sz:=fun us hus=>by rw [(List.mem_replicate.1 hus).2,bJ]
  have hlen:z.cells.toList.length=n * ty.sz:=by rw [hraw,jJ ty.sz _ hall,List.length_replicate]
  have e3:upE E nx (⟨w.heap.size,n,false,noR⟩:Ent) nx=⟨w.heap.size,n,false,noR⟩:=by simp [upE]
  have hrl:(List.replicate n ty.dflt).length=n:=List.length_replicate
  refine ⟨.pointer (some ⟨w.heap.size,0,none⟩),w.alloc (.cells z.cells elem),?_,D,upE E nx ⟨w.heap.size,n,false,noR⟩,
   h.newBlk (hu nx rfl) (qP w _) (fun _=>⟨rfl,by rw [World.size_alloc];simp⟩) ⟨z.cells.toList,⟨?_,.inr ⟨w.heap.size,n,z.cells,?_,Nat.zero_le _,?_,?_,?_,?_,?_⟩⟩,?_⟩,fun b hb=>?_⟩
  ·simp [Instr.alloc,zeroValue,typeInfo,hi,hz',newVar,newRow]
  ·show _=(List.replicate n ty.dflt).length * ty.sz
   rw [hrl];exact hlen
  ·simp [Ent.handle]
  ·show (w.heap.push _)[w.heap.size]?=_
   simp
  ·show (List.replicate n ty.dflt).length≤n
   omega
  ·unfold maxLen;omega
  ·rw [← Array.length_toList];exact hlen
  ·show z.cells.toList.take ((List.replicate n ty.dflt).length * ty.sz)=_
   rw [hrl,← hlen,List.take_length]
  ·intro j y hy
   simp only [List.lookup]
   have hj:j < n:=by have:=(List.getElem?_eq_some_iff.1 hy).1;rwa [hrl] at this
   have ey:y=ty.dflt:=by
    have:=(List.getElem?_eq_some_iff.1 hy).2
    simpa using this.symm
   rw [hraw,kY ty.sz _ hall j (zeroCells ty) (by rw [List.getElem?_replicate,if_pos hj]),ey]
   exact kC _ _ ty
  ·replace hb:upM σ.m [(nx,.buf elem ty (List.replicate n ty.dflt) [])] nx=some b:=hb
   rw [gB,if_pos rfl] at hb
   cases hb
   refine ⟨Nat.le_of_eq hrl.symm,fun _=>⟨hn0,?_,?_⟩⟩
   ·show (upE E nx _ nx).isNil=false
    rw [e3]
   ·show _=Value.pointer (some ⟨(upE E nx _ nx).b,_,none⟩)
    rw [e3];simp
def aB4 (P:Program) (t:TypeId) (p:RV):Option Core:=match P.underlying t with
 | some (.array n e)=>match p with
  | (.ptr nm g j 0,some (.buf _ ty xs _))=>if sizeT P e=some ty.sz then some { need:=[j=0,g=n,xs.length=g],val:=.view nm n } else none
  | _=>none
 | _=>none
theorem aFC {S:Base} {σ:Sig} {a:Act} {w:World} {D:Nat→Prop} {E:Nat→Ent} (h:aZ S σ a w D E) {p:RV} {t:TypeId} {c:Core} {v:Value}
  (hb:p.2=fD σ.m p.1) (hc:aB4 S.P t p=some c) (hn:∀ q ∈ c.need,q) (hp:p.1.rel S.P ⟨w,D,σ.m,E⟩ v) :
  ∃ r,(Instr.sliceAt t v none none none).run S.P w=.ok r w∧c.val.rel S.P ⟨w,D,σ.m,E⟩ r∧c.upd=[]∧c.new=none:=by
 unfold aB4 at hc
 split at hc
 case h_2=>cases hc
 rename_i n e hu
 split at hc
 case h_2=>cases hc
 rename_i nm g j el ty xs ov
 split at hc
 case isFalse=>cases hc
 rename_i hs
 cases hc
 have h1:j=0:=hn _ (by simp)
 have h2:g=n:=hn _ (by simp)
 have h3:xs.length=g:=hn _ (by simp)
 have hm:σ.m nm=some (.buf el ty xs ov):=hb.symm
 obtain ⟨g1,g2⟩:=hp _ hm
 obtain ⟨g3,g4,rfl⟩:=g2 h3
 subst h1 h2
 have hsz:=dN hs w
 refine ⟨.slice (some ⟨(E nm).b,0,none⟩) g g,?_,fun b' hb'=>?_,rfl,rfl⟩
 ·simp [Instr.sliceAt,run_underlying hu,Instr.sureAddr,Instr.sliceBounds,hsz,Addr.add_mid]
 ·have e:b'=.buf el ty xs ov:=Option.some.inj (hb'.symm.trans hm)
  subst e
  exact ⟨g1,fun _=>⟨g4,g,Nat.le_refl _,rfl⟩⟩
theorem run_copy_cells {P:Program} (w:World) (dT sT ty elem:TypeId) (sz:Nat) (g dLen dCap:Nat) (a:Addr) (sLen sCap:Nat) (cur:Array Value) (t:TypeId) (cs:List Value)
  (hu:P.underlying dT=some (.slice elem)) (hs:sizeT P elem=some sz)
  (hg:w.heap[g]?=some (.cells cur t (0,0))) (hn:cs.length=Nat.min sLen dLen * sz)
  (hsrc:∀ j v,cs[j]?=some v→w.cell? (a.add j)=some v) (hfit:cs.length≤cur.size) (h1:∀ v ∈ cs,v.oneCell'=true) :
  (Builtin.copy_ #[dT,sT] ty #[.slice (some ⟨g,0,none⟩) dLen dCap,.slice (some a) sLen sCap]).run P w =
   .ok (.int .i64 (Nat.min sLen dLen:Nat)) (w.setRow g (cs ++ cur.toList.drop cs.length).toArray):=by
 have hl:=run_loadCells_list (P:=P) w a cs hsrc
 have hst:=run_storeCells_at P g 0 t cs 0 cur w hg (by simpa using hfit) h1
 have hsz:=dN hs w
 simp only [Nat.add_zero,Nat.zero_add,List.take_zero,List.nil_append] at hst
 rw [hn] at hl
 simp [Builtin.copy_,run_underlying hu,Builtin.lenOf,Builtin.firstCells,hsz,hl,hst,goInt,hn]
theorem aDe {P:Program} (w:World) (dT sT ty elem:TypeId) (sz:Nat) (d a:Option Addr) (dLen dCap sLen sCap:Nat) (hu:P.underlying dT=some (.slice elem)) (hs:sizeT P elem=some sz) (hn:Nat.min sLen dLen=0) :
  (Builtin.copy_ #[dT,sT] ty #[.slice d dLen dCap,.slice a sLen sCap]).run P w=.ok (.int .i64 0) w:=by
 have hl:∀ (x:Addr),(loadCells x 0).run P w=.ok #[] w:=fun x=>by simpa using run_loadCells_list (P:=P) w x [] (by simp)
 have hsz:=dN hs w
 cases d <;> cases a <;> simp [Builtin.copy_,run_underlying hu,Builtin.lenOf,Builtin.firstCells,hsz,hn,storeCells,hl,goInt]
def nO (nm:Nat) (el:TypeId) (ty:Ty) (n:Nat) (xs ys:List ty.den) (ns:List Prop):Core :=
 { need:=(xs.length=n) :: ns,val:=.dat (.int .i64) (D.mn (ys.length:Int) (xs.length:Int)),upd:=[(nm,.buf el ty (D.copy xs ys) [])] }
def aRh (P:Program) (t:TypeId) (d s:RV):Option Core:=match gZ P t with
 | some e=>match d with
  | (.buf nm n,some (.buf el ty xs []))=>if sizeT P e=some ty.sz then match aQm ty s with
   | some (ns,ys)=>some (nO nm el ty n xs ys ns)
   | none=>none
   else none
  | (.view nm n,some (.buf el ty xs []))=>if sizeT P e=some ty.sz then match aQm ty s with
   | some (ns,ys)=>some (nO nm el ty n xs ys ns)
   | none=>none
   else none
  | _=>none
 | none=>none
theorem aMK {m:Nat→Option Blk} {nm:Nat} {b:Blk} (h:m nm=some b):upM m [(nm,b)]=m:=by
 funext k
 rw [gB]
 split
 ·rename_i e;subst e;exact h.symm
 ·rfl
theorem aFr {S:Base} {σ:Sig} {a:Act} {w:World} {D:Nat→Prop} {E:Nat→Ent} (h:aZ S σ a w D E) {t sT oty e:TypeId} {s:RV} {nm n:Nat} {el:TypeId} {ty:Ty} {xs ys:List ty.den} {ns:List Prop} {vd vs:Value}
  (he:gZ S.P t=some e) (hsz:sizeT S.P e=some ty.sz) (hm:σ.m nm=some (.buf el ty xs [])) (hbs:s.2=fD σ.m s.1) (hsrc:aQm ty s=some (ns,ys)) (hn:∀ q ∈ (nO nm el ty n xs ys ns).need,q)
  (hd:xs.length=n→(vd=.slice none 0 0∧n=0)∨((E nm).isNil=false∧∃ c,vd=.slice (some ⟨(E nm).b,0,none⟩) n c)) (hs:s.1.rel S.P ⟨w,D,σ.m,E⟩ vs) :
  ∃ r w',(Builtin.copy_ #[t,sT] oty #[vd,vs]).run S.P w=.ok r w'∧Outcome S ⟨σ.T,upM σ.m (nO nm el ty n xs ys ns).upd,σ.sv⟩ a (nO nm el ty n xs ys ns).val r w':=by
 have hue:=eH he
 have hlen:xs.length=n:=hn _ (by simp [nO])
 have hns:∀ q ∈ ns,q:=fun q hq=>hn q (by simp [nO,hq])
 have same:xs.length=0∨ys.length=0→(upM σ.m (nO nm el ty n xs ys ns).upd=σ.m∧(nO nm el ty n xs ys ns).val=.dat (.int .i64) (0:Int)):=fun h0=>by
  have e:Go.Eng.D.copy xs ys=xs:=by
   show List.take xs.length ys ++ List.drop ys.length xs=xs
   rcases h0 with h0 | h0
   ·rw [List.eq_nil_of_length_eq_zero h0];simp
   ·rw [List.eq_nil_of_length_eq_zero h0];simp
  refine ⟨by simp only [nO,e];exact aMK hm,?_⟩
  have e2:min (ys.length:Int) (xs.length:Int)=0:=by omega
  simp only [nO,Go.Eng.D.mn,e2]
 have nothing:∀ (dp sp:Option Addr) (dL dC sL sC:Nat),vd=.slice dp dL dC→vs=.slice sp sL sC→dL=xs.length→sL=ys.length→(xs.length=0∨ys.length=0) →
   ∃ r w',(Builtin.copy_ #[t,sT] oty #[vd,vs]).run S.P w=.ok r w'∧Outcome S ⟨σ.T,upM σ.m (nO nm el ty n xs ys ns).upd,σ.sv⟩ a (nO nm el ty n xs ys ns).val r w':=by
  rintro dp sp dL dC sL sC rfl rfl rfl rfl h0
  obtain ⟨q1,q2⟩:=same h0
  refine ⟨.int .i64 0,w,aDe w t sT oty e ty.sz dp sp _ dC _ sC hue hsz ?_,?_⟩
  ·rcases h0 with h0 | h0 <;> rw [h0] <;> simp
  ·rw [q1,q2];exact ⟨D,E,h,rfl⟩
 have hdst:=hd hlen
 rcases aFV h hbs hsrc hns hs with ⟨rfl,rfl⟩ | ⟨ad,cx,news,rfl,n1,n2,n3,n4⟩
 ·rcases hdst with ⟨rfl,h0⟩ | ⟨_,c,rfl⟩
  ·exact nothing none none 0 0 0 0 rfl rfl (by omega) rfl (.inr rfl)
  ·exact nothing _ none n c 0 0 rfl rfl hlen.symm rfl (.inr rfl)
 ·rcases hdst with ⟨rfl,h0⟩ | ⟨hnil,c,rfl⟩
  ·exact nothing none _ 0 0 _ cx rfl rfl (by omega) rfl (.inl (by omega))
  ·by_cases hz:xs.length=0∨ys.length=0
   ·exact nothing _ _ n c _ cx rfl rfl hlen.symm rfl hz
   ·obtain ⟨raw,r1,r2⟩:=h.bl nm _ hm
    obtain ⟨k,hk⟩:∃ k,k=Nat.min ys.length n:=⟨_,rfl⟩
    have hkn:k≤n:=by rw [hk];exact Nat.min_le_right _ _
    have hky:k≤ys.length:=by rw [hk];exact Nat.min_le_left _ _
    have hrl:raw.length=n * ty.sz:=by rw [r1.1,hlen]
    have hmul:k * ty.sz≤n * ty.sz:=Nat.mul_le_mul_right _ hkn
    have hmul2:k * ty.sz≤ys.length * ty.sz:=Nat.mul_le_mul_right _ hky
    have hcs:(news.take (k * ty.sz)).length=k * ty.sz:=by rw [List.length_take];omega
    have e3:(E nm).handle xs.length=.slice (some ⟨(E nm).b,0,none⟩) xs.length (E nm).cap:=by unfold Ent.handle;rw [hnil];rfl
    rw [e3] at r1
    obtain ⟨rl,r1⟩:=r1
    rcases r1 with ⟨hq,_⟩ | ⟨g,cap,cur,hq,hg0,hg,hcap,hmax,hcur,htake⟩
    ·cases hq
    simp only [Value.slice.injEq,Option.some.injEq,Addr.mk.injEq,and_true,true_and] at hq
    obtain ⟨hq1,hq2⟩:=hq
    rw [hlen] at hcap htake
    have hcapm:n * ty.sz≤cap * ty.sz:=Nat.mul_le_mul_right _ hcap
    have hrun:=run_copy_cells (P:=S.P) w t sT oty e ty.sz g n c ad ys.length cx cur el (news.take (k * ty.sz)) hue hsz hg (by rw [hcs,hk])
     (fun j v hj=>by
      rw [List.getElem?_take] at hj
      split at hj
      ·exact n2 j v hj
      ·cases hj) (by rw [hcs,hcur];omega) (fun v hv=>n3 v (List.mem_of_mem_take hv))
    refine ⟨_,_,by rw [hq1];exact hrun,?_⟩
    have hxl:(Go.Eng.D.copy xs ys).length=xs.length:=by
     simp only [Go.Eng.D.copy,List.length_append,List.length_take,List.length_drop];omega
    obtain ⟨D',E',hst⟩:=aZ.stored (b:=.buf el ty (Go.Eng.D.copy xs ys) []) h hm hnil rfl hxl.symm (news.take (k * ty.sz) ++ cur.toList.drop (news.take (k * ty.sz)).length).toArray (fun C' L N hw=>by
     refine ⟨news.take (k * ty.sz) ++ raw.drop (k * ty.sz),⟨?_,.inr ⟨g,cap,(news.take (k * ty.sz) ++ cur.toList.drop (news.take (k * ty.sz)).length).toArray,?_,hg0,?_,?_,hmax,?_,?_⟩⟩,fun i y hy=>?_⟩
     ·rw [hxl,List.length_append,hcs,List.length_drop,hrl,hlen];omega
     ·unfold Ent.handle
      rw [hnil,hxl,hq1,hq2];rfl
     ·rw [hw,hq1];exact setRow_heap w g cur _ el _ hg
     ·rw [hxl,hlen];exact hcap
     ·rw [List.size_toArray,List.length_append,hcs,List.length_drop,Array.length_toList,hcur];omega
     ·rw [hxl,hlen,List.toList_toArray,List.take_append,hcs,List.take_of_length_le (by rw [hcs];exact hmul),← htake,List.drop_take]
     ·have hi:i < xs.length:=by have:=(List.getElem?_eq_some_iff.1 hy).1;rwa [hxl] at this
      simp only [List.lookup]
      by_cases hik:i < k
      ·have hy':ys[i]?=some y:=by
        simp only [Go.Eng.D.copy] at hy
        rw [List.getElem?_append_left (by rw [List.length_take];omega),List.getElem?_take] at hy
        rw [if_pos (by omega)] at hy;exact hy
       have:=n4 i y hy'
       have hiz:i * ty.sz + ty.sz≤k * ty.sz:=by
        have:=Nat.mul_le_mul_right ty.sz (show i + 1≤k from hik)
        rw [Nat.add_mul,Nat.one_mul] at this;exact this
       have e5:((news.take (k * ty.sz) ++ raw.drop (k * ty.sz)).drop (i * ty.sz)).take ty.sz=(news.drop (i * ty.sz)).take ty.sz:=by
        rw [List.drop_append_of_le_length (by rw [hcs];omega),List.take_append_of_le_length (by rw [List.length_drop,hcs];omega),List.drop_take,List.take_take,Nat.min_eq_left (by omega)]
       rw [e5]
       exact aH L.D L.w this
      ·have hy':xs[i]?=some y:=by
        simp only [Go.Eng.D.copy] at hy
        have hyl:ys.length≤i:=by
         rw [hk] at hik
         have:¬ (i < ys.length):=fun g1=>hik (Nat.lt_min.2 ⟨g1,by omega⟩)
         omega
        rw [List.getElem?_append_right (by rw [List.length_take];omega),List.getElem?_drop,List.length_take] at hy
        rw [show ys.length + (i - min xs.length ys.length)=i by omega] at hy
        exact hy
       have:=r2 i y hy'
       simp only [List.lookup] at this
       have hiz:k * ty.sz≤i * ty.sz:=Nat.mul_le_mul_right _ (by omega)
       have e5:(news.take (k * ty.sz) ++ raw.drop (k * ty.sz)).drop (i * ty.sz)=raw.drop (i * ty.sz):=by
        rw [List.drop_append,List.drop_of_length_le (by rw [hcs];exact hiz),List.nil_append,hcs,List.drop_drop]
        congr 1;omega
       rw [e5]
       exact aH L.D L.w this)
    refine ⟨D',E',by rw [← hq1];exact hst,?_⟩
    simp only [nO,AV.rel,aF,List.cons.injEq,and_true,Value.int.injEq,true_and,Go.Eng.D.mn]
    rw [show Nat.min ys.length n=min ys.length n from rfl,hlen]
    omega
theorem aOb {S:Base} {σ:Sig} {a:Act} {w:World} {D:Nat→Prop} {E:Nat→Ent} (h:aZ S σ a w D E) {t sT oty:TypeId} {d s:RV} {c:Core} {vd vs:Value}
  (hbd:d.2=fD σ.m d.1) (hbs:s.2=fD σ.m s.1) (hc:aRh S.P t d s=some c) (hn:∀ q ∈ c.need,q)
  (hd:d.1.rel S.P ⟨w,D,σ.m,E⟩ vd) (hs:s.1.rel S.P ⟨w,D,σ.m,E⟩ vs) :
  ∃ r w',(Builtin.copy_ #[t,sT] oty #[vd,vs]).run S.P w=.ok r w'∧Outcome S ⟨σ.T,upM σ.m c.upd,σ.sv⟩ a c.val r w':=by
 unfold aRh at hc
 split at hc
 case h_2=>cases hc
 rename_i e he
 split at hc
 ·rename_i nm n el ty xs
  split at hc
  case isFalse=>cases hc
  rename_i hsz
  split at hc
  case h_2=>cases hc
  rename_i ns ys hsrc
  cases hc
  have hm:σ.m nm=some (.buf el ty xs []):=hbd.symm
  refine aFr h he hsz hm hbs hsrc hn (fun hl=>?_) hs
  have hv:=(hd _ hm).2 hl
  unfold Ent.handle at hv
  split at hv
  ·rename_i hq
   obtain ⟨raw,r1,_⟩:=h.bl nm _ hm
   have e3:(E nm).handle xs.length=.slice none 0 0:=by unfold Ent.handle;rw [hq];rfl
   rw [e3] at r1
   rcases r1.2 with ⟨_,hz⟩ | ⟨g,cap,cur,hq,_⟩
   ·exact .inl ⟨hv,by rw [← hl];exact hz⟩
   ·cases hq
  ·rename_i hq
   exact .inr ⟨by simpa using hq,_,hv⟩
 ·rename_i nm n el ty xs
  split at hc
  case isFalse=>cases hc
  rename_i hsz
  split at hc
  case h_2=>cases hc
  rename_i ns ys hsrc
  cases hc
  have hm:σ.m nm=some (.buf el ty xs []):=hbd.symm
  refine aFr h he hsz hm hbs hsrc hn (fun hl=>?_) hs
  obtain ⟨q1,cap,_,q2⟩:=(hd _ hm).2 hl
  exact .inr ⟨q1,cap,q2⟩
 ·cases hc
end Go.Eng

/- The engine, part 8c: struct literals. -/
namespace Go.Eng
open Go.RowKit
def aEF (P:Program) (t:TypeId) (i:Nat):Option (Nat×Nat):=match P.underlying t with
 | some (.struct fs)=>match fs[i]? with
  | some f=>match sizeT P f.type with
   | some n=>some (f.offset,n)
   | none=>none
  | none=>none
 | some (.array _ e)=>match sizeT P e with
  | some n=>some (i * n,n)
  | none=>none
 | _=>none
def aJX (P:Program) (t:TypeId):Bool:=match P.underlying t with
 | some (.struct fs)=>fs.toList.all fun f=>(sizeT P f.type).isSome
 | some (.array _ e)=>(sizeT P e).isSome
 | _=>false
def aGC (place:Nat→Option (Nat×Nat)):List Nat→List RV→List AV→Option (List Prop×List AV)
 | [],[],cs=>some ([],cs)
 | i :: is,v :: vs,cs=>match place i,aEL v with
  | some (off,size),some ns=>if (fF v.1).length=size∧off + size≤cs.length then
    match aGC place is vs (cs.take off ++ fF v.1 ++ cs.drop (off + size)) with
    | some (ms,r)=>some (ns ++ ms,r)
    | none=>none
   else none
  | _,_=>none
 | _,_,_=>none
def aLr (P:Program) (t:TypeId) (idxs:List Nat) (vs:List RV):Option Core :=
 match (P.info? t).bind (·.zero) with
 | some z=>if aJX P t then match aGC (aEF P t) idxs vs (z.cells.toList.map aEP) with
  | some (ns,cs)=>some { need:=ns,val:=.agg cs }
  | none=>none
  else none
 | none=>none
theorem aEu {P:Program} {w:World}:∀ {l:List Field},(l.all fun f=>(sizeT P f.type).isSome)=true →
  ((l.mapM fun f=>do pure (f.offset,← sizeOf f.type)):Sem (List (Nat×Nat))).run P w=.ok (l.map fun f=>(f.offset,(sizeT P f.type).getD 0)) w
 | [],_=>by simp
 | f :: l,h=>by
  simp only [List.all_cons,Bool.and_eq_true] at h
  obtain ⟨n,hn⟩:=Option.isSome_iff_exists.1 h.1
  have ih:=aEu (w:=w) h.2
  rw [List.mapM_cons]
  simp only [Sem.run_bind,dN hn,Result.andThen_ok,Sem.run_pure,ih,hn,Option.getD_some,List.map_cons]
theorem aHE {S:Base} {σ:Sig} {w:World} {D:Nat→Prop} {E:Nat→Ent} {place:Nat→Option (Nat×Nat)}:∀ {is:List Nat} {vs:List RV} {cs r:List AV} {ns:List Prop} {us:List Value} {A:Array Value},
  aGC place is vs cs=some (ns,r)→(∀ q ∈ ns,q)→(∀ v ∈ vs,v.2=fD σ.m v.1)→AV.relL S.P ⟨w,D,σ.m,E⟩ cs A.toList→AV.relL S.P ⟨w,D,σ.m,E⟩ (vs.map (·.1)) us →
  ∃ B,Instr.fill place A (is.zip us)=some B∧AV.relL S.P ⟨w,D,σ.m,E⟩ r B.toList
 | [],[],cs,r,ns,us,A,h,_,_,hA,hu=>by
  simp only [aGC] at h
  cases h
  exact ⟨A,rfl,hA⟩
 | i :: is,v :: vs,cs,r,ns,us,A,h,hn,hv,hA,hu=>by
  simp only [aGC] at h
  split at h
  case h_2=>cases h
  rename_i off size n1 hp h1
  split at h
  case isFalse=>cases h
  rename_i hsz
  split at h
  case h_2=>cases h
  rename_i ms r' hr
  cases h
  obtain ⟨u,us',rfl,g1,g2⟩:=hu
  obtain ⟨zs,z1,z2,_⟩:=uF (hv v (by simp)) h1 (fun q hq=>hn q (List.mem_append.2 (.inl hq))) g1
  have hl:=AV.relL_length hA
  have hlz:=AV.relL_length z2
  have hoff:off + zs.length≤A.size:=by rw [← Array.length_toList,← hl,← hlz];omega
  have hset:=foldl_set zs A off 0 (by simpa using hoff)
  generalize hA':(zs.zipIdx 0).foldl (fun a (c,j)=>a.setIfInBounds (off + j) c) A=A' at hset
  simp only [Nat.add_zero] at hset
  have hrel:AV.relL S.P ⟨w,D,σ.m,E⟩ (cs.take off ++ fF v.1 ++ cs.drop (off + size)) A'.toList:=by
   rw [hset,← hlz,hsz.1]
   exact AV.relL_append (AV.relL_append (AV.relL_take hA off) z2) (AV.relL_drop hA (off + size))
  obtain ⟨B,b1,b2⟩:=aHE hr (fun q hq=>hn q (List.mem_append.2 (.inr hq))) (fun q hq=>hv q (by simp [hq])) hrel g2
  refine ⟨B,?_,b2⟩
  simp only [List.zip_cons_cons,Instr.fill,hp,z1]
  have hx:zs.toArray.size=size:=by rw [List.size_toArray,← hlz];exact hsz.1
  have hx2:zs.length=size:=by simpa using hx
  have hif:¬ (zs.toArray.size≠size∨off + zs.toArray.size > A.size):=by rw [hx];omega
  rw [if_neg (by simpa using hif)]
  have hz:zs.toArray.zipIdx.foldl (fun cs x=>cs.setIfInBounds (off + x.2) x.1) A=A':=by
   rw [← hA',← Array.foldl_toList]
   simp
  rw [hz];exact b1
 | [],_ :: _,_,_,_,_,_,h,_,_,_,_=>by simp [aGC] at h
 | _ :: _,[],_,_,_,_,_,h,_,_,_,_=>by simp [aGC] at h
theorem aLq {S:Base} {σ:Sig} {w:World} {D:Nat→Prop} {E:Nat→Ent} {t:TypeId} {idxs:List Nat} {vs:List RV} {us:List Value} {c:Core}
  (hc:aLr S.P t idxs vs=some c) (hn:∀ q ∈ c.need,q) (hv:∀ v ∈ vs,v.2=fD σ.m v.1) (hu:AV.relL S.P ⟨w,D,σ.m,E⟩ (vs.map (·.1)) us) :
  ∃ r,(Instr.build t (idxs.zip us).toArray).run S.P w=.ok r w∧c.val.rel S.P ⟨w,D,σ.m,E⟩ r∧c.upd=[]∧c.new=none:=by
 unfold aLr at hc
 split at hc
 case h_2=>cases hc
 rename_i z hz
 split at hc
 case isFalse=>cases hc
 rename_i hso
 split at hc
 case h_2=>cases hc
 rename_i ns cs hf
 cases hc
 obtain ⟨i,hi,hiz⟩:=Option.bind_eq_some_iff.1 hz
 have zrun:(zeroValue t).run S.P w=.ok z w:=by simp [zeroValue,typeInfo,hi,hiz]
 obtain ⟨B,b1,b2⟩:=aHE (A:=z.cells) hf hn hv (yM _) hu
 refine ⟨.agg B,?_,⟨B.toList,by simp,b2⟩,rfl,rfl⟩
 unfold aJX at hso
 split at hso
 ·rename_i fs hu
  have hr:=aEu (w:=w) hso
  have hr2:((fs.mapM fun f=>do pure (f.offset,← sizeOf f.type)):Sem (Array (Nat×Nat))).run S.P w=.ok (fs.toList.map fun f=>(f.offset,(sizeT S.P f.type).getD 0)).toArray w:=by
   rw [Array.mapM_eq_mapM_toList,map_eq_pure_bind]
   simp only [Sem.run_bind,hr,Result.andThen_ok,Sem.run_pure]
  have hpl:(fun x=>(fs.toList.map fun f=>(f.offset,(sizeT S.P f.type).getD 0)).toArray[x]?)=aEF S.P t:=by
   funext j
   unfold aEF
   rw [hu]
   simp only [List.getElem?_toArray,List.getElem?_map,Array.getElem?_toList]
   cases hj:fs[j]? with
   | none=>rfl
   | some f =>
    have:=List.all_eq_true.1 hso f (by rw [← Array.getElem?_toList] at hj;exact List.mem_of_getElem? hj)
    obtain ⟨n,hn⟩:=Option.isSome_iff_exists.1 this
    simp [hn]
  simp only [Instr.build,Sem.run_bind,zrun,Result.andThen_ok,run_underlying hu,hr2,hpl,b1,Sem.run_pure]
 ·rename_i n e hu
  obtain ⟨m,hm⟩:=Option.isSome_iff_exists.1 hso
  have hpl:(fun i=>some (i * m,m))=aEF S.P t:=by
   funext j
   unfold aEF
   rw [hu]
   simp only [hm]
  simp only [Instr.build,Sem.run_bind,zrun,Result.andThen_ok,run_underlying hu,dN hm,hpl,b1,Sem.run_pure]
 ·cases hso
def aDs (P:Program) (t:TypeId) (l c:AV) (same:Bool):Option Core :=
 match gZ P t with
 | some e=>match aJa P e with
  | some ty=>match aAS P e ty with
   | some bytes=>match l,c with
    | .dat (.int _) _,.dat (.int _) c=>if same then some { need:=[0≤c,(bytes:Int) * c≤281474976710656,c≤9223372036854775807],val:=.dat (.sl ty) (D.rep c ty.dflt) } else none
    | _,_=>none
   | none=>none
  | none=>none
 | none=>none
theorem aGj {S:Base} {σ:Sig} {a:Act} {w:World} {D:Nat→Prop} {E:Nat→Ent} (h:aZ S σ a w D E) {t:TypeId} {l c:AV} {same:Bool} {co:Core} {vl vc:Value}
  (hsame:same=true→vl=vc) (hc:aDs S.P t l c same=some co) (hn:∀ q ∈ co.need,q) (hl:l.rel S.P ⟨w,D,σ.m,E⟩ vl) (hcr:c.rel S.P ⟨w,D,σ.m,E⟩ vc) :
  ∃ r w',(Instr.makeSlice t vl vc).run S.P w=.ok r w'∧Outcome S ⟨σ.T,upM σ.m co.upd,σ.sv⟩ a co.val r w':=by
 unfold aDs at hc
 split at hc
 case h_2=>cases hc
 rename_i e he
 split at hc
 case h_2=>cases hc
 rename_i ty hty
 split at hc
 case h_2=>cases hc
 rename_i bytes hz
 obtain ⟨i,z,hi,hz1,hz2,hz3,hz4⟩:=lY hz
 have hue:=eH he
 have hzs:z.cells.size=ty.sz:=by rw [← Array.length_toList,hz4,bJ]
 split at hc
 case h_2=>cases hc
 rename_i kl l kc c
 simp only [AV.rel,aF,List.cons.injEq,and_true] at hl hcr
 subst hl hcr
 obtain ⟨c,rfl⟩:∃ j:Int,j=c:=⟨c,rfl⟩
 obtain ⟨l,rfl⟩:∃ j:Int,j=l:=⟨l,rfl⟩
 split at hc
 case isFalse=>cases hc
 rename_i hsm
 cases hc
 have h0:(0:Int)≤c:=hn _ (.head _)
 have h1:(bytes:Int) * c≤281474976710656:=hn _ (.tail _ (.head _))
 have h2:c≤9223372036854775807:=hn _ (.tail _ (.tail _ (.head _)))
 have hlc:=hsame hsm
 simp only [Value.int.injEq] at hlc
 obtain ⟨rfl,rfl⟩:=hlc
 obtain ⟨n,rfl⟩:=Int.eq_ofNat_of_zero_le h0
 have hb:i.bytes * n≤281474976710656:=by rw [hz3];have h3:((bytes * n:Nat):Int)≤281474976710656:=(by rw [Int.natCast_mul];exact h1);omega
 obtain ⟨w',r1,r2,r3⟩:=run_make_full (P:=S.P) w 0 t e i z ty.sz hue hi hz1 hz2 kl kl n hb (by unfold maxLen;omega) (Nat.zero_le _)
 have hrows:(madeCells z.cells (n * ty.sz)).toList=(List.replicate n (zeroCells ty)).flatten:=by
  rw [vH z.cells ty.sz hzs (Ty.sz_pos ty) n,hz4]
 rw [hrows] at r2
 have hbw:Below w.heap.size w w':=⟨r3.os,r3.tape,r3.output,r3.size,fun k hk=>r3.block k hk (by simp)⟩
 have hlt:w.heap.size < w'.heap.size:=by
  rcases r2.2 with ⟨hv,_⟩ | ⟨g,cap,cur,hv,_,hh,_⟩
  ·cases hv
  ·simp only [Value.slice.injEq,Option.some.injEq,Addr.mk.injEq,and_true,true_and] at hv
   rw [hv.1];exact (Array.getElem?_eq_some_iff.1 hh).1
 refine ⟨_,w',r1,fun b=>D b∨b=w.heap.size,E,h.world hbw (fun b=>⟨fun g=>?_,fun g=>?_⟩) (fun b g=>?_),?_⟩
 ·rcases g with g | g
  ·exact .inl g
  ·exact .inr ⟨⟨by omega,by omega⟩,.inr g⟩
 ·rcases g with g | g
  ·exact .inl g
  ·exact g.2
 ·rcases g with g | g
  ·have:=h.dlt b g;omega
  ·omega
 ·have hall:∀ us ∈ List.replicate n (zeroCells ty),us.length=ty.sz:=fun us hus=>by rw [(List.mem_replicate.1 hus).2,bJ]
  have hrl:(List.replicate n ty.dflt).length=n:=List.length_replicate
  show aF _ _ (.sl ty) (List.replicate (n:Int).toNat ty.dflt) _
  rw [Int.toNat_natCast]
  refine ⟨some ⟨w.heap.size,0,none⟩,n,by rw [hrl],by rw [hrl];exact Nat.le_refl _,fun g=>(by cases g),fun ad g _=>(by cases g;rfl),fun j y hy=>?_⟩
  have hj:j < n:=by have:=(List.getElem?_eq_some_iff.1 hy).1;rwa [hrl] at this
  have ey:y=ty.dflt:=by
   have:=(List.getElem?_eq_some_iff.1 hy).2
   simpa using this.symm
  refine ⟨_,zeroCells ty,rfl,.inr rfl,fun q u hq=>?_,by rw [ey];exact kC _ _ ty⟩
  have hcell:=r2.cells rfl
  have hq2:q < ty.sz:=by have:=(List.getElem?_eq_some_iff.1 hq).1;rwa [bJ] at this
  have hseg:=kY ty.sz _ hall j (zeroCells ty) (by rw [List.getElem?_replicate,if_pos hj])
  have hfl:((List.replicate n (zeroCells ty)).flatten)[j * ty.sz + q]?=some u:=by
   rw [← hseg,List.getElem?_take,if_pos hq2,List.getElem?_drop] at hq
   exact hq
  have:=hcell (j * ty.sz + q) u hfl
  simp only [Addr.add_mid,Nat.zero_add] at this ⊢
  exact this
end Go.Eng
