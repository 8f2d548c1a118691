/- The engine, part 5: operations that write or make memory. -/
import Derived.Test.YtlobbofhlcjlmaaGreatDoorH4
set_option linter.unusedSimpArgs false
set_option linter.unusedVariables false
namespace Go.Eng
open Go.RowKit
def rP:Ty→Ty→Ty
 | .pair a b,c=>.pair a (rP b c)
 | a,c=>.pair a c
def rowOf:List (Option Ty)→Option Ty
 | []=>none
 | [a]=>a
 | a :: b :: r=>match a,rowOf (b :: r) with
  | some a,some c=>some (rP a c)
  | _,_=>none
def aUv (P:Program):Nat→TypeId→Option Ty
 | 0,_=>none
 | n + 1,t=>match P.underlying t with
  | some (.int k)=>some (.int k)
  | some .bool=>some .bool
  | some .string=>some .str
  | some (.slice e)=>match aUv P n e with | some ty=>some (.sl ty) | none=>none
  | some (.struct fs)=>rowOf (fs.toList.map fun f=>aUv P n f.type)
  | _=>none
def fF:AV→List AV
 | .agg cs=>cs
 | v=>[v]
def aBl:RV→Option (List Prop)
 | (.dat t _,_)=>if t.sz=1 then some [] else none
 | (.val u,_)=>if u.oneCell' then some [] else none
 | (.buf _ n,some b)=>some [b.len=n]
 | (.ptr _ g _ _,some b)=>some [b.len=g]
 | (.ip _ _,_)=>some []
 | (.ips _,_)=>some []
 | (.fn _ _,_)=>some []
 | (.clo1 _ _ _ _,_)=>some []
 | (.clo2 _ _ _ _ _,_)=>some []
 | (.ifc _ _,_)=>some []
 | _=>none
theorem Ent.handle_one (e:Ent) (n:Nat):(e.handle n).oneCell'=true:=by
 unfold Ent.handle;split <;> rfl
theorem jV {w:World} {D:Nat→Prop}:∀ {t:Ty} {x:t.den} {us:List Value},aF w D t x us→∀ u ∈ us,u.oneCell'=true
 | .int _,_,_,h,u,hu=>by simp only [aF] at h;subst h;simp at hu;subst hu;rfl
 | .bool,_,_,h,u,hu=>by simp only [aF] at h;subst h;simp at hu;subst hu;rfl
 | .str,_,_,h,u,hu=>by simp only [aF] at h;subst h;simp at hu;subst hu;rfl
 | .sl _,_,_,h,u,hu=>by obtain ⟨_,_,h,_⟩:=h;subst h;simp at hu;subst hu;rfl
 | .pair a b,_,_,h,u,hu=>by
  obtain ⟨u1,u2,h,h1,h2⟩:=h
  subst h
  rcases List.mem_append.1 hu with g | g
  ·exact jV h1 u g
  ·exact jV h2 u g
theorem aKv {P:Program} {C:Ctx} {p:RV} {ns:List Prop} {v:Value} (hb:p.2=none∨p.2=fD C.m p.1) (h:aBl p=some ns) (hn:∀ q ∈ ns,q) (hp:p.1.rel P C v):v.oneCell'=true:=by
 unfold aBl at h
 split at h
 ·exact jV hp v (by simp)
 ·rename_i u b
  split at h
  ·rename_i hu
   simp only [AV.rel] at hp;subst hp;exact hu
  ·cases h
 ·rename_i nm n b
  cases h
  have hm:C.m nm=some b:=(hb.resolve_left (by simp)).symm
  rw [((hp b hm).2 (hn _ (by simp)))]
  exact Ent.handle_one _ _
 ·rename_i nm g i c b
  cases h
  have hm:C.m nm=some b:=(hb.resolve_left (by simp)).symm
  obtain ⟨_,_,e⟩:=(hp b hm).2 (hn _ (by simp))
  rw [e];rfl
 ·obtain ⟨_,_,_,e,_⟩:=hp;rw [e];rfl
 ·obtain ⟨_,_,_,e,_⟩:=hp;rw [e];rfl
 ·obtain ⟨_,e,_⟩:=hp;rw [e];rfl
 ·obtain ⟨_,_,e,_⟩:=hp;rw [e];rfl
 ·obtain ⟨_,_,e,_⟩:=hp;rw [e];rfl
 ·obtain ⟨_,e,_⟩:=hp;rw [e];rfl
 ·cases h
def aNy:List AV→Option (List Prop)
 | []=>some []
 | c :: cs=>match aBl (c,none),aNy cs with
  | some a,some b=>some (a ++ b)
  | _,_=>none
def aEL:RV→Option (List Prop)
 | (.agg cs,_)=>aNy cs
 | p=>aBl p
theorem aHm {P:Program} {C:Ctx}:∀ {cs:List AV} {ns:List Prop} {us:List Value},aNy cs=some ns→(∀ q ∈ ns,q)→AV.relL P C cs us→∀ u ∈ us,u.oneCell'=true
 | [],_,us,_,_,hr,u,hu=>by simp only [AV.relL] at hr;subst hr;simp at hu
 | c :: cs,ns,us,h,hn,hr,u,hu=>by
  simp only [aNy] at h
  split at h
  ·rename_i a b h1 h2
   cases h
   obtain ⟨v,us',e,g1,g2⟩:=hr
   subst e
   rcases List.mem_cons.1 hu with g | g
   ·subst g
    exact aKv (.inl rfl) h1 (fun q hq=>hn q (List.mem_append.2 (.inl hq))) g1
   ·exact aHm h2 (fun q hq=>hn q (List.mem_append.2 (.inr hq))) g2 u g
  ·cases h
theorem uF {P:Program} {C:Ctx} {p:RV} {ns:List Prop} {v:Value} (hb:p.2=fD C.m p.1) (h:aEL p=some ns) (hn:∀ q ∈ ns,q) (hp:p.1.rel P C v) :
  ∃ us:List Value,v.cells=us.toArray∧AV.relL P C (fF p.1) us∧∀ u ∈ us,u.oneCell'=true:=by
 unfold aEL at h
 split at h
 ·rename_i cs b
  obtain ⟨us,e,g⟩:=hp
  subst e
  exact ⟨us,rfl,g,aHm h hn g⟩
 ·rename_i hne
  have h1:=aKv (.inr hb) h hn hp
  refine ⟨[v],?_,?_,by simpa using h1⟩
  ·cases v <;> first | rfl | cases h1
  ·obtain ⟨a,b⟩:=p
   cases a <;> first | exact (hne _ _ rfl).elim | exact ⟨v,[],rfl,hp,rfl⟩
theorem aZ.newData {S:Base} {σ:Sig} {a:Act} {w:World} {D:Nat→Prop} {E:Nat→Ent} (h:aZ S σ a w D E) (o:Obj) :
  aZ S σ a (w.alloc o) (fun b=>D b∨b=w.heap.size) E:=by
 have e:(w.alloc o).heap.size=w.heap.size + 1:=World.size_alloc w o
 refine h.world ⟨rfl,rfl,rfl,by rw [e];omega,fun k hk=>heap_alloc_old w o k hk⟩ (fun b=>⟨fun hb=>?_,fun hb=>?_⟩) (fun b hb=>?_)
 ·rcases hb with g | g
  ·exact .inl g
  ·exact .inr ⟨⟨by omega,by rw [e];omega⟩,.inr g⟩
 ·rcases hb with g | ⟨_,g⟩
  ·exact .inl g
  ·exact g
 ·rcases hb with g | g
  ·have:=h.dlt b g;rw [e];omega
  ·rw [e];omega
def upE (E:Nat→Ent) (nm:Nat) (e:Ent):Nat→Ent:=fun k=>if k=nm then e else E k
theorem gB {m:Nat→Option Blk} {nm:Nat} {b:Blk} (k:Nat):upM m [(nm,b)] k=if k=nm then some b else m k:=by
 unfold upM
 simp only [List.lookup]
 by_cases e:k=nm
 ·subst e;simp
 ·have:(k == nm)=false:=by simpa using e
  simp [this,e]
theorem aZ.newBlk {S:Base} {σ:Sig} {a:Act} {w w':World} {D:Nat→Prop} {E:Nat→Ent} (h:aZ S σ a w D E) {nm:Nat} (hu:Unm nm σ) {b:Blk} {e:Ent}
  (hw:Below w.heap.size w w') (he:e.isNil=false→e.b=w.heap.size∧w.heap.size < w'.heap.size)
  (hb:iL S.P 0 ⟨w',D,upM σ.m [(nm,b)],upE E nm e⟩ e b) (hpr:∀ i k,rowsOf e b i k→False:=by (intro i k h;obtain ⟨_,_,_,_,_,_,h,_⟩:=h;cases h)) :
  aZ S ⟨σ.T,upM σ.m [(nm,b)],σ.sv⟩ a w' D (upE E nm e):=by
 have hs:=h.low.size
 have old:∀ k b',upM σ.m [(nm,b)] k=some b'→(k=nm∧b'=b)∨(k≠nm∧σ.m k=some b'):=fun k b' hk=>by
  rw [gB] at hk
  split at hk
  ·rename_i ek;cases hk;exact .inl ⟨ek,rfl⟩
  ·rename_i ek;exact .inr ⟨ek,hk⟩
 have hEo:∀ k,k≠nm→upE E nm e k=E k:=fun k hk=>by simp [upE,hk]
 have hEn:upE E nm e nm=e:=by simp [upE]
 refine h.go (m':=upM σ.m [(nm,b)]) ⟨fun b hb=>hb,fun b hb=>hw.block b (h.dlt b hb)⟩ (fun k=>?_) (fun k b' hk=>?_) (fun k b' hk hi=>?_) (fun k k' b1 b2 hk hk' hi hi' hbb=>?_)
  (h.low.below hw) (fun b hb=>Nat.lt_of_lt_of_le (h.dlt b hb) hw.size) (fun b hb=>.inl hb)
  (h.pv.step (fun k i r hr=>by
   obtain ⟨b',g1,g2⟩:=aY.1 hr
   rcases old k b' g1 with ⟨rfl,rfl⟩ | ⟨q1,q2⟩
   ·rw [hEn] at g2;exact (hpr i r g2).elim
   ·rw [hEo k q1] at g2;exact aY.2 ⟨b',q2,g2⟩) hw.size (fun b hb=>.inl hb) fun k b' hk hi=>by
   rcases old k b' hk with ⟨rfl,rfl⟩ | ⟨q1,q2⟩
   ·rw [hEn] at hi ⊢;exact .inl (Nat.le_of_eq (he hi).1.symm)
   ·rw [hEo k q1] at hi ⊢;exact .inr ⟨k,b',q2,hi,rfl⟩)
 ·by_cases ek:k=nm
  ·subst ek;exact .inr hu
  ·refine .inl fun b' hb'=>?_
   rcases old k b' hb' with ⟨g,_⟩ | ⟨_,g⟩
   ·exact (ek g).elim
   ·exact ⟨b',g,rfl,Nat.le_refl _,fun _=>hEo k ek⟩
 ·rcases old k b' hk with ⟨rfl,rfl⟩ | ⟨g1,g2⟩
  ·right;rw [hEn];exact hb
  ·left;exact ⟨g2,hEo k g1,fun hi=>hw.block _ (h.own k b' g2 hi).2.1,fun i r hr=>hw.block _ (h.pv.lt g2 hr)⟩
 ·rcases old k b' hk with ⟨rfl,rfl⟩ | ⟨g1,g2⟩
  ·rw [hEn] at hi ⊢
   obtain ⟨g3,g4⟩:=he hi
   rw [g3]
   exact ⟨.inl hs,g4,fun hd=>Nat.lt_irrefl _ (h.dlt _ hd)⟩
  ·rw [hEo k g1] at hi ⊢
   obtain ⟨g3,g4,g5⟩:=h.own k b' g2 hi
   exact ⟨g3,Nat.lt_of_lt_of_le g4 hw.size,g5⟩
 ·rcases old k b1 hk with ⟨rfl,rfl⟩ | ⟨g1,g2⟩ <;> rcases old k' b2 hk' with ⟨rfl,rfl⟩ | ⟨g3,g4⟩
  ·rfl
  ·rw [hEn] at hi hbb
   rw [hEo k' g3] at hi' hbb
   have:=(h.own k' b2 g4 hi').2.1
   rw [← hbb,(he hi).1] at this
   exact (Nat.lt_irrefl _ this).elim
  ·rw [hEn] at hi' hbb
   rw [hEo k g1] at hi hbb
   have:=(h.own k b1 g2 hi).2.1
   rw [hbb,(he hi').1] at this
   exact (Nat.lt_irrefl _ this).elim
  ·rw [hEo k g1] at hi hbb
   rw [hEo k' g3] at hi' hbb
   exact h.inj k k' b1 b2 g2 g4 hi hi' hbb
theorem aZ.turnBlk {S:Base} {σ:Sig} {a:Act} {w w':World} {D:Nat→Prop} {E:Nat→Ent} (h:aZ S σ a w D E) {nm:Nat} {b0 b:Blk} (hm:σ.m nm=some b0) {e:Ent}
  (hes:b0.es=b.es) (hlen:b0.len≤b.len) (hsame:b0.len=b.len→e=E nm)
  (hos:w'.os=w.os) (htape:w'.tape=w.tape) (hout:w'.output=w.output) (hsize:w.heap.size≤w'.heap.size)
  (hw:∀ k,k < w.heap.size→((E nm).isNil=false→k≠(E nm).b)→w'.heap[k]?=w.heap[k]?)
  (he:e.isNil=false→(e.b=w.heap.size∧w.heap.size < w'.heap.size)∨((E nm).isNil=false∧e.b=(E nm).b))
  (hb:iL S.P 0 ⟨w',D,upM σ.m [(nm,b)],upE E nm e⟩ e b) (hpr:∀ i k,rowsOf e b i k→rowsOf (E nm) b0 i k:=by (intro i k h;obtain ⟨_,_,_,_,_,_,h,_⟩:=h;cases h)) :
  aZ S ⟨σ.T,upM σ.m [(nm,b)],σ.sv⟩ a w' D (upE E nm e):=by
 have hs:=h.low.size
 have old:∀ k b',upM σ.m [(nm,b)] k=some b'→(k=nm∧b'=b)∨(k≠nm∧σ.m k=some b'):=fun k b' hk=>by
  rw [gB] at hk
  split at hk
  ·rename_i ek;cases hk;exact .inl ⟨ek,rfl⟩
  ·rename_i ek;exact .inr ⟨ek,hk⟩
 have hEo:∀ k,k≠nm→upE E nm e k=E k:=fun k hk=>by simp [upE,hk]
 have hEn:upE E nm e nm=e:=by simp [upE]
 have hD:∀ b,D b→w'.heap[b]?=w.heap[b]?:=fun k hk=>hw k (h.dlt k hk) fun hi ek=>(h.own nm b0 hm hi).2.2 (ek ▸ hk)
 have hlow:Chg S.O S.w0 w':=h.low.step hos htape hout hsize fun k hk hno=>hw k (Nat.lt_of_lt_of_le hk hs) fun hi ek=>by
  rcases (h.own nm b0 hm hi).1 with g | g
  ·omega
  ·exact hno (ek ▸ g)
 refine h.go (m':=upM σ.m [(nm,b)]) ⟨fun b hb=>hb,hD⟩ (fun k=>.inl fun b' hb'=>?_) (fun k b' hk=>?_) (fun k b' hk hi=>?_) (fun k k' b1 b2 hk hk' hi hi' hbb=>?_)
  hlow (fun b hb=>Nat.lt_of_lt_of_le (h.dlt b hb) hsize) (fun b hb=>.inl hb)
  (h.pv.step (fun k i r hr=>by
   obtain ⟨b',g1,g2⟩:=aY.1 hr
   rcases old k b' g1 with ⟨rfl,rfl⟩ | ⟨q1,q2⟩
   ·rw [hEn] at g2;exact aY.2 ⟨b0,hm,hpr i r g2⟩
   ·rw [hEo k q1] at g2;exact aY.2 ⟨b',q2,g2⟩) hsize (fun b hb=>.inl hb) fun k b' hk hi=>by
   rcases old k b' hk with ⟨rfl,rfl⟩ | ⟨q1,q2⟩
   ·rw [hEn] at hi ⊢
    rcases he hi with ⟨q3,_⟩ | ⟨q3,q4⟩
    ·exact .inl (Nat.le_of_eq q3.symm)
    ·exact .inr ⟨k,b0,hm,q3,q4⟩
   ·rw [hEo k q1] at hi ⊢;exact .inr ⟨k,b',q2,hi,rfl⟩)
 ·rcases old k b' hb' with ⟨rfl,rfl⟩ | ⟨g1,g2⟩
  ·exact ⟨b0,hm,hes,hlen,fun e'=>hEn.trans (hsame e')⟩
  ·exact ⟨b',g2,rfl,Nat.le_refl _,fun _=>hEo k g1⟩
 ·rcases old k b' hk with ⟨rfl,rfl⟩ | ⟨g1,g2⟩
  ·right;rw [hEn];exact hb
  ·left
   refine ⟨g2,hEo k g1,fun hi=>hw _ (h.own k b' g2 hi).2.1 fun hi' ek=>g1 (h.inj k nm b' b0 g2 hm hi hi' ek),fun i r hr=>hw _ (h.pv.lt g2 hr) fun hi' ek=>?_⟩
   exact h.pv.ent k i r (aY.2 ⟨b',g2,hr⟩) nm b0 hm hi' ek.symm
 ·rcases old k b' hk with ⟨rfl,rfl⟩ | ⟨g1,g2⟩
  ·rw [hEn] at hi ⊢
   rcases he hi with ⟨g3,g4⟩ | ⟨g3,g4⟩
   ·rw [g3];exact ⟨.inl hs,g4,fun hd=>Nat.lt_irrefl _ (h.dlt _ hd)⟩
   ·rw [g4]
    obtain ⟨g5,g6,g7⟩:=h.own k b0 hm g3
    exact ⟨g5,Nat.lt_of_lt_of_le g6 hsize,g7⟩
  ·rw [hEo k g1] at hi ⊢
   obtain ⟨g3,g4,g5⟩:=h.own k b' g2 hi
   exact ⟨g3,Nat.lt_of_lt_of_le g4 hsize,g5⟩
 ·have key:∀ k' b2,k'≠nm→σ.m k'=some b2→(E k').isNil=false→e.isNil=false→e.b=(E k').b→False:=fun k' b2 g3 g4 hi' hi hbb=>by
   rcases he hi with ⟨g5,_⟩ | ⟨g5,g6⟩
   ·have:=(h.own k' b2 g4 hi').2.1
    rw [← hbb,g5] at this
    exact Nat.lt_irrefl _ this
   ·exact g3 (h.inj k' nm b2 b0 g4 hm hi' g5 (hbb.symm.trans g6))
  rcases old k b1 hk with ⟨rfl,rfl⟩ | ⟨g1,g2⟩ <;> rcases old k' b2 hk' with ⟨rfl,rfl⟩ | ⟨g3,g4⟩
  ·rfl
  ·rw [hEn] at hi hbb;rw [hEo k' g3] at hi' hbb
   exact (key k' b2 g3 g4 hi' hi hbb).elim
  ·rw [hEn] at hi' hbb;rw [hEo k g1] at hi hbb
   exact (key k b1 g1 g2 hi hi' hbb.symm).elim
  ·rw [hEo k g1] at hi hbb;rw [hEo k' g3] at hi' hbb
   exact h.inj k k' b1 b2 g2 g4 hi hi' hbb
theorem aZ.turnLater {S:Base} {σ:Sig} {a:Act} {w w':World} {D:Nat→Prop} {E:Nat→Ent} (h:aZ S σ a w D E) {nm:Nat} {b0 b:Blk} (hm:σ.m nm=some b0) {e:Ent}
  (hes:b0.es=b.es) (hlen:b0.len≤b.len) (hsame:b0.len=b.len→e=E nm)
  (hw:∀ k,k < w.heap.size→((E nm).isNil=false→k≠(E nm).b)→w'.heap[k]?=w.heap[k]?) :
  Later ⟨w,D,σ.m,E⟩ ⟨w',D,upM σ.m [(nm,b)],upE E nm e⟩∧∀ k,vJ ⟨w,D,σ.m,E⟩ ⟨w',D,upM σ.m [(nm,b)],upE E nm e⟩ k:=by
 refine ⟨⟨fun b hb=>hb,fun k hk=>hw k (h.dlt k hk) fun hi ek=>(h.own nm b0 hm hi).2.2 (ek ▸ hk)⟩,fun k b' hb'=>?_⟩
 replace hb':upM σ.m [(nm,b)] k=some b':=hb'
 rw [gB] at hb'
 split at hb'
 ·rename_i ek;subst ek;cases hb'
  exact ⟨b0,hm,hes,hlen,fun e'=>by show upE E k e k=E k;simp [upE];exact hsame e'⟩
 ·rename_i ek
  exact ⟨b',hb',rfl,Nat.le_refl _,fun _=>by show upE E nm e k=E k;simp [upE,ek]⟩
end Go.Eng
