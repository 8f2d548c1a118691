/- PeH1 PeH2 PeH2b PeH3 PeH4 PeH5 PeH6 PeH7 PeH8 PeH8b PeH8c PeH8d -/
import Derived.Orders
import Derived.Below
import Derived.Laws.Sem
import Derived.Laws.World
import Derived.Laws.OwnMore
import Derived.Laws.AppendOwn
import Derived.Deep.MidRow
import Derived.IntWalk
import Derived.Laws.BytesArg
import Derived.Laws.StructEq
import Derived.Lib.ConvBytes
set_option linter.unusedSimpArgs false
set_option linter.unusedVariables false
namespace Go.Eng
open Go.RowKit
abbrev Li:=List Int
abbrev Lj:=List (List Int)
abbrev Lv:=List Value
abbrev qA:=@List.getD_eq_getElem?_getD
abbrev qB:=@List.getElem?_eq_getElem
abbrev qC:=@Bool.and_eq_true
abbrev qE:=@decide_eq_true_eq
abbrev qF:=@List.getElem?_eq_some_iff
abbrev qG:=@List.length_append
abbrev qH:=@List.mem_append
abbrev qI:=@List.length_take
abbrev qJ:=@Nat.le_refl
abbrev qK:=@Array.getD_eq_getD_getElem?
abbrev qL:=@Int.le_refl
abbrev qM:=@List.all_eq_true
abbrev qN:=@Nat.lt_of_lt_of_le
abbrev qO:=@List.take_of_length_le
abbrev qP:=@List.getElem?_map
abbrev qQ:=@Option.getD_some
abbrev qR:=@List.cons.injEq
abbrev qU:=@Int.toNat_of_nonneg
abbrev qV:=@decide_eq_true
abbrev qW:=@List.getElem?_append_right
abbrev qX:=@List.mem_range
abbrev qY:=@List.getElem?_drop
abbrev qZ:=@Int.natCast_nonneg
abbrev vC:=@Int.toNat_natCast
abbrev vF:=@run_underlying
abbrev vG:=@List.mem_singleton
abbrev vH:=@decide_eq_false
abbrev vI:=@Array.length_toList
abbrev vJ:=@List.getElem?_append_left
abbrev vK:=@Array.getElem?_eq_some_iff
abbrev vM:=@List.getElem?_take
abbrev vN:=@decide_eq_false_iff_not
abbrev vO:=@List.eq_nil_of_length_eq_zero
abbrev vP:=@and_true
abbrev vS:=@Result.andThen_ok
abbrev vT:=@Bool.false_eq_true
abbrev vU:=@Nat.mul_le_mul_right
abbrev vV:=@List.getElem?_range
abbrev vW:=@List.length_map
abbrev vX:=@List.length_singleton
abbrev vY:=@List.length_drop
abbrev vZ:=@Option.some.injEq
abbrev wB:=@Sem.run_bind
abbrev wC:=@List.length_range
abbrev wE:=@Nat.le_trans
abbrev wF:=@of_decide_eq_true
abbrev wG:=@List.append_assoc
abbrev wH:=@List.append_nil
abbrev wJ:=@List.length_replicate
abbrev wL:=@List.mem_cons_self
abbrev wM:=@List.getElem_mem
abbrev wO:=@List.isEmpty_iff
abbrev wQ:=@List.getElem?_replicate
abbrev wS:=@Option.some.inj
abbrev wU:=@Nat.zero_le
abbrev wV:=@List.length_cons
abbrev wW:=@List.take_add_one
abbrev wX:=@List.mem_iff_getElem
abbrev wY:=@Nat.zero_add
abbrev wZ:=@List.mem_map
abbrev zA:=@List.mem_cons_of_mem
abbrev zB:=@Array.getElem?_setIfInBounds
abbrev zC:=@Nat.lt_or_ge
abbrev zD:=@List.mem_of_getElem?
abbrev zF:=@List.getElem?_eq_none
abbrev zG:=@Nat.add_mul
abbrev zH:=@List.map_cons
abbrev zI:=@Array.getElem?_eq_getElem
abbrev zJ:=@List.mem_cons
abbrev zK:=@Bool.not_eq_true'
abbrev zL:=@Option.map_some
abbrev zM:=@Value.slice.injEq
abbrev zN:=@List.drop_of_length_le
abbrev zO:=@World.size_alloc
abbrev zQ:=@Bool.true_and
abbrev zS:=@true_and
abbrev zT:=@Nat.one_mul
abbrev zU:=@Sem.run_pure
abbrev zV:=@Nat.le_of_eq
abbrev zW:=@List.range_succ
abbrev zX:=@Array.getElem?_toList
abbrev zY:=@List.map_congr_left
abbrev zZ:=@Bool.not_true
abbrev yA:=@congrArg
abbrev yB:=@Array.ext'
abbrev yC:=@Bool.not_false
abbrev yD:=@List.length_set
abbrev yE:=@Bool.or_eq_true
abbrev yF:=@Array.getElem?_replicate
abbrev yG:=@List.drop_drop
abbrev yH:=@beq_self_eq_true
abbrev yI:=@Nat.mul_one
abbrev yJ:=@List.mem_flatMap
abbrev yK:=@List.take_append_of_le_length
abbrev yL:=@List.Pairwise.nil
abbrev yM:=@Addr.add_mid
abbrev yN:=@List.map_append
abbrev yO:=@List.length_nil
abbrev yP:=@List.filter_append
abbrev yQ:=@if_false
abbrev yR:=@Nat.zero_mul
abbrev yS:=@Nat.lt_irrefl
abbrev yU:=@Nat.add_zero
abbrev yV:=@heap_alloc_old
abbrev yX:=@List.getElem?_set
abbrev yY:=@Nat.min_eq_left
abbrev yZ:=@List.getLastD_eq_getLast?
abbrev xA:=@List.take_append_drop
abbrev xB:=@List.length_filter_le
abbrev xC:=@List.take_length
abbrev xE:=@List.filter_cons
abbrev xG:=@Bool.true_eq_false
abbrev xH:=@beq_iff_eq
abbrev xI:=@Int.mul_le_mul
abbrev xJ:=@Bool.and_false
abbrev xK:=@List.ext_getElem?
abbrev xM:=@List.nil_append
abbrev xO:=@List.mem_filter
abbrev xQ:=@List.foldl_cons
abbrev xR:=@Array.getElem?_append_right
abbrev xU:=@if_true
abbrev xW:=@List.length_eq_one_iff
abbrev xX:=@Bool.false_or
abbrev xY:=@Array.getElem?_append_left
abbrev xZ:=@List.any_eq_true
abbrev kC:=@World.cell?_alloc_new
abbrev kD:=@List.pairwise_cons
abbrev kF:=@List.mem_iff_getElem?
abbrev kG:=@List.getElem?_toArray
abbrev kH:=@Int.emod_lt_of_pos
abbrev kJ:=@Bool.not_eq_false'
abbrev kK:=@forall_const
abbrev kL:=@decide_false
abbrev kM:=@List.eq_of_mem_replicate
abbrev kN:=@Int.mul_le_mul_of_nonneg_right
abbrev kP:=@Bool.eq_false_iff
abbrev kQ:=@ge_iff_le
abbrev kR:=@List.getLast?_eq_some_getLast
abbrev kS:=@List.drop_append_of_le_length
abbrev kT:=@Bool.not_eq_true
abbrev kU:=@Bool.false_and
abbrev kV:=@implies_true
abbrev kW:=@Array.empty_append
abbrev kX:=@List.all_append
abbrev kY:=@Int.emod_nonneg
abbrev kZ:=@Nat.add_assoc
abbrev gB:=@Bool.and_true
abbrev gG:=@Addr.mk.injEq
abbrev gI:=@List.size_toArray
abbrev gJ:=@List.flatMap_cons
abbrev qAa:=@List.any_eq_false
abbrev qAb:=@Int.mul_nonneg
abbrev qAc:=@Option.isSome_iff_exists
abbrev qAd:=@Array.all_eq_true_iff_forall_mem
abbrev qAe:=@beq_eq_false_iff_ne
abbrev qAf:=@List.flatMap_append
abbrev qAg:=@List.pairwise_singleton
abbrev qAh:=@List.getElem?_cons_zero
abbrev qAi:=@false_implies
abbrev qAj:=@List.all_cons
abbrev qAk:=@Bool.and_self
abbrev qAm:=@cond_true
abbrev qAn:=@cond_false
abbrev qAp:=@decide_true
abbrev qAq:=@List.flatten_cons
abbrev qAr:=@eq_self
abbrev qAs:=@Nat.add_comm
abbrev qAt:=@List.mem_of_mem_head?
abbrev qAu:=@List.filterMap_append
abbrev qAv:=@Int.le_trans
abbrev qAw:=@Bool.or_self
abbrev qAx:=@decide_eq_decide
abbrev qAy:=@List.range_eq_range'
abbrev qAz:=@List.range'_succ
abbrev qBa:=@List.mem_of_mem_take
abbrev qBb:=@List.getElem_map
abbrev qBc:=@List.getElem?_set_ne
abbrev qBd:=@Int.tmod_eq_emod
abbrev qBe:=@Bool.or_eq_false_iff
abbrev qBf:=@Array.toList_map
abbrev qBg:=@Bool.or_false
abbrev qBh:=@List.replicate_succ
abbrev qBi:=@List.find?_cons
abbrev qBj:=@List.filter_nil
abbrev qBk:=@imp_self
abbrev qBm:=@Option.toList_some
abbrev qBn:=@List.getElem_range
abbrev qBp:=@List.find?_eq_none
abbrev qBq:=@Int.tmod_lt_of_pos
abbrev qBr:=@List.drop_left
abbrev qBs:=@Option.bind_eq_some_iff
abbrev qBt:=@Int.eq_ofNat_of_zero_le
abbrev qBu:=@List.foldl_append
abbrev qBv:=@Decidable.not_not
abbrev qBw:=@Option.map_eq_some_iff
abbrev qBx:=@List.head?_eq_getElem?
abbrev qBy:=@List.getElem?_set_self
abbrev qBz:=@List.filter_eq_nil_iff
abbrev qCa:=@List.append_eq_nil_iff
abbrev qCb:=@Prod.mk.injEq
abbrev qCc:=@Nat.succ_le_succ
abbrev qCd:=@List.range'_zero
abbrev qCe:=@Nat.sub_self
abbrev qCf:=@List.map_nil
abbrev qCg:=@Int.tmod_nonneg
abbrev qCh:=@Bool.eq_iff_iff
abbrev qCi:=@List.mem_map_of_mem
abbrev qCj:=@List.length_pos_iff
abbrev qCk:=@List.take_zero
abbrev qCm:=@List.take_take
abbrev qCn:=@List.drop_take
abbrev qCp:=@run_loadCells_list
abbrev qCq:=@of_decide_eq_false
abbrev qCr:=@false_imp_iff
abbrev qCs:=@Int.tmod_eq_emod_of_nonneg
abbrev qCt:=@Int.fdiv_eq_ediv_of_nonneg
abbrev qCu:=@World.ownsRow_nil
abbrev qCv:=@Option.bind_assoc
abbrev qCw:=@List.getElem_take
abbrev qCx:=@List.all_eq_false
abbrev qCy:=@Array.isEmpty_iff
abbrev qCz:=@bne_iff_ne
abbrev qDa:=@List.filterMap_eq_nil_iff
abbrev qDb:=@Array.mapM_eq_mapM_toList
abbrev qDc:=@List.take_append
abbrev qDd:=@List.length_filterMap_le
abbrev qDe:=@List.flatMap_nil
abbrev qDf:=@List.ext_getElem
abbrev qDg:=@List.drop_append
abbrev qDh:=@Int.mul_tdiv_cancel_left
abbrev qDi:=@and_assoc
abbrev qDj:=@Value.int.injEq
abbrev qDk:=@List.foldr_cons
abbrev qDm:=@List.find?_some
abbrev qDn:=@Int.natCast_mul
abbrev qDp:=@setRow_heap
abbrev qDq:=@cell_of_row
abbrev qDr:=@run_append_own
abbrev qDs:=@run_append_nil
abbrev qDt:=@List.mapM_cons
abbrev qDu:=@Nat.mul_assoc
abbrev qDv:=@List.any_cons
abbrev Ea(x y:Int): Bool:=x==y
abbrev Ec(x y:Int): Bool:=x != y
abbrev Dp(x y:Int): Bool:=decide (x<y)
abbrev Eh(x y:Int): Bool:=decide (x<=y)
abbrev Ei(x y:Int): Bool:=decide (x>y)
abbrev Ed(x y:Int): Bool:=decide (x≥y)
abbrev Ey(x y:Bool): Bool:=x==y
abbrev Fv(x y:ByteArray): Bool:=x.toList==y.toList
abbrev Gm(x y:ByteArray): Bool:=Op.bytesLess x.toList y.toList
abbrev Gf(s:ByteArray)(i:Int): Int:=((s.data.getD i.toNat 0).toNat:Int)
abbrev Du{α:Type}(xs:List α)(i:Nat)(d:α): α:=xs.getD i d
abbrev En{α:Type}(xs:List α)(i:Nat)(x:α): List α:=xs.set i x
abbrev Ef{α:Type}(xs ys:List α): List α:=xs++ys
abbrev Fe{α:Type}(xs:List α)(l:Int): List α:=xs.drop l.toNat
abbrev Fj{α:Type}(xs:List α)(l h:Int): List α:=(xs.take h.toNat).drop l.toNat
abbrev Ew(k:IntKind)(x:Int): Int:=k.wrap x
abbrev Ep{α:Type}(n:Int)(x:α): List α:=List.replicate n.toNat x
abbrev Dc(i:Int): Nat:=i.toNat
abbrev Gj(s:ByteArray)(l:Int): ByteArray:=s.extract l.toNat s.size
abbrev Gh(s:ByteArray)(l h:Int): ByteArray:=s.extract l.toNat h.toNat
abbrev Ez(x y:Int): Int:=max x y
abbrev Eu(x y:Int): Int:=min x y
abbrev Gi(x y:Int): Int:=x.fdiv (2 ^ y.toNat)
abbrev Gn(x y:Int): Int:=x*2 ^ y.toNat
abbrev Gl{α:Type}(xs ys:List α): List α:=ys.take xs.length++xs.drop ys.length
abbrev Ej(j k:Nat)(i:Int): Nat:=j+i.toNat*k
abbrev Dq(x y:Int): Int:=x+y
abbrev Dh(x y:Int): Int:=x-y
abbrev Ee(x y:Int): Int:=x*y
abbrev Gg(x y:Int): Int:=x.tdiv y
abbrev Fp(x y:Int): Int:=x.tmod y
abbrev Fg(x:Int): Int:=-x
abbrev Eo(x y:Int): Prop:=x≠y
abbrev Dl(x y:Int): Prop:=x<=y
abbrev Dn(x y:Int): Prop:=x<y
abbrev Dy(x y:Nat): Prop:=x<=y
abbrev Dw(x y:Nat): Prop:=x<y
abbrev Eb(x y:Nat): Nat:=x+y
abbrev Em(x y:Nat): Nat:=x*y
abbrev Dx(x:Nat): Int:=(x:Int)
abbrev Dj{α:Type}(xs:List α): Nat:=xs.length
abbrev Df{α:Type}(xs:List α): Int:=(xs.length:Int)
abbrev Et(s:ByteArray): Int:=(s.size:Int)
abbrev Di(x:Bool): Bool:=!x
abbrev Dk(x y:Bool): Bool:=x&&y
abbrev Es(x y:Bool): Bool:=x||y
abbrev Dt(α:Type): List α:=[]
abbrev Dz{α:Type}(c:Bool)(x y:α): α:=bif c then x else y
abbrev Fh{α:Type}(xs:List α)(o n:Nat): List α:=(xs.drop o).take n
abbrev Fb{α:Type}(xs:List (List α)): Prop:=∀r∈xs,r=[]
abbrev Fq(s:ByteArray): Li:=s.data.toList.map λb=>(b.toNat:Int)
abbrev Gp(xs:Li): ByteArray:=strOfNums xs
inductive Ty where
 | int (k:IntKind)
 | bool
 | str
 | sl (e:Ty)
 | pair (a b:Ty)
 deriving DecidableEq
@[reducible] def Ty.den:Ty->Type
 | .int _=>Int
 | .bool=>Bool
 | .str=>ByteArray
 | .sl e=>List e.den
 | .pair a b=>a.den×b.den
def Ty.dflt:(t:Ty)->t.den
 | .int _=>(0:Int)
 | .bool=>false
 | .str=>ByteArray.empty
 | .sl _=>[]
 | .pair a b=>(a.dflt,b.dflt)
def Ty.sz:Ty->Nat
 | .pair a b=>a.sz+b.sz
 | _=>1
theorem Ty.sz_pos:(t:Ty)->0<t.sz
 | .int _ | .bool | .str | .sl _=>by simp[Ty.sz]
 | .pair a b=>by have:=Ty.sz_pos a;simp only[Ty.sz];omega
abbrev cJ(w:World)(b off:Nat)(us:Lv): Prop:=w.rangeAt b off us
def ah(w:World)(D:Nat->Prop): (t:Ty)->t.den->Lv->Prop
 | .int k,x,us=>us=[.int k x]
 | .bool,b,us=>us=[.bool b]
 | .str,s,us=>us=[.string s]
 | .sl e,xs,us=>∃(ao:Option Addr) (cap:Nat),us=[.slice ao (List.length xs) cap]/\List.length xs<=cap/\(ao=none->cap=0)/\
   (∀a,ao=some a->0<List.length xs->a.spot=none)/\
   ∀(i:Nat) (y:e.den),(xs:List e.den)[i]?=some y->∃(a:Addr) (ue:Lv),ao=some a/\D a.block/\cJ w a.block (a.off+i*e.sz) ue/\ah w D e y ue
 | .pair a b,x,us=>∃u1 u2,us=u1++u2/\ah w D a x.1 u1/\ah w D b x.2 u2
theorem aS{w:World}{D:Nat->Prop}: ∀{t:Ty} {x:t.den} {us:Lv},ah w D t x us->us.length=t.sz
 | .int _,_,_,h=>by simp only[ah]at h;subst h;rfl
 | .bool,_,_,h=>by simp only[ah]at h;subst h;rfl
 | .str,_,_,h=>by simp only[ah]at h;subst h;rfl
 | .sl _,_,_,h=>by obtain⟨_,_,h,_⟩:=h;subst h;rfl
 | .pair a b,_,_,h=>by
  obtain⟨u1,u2,h,h1,h2⟩:=h;subst h;simp[Ty.sz,aS h1,aS h2]
theorem cell?_same {w w':World} {b o:Nat} (h:w'.heap[b]?=w.heap[b]?):w'.cell? ⟨b,o,none⟩=w.cell? ⟨b,o,none⟩:=by
 simp only[World.cell?,h]
theorem cJ.same {w w':World} {b off:Nat} {us:Lv} (h:w'.heap[b]?=w.heap[b]?) (hc:cJ w b off us):cJ w' b off us:=
 λj u hj=>(cell?_same h).trans (hc j u hj)
theorem al{w w':World}{D D':Nat->Prop}(hD:∀b,D b->D' b)(hw:∀b,D b->w'.heap[b]?=w.heap[b]?):
  ∀{t:Ty} {x:t.den} {us:Lv},ah w D t x us->ah w' D' t x us
 | .int _,_,_,h=>h
 | .bool,_,_,h=>h
 | .str,_,_,h=>h
 | .sl e,xs,us,h=>by
  obtain⟨ao,cap,h1,h2,h3,h4,h5⟩:=h;refine⟨ao,cap,h1,h2,h3,h4,λi y hy=>?_⟩;obtain⟨a,ue,g1,g2,g3,g4⟩:=h5 i y hy;exact⟨a,ue,g1,hD _ g2,g3.same (hw _ g2),al hD hw g4⟩
 | .pair a b,_,_,h=>by
  obtain⟨u1,u2,h,h1,h2⟩:=h;exact⟨u1,u2,h,al hD hw h1,al hD hw h2⟩
def gk(w w':World)(b:Nat): Prop:=w.heap.size<=b/\b<w'.heap.size
def GH(w:World)(D:Nat->Prop)(r:Ty)(y:r.den)(e:Ending)(w':World): Prop:=
 ∃v,e=.returned v/\Below w.heap.size w w'/\ah w' (λb=>D b\/gk w w' b) r y [v]
def goes(P:Program)(f:FuncId): Bool:=match P.funcs[f]? with
 | some fn=>fn.body.isSome&&fn.name != "runtime.NumGoroutine"
 | none=>false
inductive AV where
 | top
 | dat (t:Ty) (x:t.den)
 | agg (cs:List AV)
 | tup (vs:List AV)
 | val (v:Value)
 | buf (nm n:Nat)
 | ptr (nm g i c:Nat)
 | ip (t:Ty) (x:t.den)
 | fn (f:FuncId) (caps:List AV)
 | clo1 (a r:Ty) (pre:a.den->Prop) (g:a.den->r.den)
 | clo2 (a b r:Ty) (pre:a.den->b.den->Prop) (g:a.den->b.den->r.den)
 | ifc (t:TypeId) (v:AV)
 | grd (g:Bool) (v:AV)
 | ipv (v:AV)
 | ips (cs:List AV)
 | slv (cs:List AV)
 | ia (t:Ty) (xs:List t.den)
 | yld (l:Nat)
 | view (nm n:Nat)
 | av (t:Ty) (xs:List t.den)
 | sel (i:Int) (cs:List AV)
 | row (nm g i k:Nat)
 | rptr (nm g i k j:Nat)
 | pin (u:Value) (v:AV)
inductive Blk where
 | var (cs:List AV)
 | buf (el:TypeId) (t:Ty) (xs:List t.den) (ov:List (Nat×AV))
 | mat (el eli:TypeId) (e:Ty) (xss:List (List e.den)) (ov:List (Nat×AV))
def Blk.len:Blk->Nat
 | .var _=>1
 | .buf _ _ xs _=>xs.length
 | .mat _ _ _ xss _=>xss.length
def Blk.es:Blk->Nat
 | .var cs=>cs.length
 | .buf _ t _ _=>t.sz
 | .mat _ _ _ _ _=>1
structure Ent where
 b:Nat
 cap:Nat
 isNil:Bool
 rb:Nat->Nat×Nat
def noR: Nat->Nat×Nat:=λ_=>(0,0)
def Ent.handle (e:Ent) (n:Nat):Value:=if e.isNil then .slice none 0 0 else .slice (some ⟨e.b,0,none⟩) n e.cap
structure Ctx where
 w:World
 D:Nat->Prop
 m:Nat->Option Blk
 E:Nat->Ent
def ql(w:World)(D:Nat->Prop)(t:Ty)(xs:List t.den)(us:Lv): Prop:=
 us.length=xs.length*t.sz/\∀(i:Nat) (y:t.den),xs[i]?=some y->ah w D t y ((us.drop (i*t.sz)).take t.sz)
mutual
def AV.rel (P:Program) (C:Ctx):AV->Value->Prop
 | .top,_=>True
 | .dat t x,v=>ah C.w C.D t x [v]
 | .agg cs,v=>∃us:Lv,v=.agg us.toArray/\AV.relL P C cs us
 | .tup vs,v=>∃us:Lv,v=.tuple us.toArray/\AV.relL P C vs us
 | .val u,v=>v=u
 | .buf nm n,v=>∀b,C.m nm=some b->n<=b.len/\(b.len=n->v=(C.E nm).handle n)
 | .ptr nm g i c,v=>∀b,C.m nm=some b->g<=b.len/\(b.len=g->i<g/\(C.E nm).isNil=false/\v=.pointer (some ⟨(C.E nm).b,i*b.es+c,none⟩))
 | .ip t x,v=>∃b off us,v=.pointer (some ⟨b,off,none⟩)/\C.D b/\cJ C.w b off us/\ah C.w C.D t x us
 | .fn f caps,v=>∃us:Lv,v=.func (.func f) #[] us.toArray/\AV.relL P C caps us
 | .clo1 a r pre g,v=>∃(f:FuncId) (caps:Array Value),v=.func (.func f) #[] caps/\goes P f=true/\
   ∀(w':World) (D':Nat->Prop),(∀b,C.D b->D' b)->(∀b,D' b->b<w'.heap.size)->(∀b,C.D b->w'.heap[b]?=C.w.heap[b]?)->
    ∀x u,pre x->ah w' D' a x [u]->Calls P f (#[u]++caps) w' (GH w' D' r (g x))
 | .clo2 a b r pre g,v=>∃(f:FuncId) (caps:Array Value),v=.func (.func f) #[] caps/\goes P f=true/\
   ∀(w':World) (D':Nat->Prop),(∀b,C.D b->D' b)->(∀b,D' b->b<w'.heap.size)->(∀b,C.D b->w'.heap[b]?=C.w.heap[b]?)->
    ∀x y u v,pre x y->ah w' D' a x [u]->ah w' D' b y [v]->Calls P f (#[u,v]++caps) w' (GH w' D' r (g x y))
 | .ifc t a,v=>∃u,v=.iface t u/\AV.rel P C a u
 | .grd g a,v=>(g=true->AV.rel P C a v)/\(g=false->v=undef)
 | .ipv a,v=>∃b off u,v=.pointer (some ⟨b,off,none⟩)/\C.D b/\C.w.cell? ⟨b,off,none⟩=some u/\AV.rel P C a u
 | .ips cs,v=>∃b off us,v=.pointer (some ⟨b,off,none⟩)/\C.D b/\cJ C.w b off us/\AV.relL P C cs us
 | .slv cs,v=>∃b off us,v=.slice (some ⟨b,off,none⟩) cs.length cs.length/\C.D b/\cJ C.w b off us/\AV.relL P C cs us
 | .ia t xs,v=>∃b off,v=.pointer (some ⟨b,off,none⟩)/\ah C.w C.D (.sl t) xs [.slice (some ⟨b,off,none⟩) (List.length xs) (List.length xs)]
 | .yld l,v=>v=.func (.yield l) #[] #[]
 | .view nm n,v=>∀b,C.m nm=some b->n<=b.len/\(b.len=n->(C.E nm).isNil=false/\∃c,n<=c/\v=.slice (some ⟨(C.E nm).b,0,none⟩) n c)
 | .av t xs,v=>∃us:Lv,v=.agg us.toArray/\ql C.w C.D t xs us
 | .sel i cs,v=>∃us:Lv,AV.relL P C cs us/\us[i.toNat]?=some v
 | .row nm g i k,v=>∀b,C.m nm=some b->g<=b.len/\(b.len=g->∃ao cap,v=.slice ao k cap/\(0<k->ao=some ⟨((C.E nm).rb i).1,0,none⟩))
 | .rptr nm g i k j,v=>∀b,C.m nm=some b->g<=b.len/\(b.len=g->j<k/\v=.pointer (some ⟨((C.E nm).rb i).1,j,none⟩))
 | .pin u a,v=>v=u/\AV.rel P C a v
def AV.relL (P:Program) (C:Ctx):List AV->Lv->Prop
 | [],us=>us=[]
 | a::as,us=>∃u us',us=u::us'/\AV.rel P C a u/\AV.relL P C as us'
end
mutual
def AV.names:AV->List Nat
 | .buf nm _=>[nm]
 | .view nm _=>[nm]
 | .ptr nm _ _ _=>[nm]
 | .agg cs=>AV.namesL cs
 | .tup cs=>AV.namesL cs
 | .fn _ cs=>AV.namesL cs
 | .ifc _ a=>a.names
 | .grd _ a=>a.names
 | .ipv a=>a.names
 | .ips cs=>AV.namesL cs
 | .slv cs=>AV.namesL cs
 | .sel _ cs=>AV.namesL cs
 | .row nm _ _ _=>[nm]
 | .rptr nm _ _ _ _=>[nm]
 | .pin _ a=>a.names
 | _=>[]
def AV.namesL:List AV->List Nat
 | []=>[]
 | a::as=>a.names++AV.namesL as
end
def Blk.names:Blk->List Nat
 | .var cs=>AV.namesL cs
 | .buf _ _ _ ov=>AV.namesL (ov.map (·.2))
 | .mat _ _ _ _ ov=>AV.namesL (ov.map (·.2))
def nb(C C':Ctx)(nm:Nat): Prop:=
 ∀b',C'.m nm=some b'->∃b,C.m nm=some b/\b.es=b'.es/\b.len<=b'.len/\(b.len=b'.len->C'.E nm=C.E nm)
structure Later (C C':Ctx):Prop where
 D:∀b,C.D b->C'.D b
 w:∀b,C.D b->C'.w.heap[b]?=C.w.heap[b]?
mutual
theorem AV.rel_mono {P:Program} {C C':Ctx} (L:Later C C'):∀{a:AV} {v:Value},(∀nm∈a.names,nb C C' nm)->a.rel P C v->a.rel P C' v
 | .top,_,_,_=>trivial
 | .dat _ _,_,_,h=>al L.D L.w h
 | .agg cs,_,hn,h=>by
  obtain⟨us,h1,h2⟩:=h;exact⟨us,h1,AV.relL_mono L (by simpa[AV.names]using hn) h2⟩
 | .tup cs,_,hn,h=>by
  obtain⟨us,h1,h2⟩:=h;exact⟨us,h1,AV.relL_mono L (by simpa[AV.names]using hn) h2⟩
 | .val _,_,_,h=>h
 | .buf nm n,_,hn,h=>by
  intro b' hb';obtain⟨b,hb,_,hl,hE⟩:=hn nm (by simp[AV.names]) b' hb';obtain⟨g1,g2⟩:=h b hb;refine⟨wE g1 hl,λe=>?_⟩;have e1:b.len=n:=by omega
  rw[hE (by omega)];exact g2 e1
 | .ptr nm g i c,_,hn,h=>by
  intro b' hb';obtain⟨b,hb,hes,hl,hE⟩:=hn nm (by simp[AV.names]) b' hb';obtain⟨g1,g2⟩:=h b hb;refine⟨wE g1 hl,λe=>?_⟩;have e1:b.len=g:=by omega
  rw[hE (by omega),<- hes];exact g2 e1
 | .ip t x,_,_,h=>by
  obtain⟨b,off,us,h1,h2,h3,h4⟩:=h;exact⟨b,off,us,h1,L.D _ h2,h3.same (L.w _ h2),al L.D L.w h4⟩
 | .fn f caps,_,hn,h=>by
  obtain⟨us,h1,h2⟩:=h;exact⟨us,h1,AV.relL_mono L (by simpa[AV.names]using hn) h2⟩
 | .clo1 a r pre g,_,_,h=>by
  obtain⟨f,caps,h1,h0,h2⟩:=h;exact⟨f,caps,h1,h0,λw' D' g1 g2 g3=>h2 w' D' (λb hb=>g1 b (L.D b hb)) g2 (λb hb=>(g3 b (L.D b hb)).trans (L.w b hb))⟩
 | .clo2 a b r pre g,_,_,h=>by
  obtain⟨f,caps,h1,h0,h2⟩:=h;exact⟨f,caps,h1,h0,λw' D' g1 g2 g3=>h2 w' D' (λb hb=>g1 b (L.D b hb)) g2 (λb hb=>(g3 b (L.D b hb)).trans (L.w b hb))⟩
 | .ifc t a,_,hn,h=>by
  obtain⟨u,h1,h2⟩:=h;exact⟨u,h1,AV.rel_mono L (by simpa[AV.names]using hn) h2⟩
 | .grd g a,_,hn,h=>⟨λhg=>AV.rel_mono L (by simpa[AV.names]using hn) (h.1 hg),h.2⟩
 | .ipv a,_,hn,h=>by
  obtain⟨b,off,u,h1,h2,h3,h5⟩:=h;exact⟨b,off,u,h1,L.D _ h2,(cell?_same (L.w _ h2)).trans h3,AV.rel_mono L (by simpa[AV.names]using hn) h5⟩
 | .ips cs,_,hn,h | .slv cs,_,hn,h=>by
  obtain⟨b,off,us,h1,h2,h3,h5⟩:=h;exact⟨b,off,us,h1,L.D _ h2,h3.same (L.w _ h2),AV.relL_mono L (by simpa[AV.names]using hn) h5⟩
 | .ia t xs,_,_,h=>by
  obtain⟨b,off,h1,h2⟩:=h;exact⟨b,off,h1,al L.D L.w h2⟩
 | .yld _,_,_,h=>h
 | .view nm n,_,hn,h=>by
  intro b' hb';obtain⟨b,hb,_,hl,hE⟩:=hn nm (by simp[AV.names]) b' hb';obtain⟨g1,g2⟩:=h b hb;refine⟨wE g1 hl,λe=>?_⟩;have e1:b.len=n:=by omega
  rw[hE (by omega)];exact g2 e1
 | .av _ _,_,_,h=>by
  obtain⟨us,h1,h2,h3⟩:=h;exact⟨us,h1,h2,λi y hy=>al L.D L.w (h3 i y hy)⟩
 | .sel i cs,_,hn,h=>by
  obtain⟨us,h1,h2⟩:=h;exact⟨us,AV.relL_mono L (by simpa[AV.names]using hn) h1,h2⟩
 | .row nm g i k,_,hn,h=>by
  intro b' hb';obtain⟨b,hb,_,hl,hE⟩:=hn nm (by simp[AV.names]) b' hb';obtain⟨g1,g2⟩:=h b hb;refine⟨wE g1 hl,λe=>?_⟩;rw[hE (by omega)];exact g2 (by omega)
 | .rptr nm g i k j,_,hn,h=>by
  intro b' hb';obtain⟨b,hb,_,hl,hE⟩:=hn nm (by simp[AV.names]) b' hb';obtain⟨g1,g2⟩:=h b hb;refine⟨wE g1 hl,λe=>?_⟩;rw[hE (by omega)];exact g2 (by omega)
 | .pin u a,_,hn,h=>⟨h.1,AV.rel_mono L (by simpa[AV.names]using hn) h.2⟩
theorem AV.relL_mono {P:Program} {C C':Ctx} (L:Later C C'):∀{as:List AV} {us:Lv},(∀nm∈AV.namesL as,nb C C' nm)->AV.relL P C as us->AV.relL P C' as us
 | [],_,_,h=>h
 | a::as,_,hn,h=>by
  obtain⟨u,us',h1,h2,h3⟩:=h;simp only[AV.namesL,qH]at hn;exact⟨u,us',h1,AV.rel_mono L (λnm h=>hn nm (.inl h)) h2,AV.relL_mono L (λnm h=>hn nm (.inr h)) h3⟩
end
theorem AV.relL_length {P:Program} {C:Ctx}:∀{as:List AV} {us:Lv},AV.relL P C as us->as.length=us.length
 | [],_,h=>by simp only[AV.relL]at h;subst h;rfl
 | a::as,_,h=>by
  obtain⟨u,us',h1,_,h3⟩:=h;subst h1;simp[AV.relL_length h3]
theorem AV.relL_get {P:Program} {C:Ctx}:∀{as:List AV} {us:Lv},AV.relL P C as us->∀{i:Nat} {a:AV},as[i]?=some a->∃u,us[i]?=some u/\a.rel P C u
 | [],_,_,i,a,h=>by simp at h
 | a::as,_,h,i,a',hi=>by
  obtain⟨u,us',h1,h2,h3⟩:=h;subst h1;cases i with
  | zero=>simp at hi;subst hi;exact⟨u,rfl,h2⟩
  | succ i=>simpa using AV.relL_get h3 (by simpa using hi)
theorem AV.relL_mk {P:Program} {C:Ctx}:∀{as:List AV} {us:Lv},as.length=us.length->(∀(i:Nat) (a:AV) (u:Value),as[i]?=some a->us[i]?=some u->a.rel P C u)->AV.relL P C as us
 | [],[],_,_=>rfl
 | a::as,u::us,hl,h=>⟨u,us,rfl,h 0 a u rfl rfl,AV.relL_mk (by simpa using hl) (λi a' u' h1 h2=>h (i+1) a' u' (by simpa using h1) (by simpa using h2))⟩
theorem AV.relL_append {P:Program} {C:Ctx} {as bs:List AV} {us vs:Lv} (h1:AV.relL P C as us) (h2:AV.relL P C bs vs):AV.relL P C (as++bs) (us++vs):=by
 induction as generalizing us with
 | nil=>simp only[AV.relL]at h1;subst h1;exact h2
 | cons a as ih=>
  obtain⟨u,us',e,g1,g2⟩:=h1;subst e;exact⟨u,us'++vs,rfl,g1,ih g2⟩
theorem AV.relL_split {P:Program} {C:Ctx} {as bs:List AV} {us:Lv} (h:AV.relL P C (as++bs) us):∃u1 u2,us=u1++u2/\AV.relL P C as u1/\AV.relL P C bs u2:=by
 induction as generalizing us with
 | nil=>exact⟨[],us,rfl,rfl,h⟩
 | cons a as ih=>
  obtain⟨u,us',e,g1,g2⟩:=h;obtain⟨u1,u2,e2,g3,g4⟩:=ih g2;subst e2;exact⟨u::u1,u2,e,⟨u,u1,rfl,g1,g3⟩,g4⟩
theorem AV.relL_drop {P:Program} {C:Ctx} {as:List AV} {us:Lv} (h:AV.relL P C as us) (n:Nat):AV.relL P C (as.drop n) (us.drop n):=by
 refine AV.relL_mk (by rw[vY,vY,AV.relL_length h]) λi a u h1 h2=>?_
 rw[qY]at h1 h2;obtain⟨u',h3,h4⟩:=AV.relL_get h h1;rw[h3]at h2;cases h2;exact h4
theorem AV.relL_take {P:Program} {C:Ctx} {as:List AV} {us:Lv} (h:AV.relL P C as us) (n:Nat):AV.relL P C (as.take n) (us.take n):=by
 refine AV.relL_mk (by rw[qI,qI,AV.relL_length h]) λi a u h1 h2=>?_
 rw[vM]at h1 h2;split at h1
 .rename_i hlt;rw[if_pos hlt]at h2;obtain⟨u',h3,h4⟩:=AV.relL_get h h1;rw[h3]at h2;cases h2;exact h4
 .cases h1
def cellsOf: (t:Ty)->t.den->List AV
 | .pair a b,x=>cellsOf a x.1++cellsOf b x.2
 | .int k,x=>[.dat (.int k) x]
 | .bool,x=>[.dat .bool x]
 | .str,x=>[.dat .str x]
 | .sl e,x=>[.dat (.sl e) x]
theorem ie: ∀(t:Ty) (x:t.den),AV.namesL (cellsOf t x)=[]
 | .pair a b,x=>by
  have app:∀(l k:List AV),AV.namesL (l++k)=AV.namesL l++AV.namesL k:=by
   intro l k;induction l with
   | nil=>rfl
   | cons a l ih=>simp[AV.namesL,ih]
  simp only[cellsOf,app,ie a,ie b];rfl
 | .int _,_ | .bool,_ | .str,_ | .sl _,_=>by simp[cellsOf,AV.namesL,AV.names]
theorem b7{P:Program}{C:Ctx}: ∀{t:Ty} {x:t.den} {us:Lv},ah C.w C.D t x us->AV.relL P C (cellsOf t x) us
 | .pair a b,x,us,h=>by
  obtain⟨u1,u2,h,h1,h2⟩:=h;subst h;exact AV.relL_append (b7 h1) (b7 h2)
 | .int k,x,us,h=>by
  have e:=aS h;obtain⟨u,rfl⟩:∃u,us=[u]:=xW.1 e;exact⟨u,[],rfl,h,rfl⟩
 | .bool,x,us,h=>by
  have e:=aS h;obtain⟨u,rfl⟩:∃u,us=[u]:=xW.1 e;exact⟨u,[],rfl,h,rfl⟩
 | .str,x,us,h=>by
  have e:=aS h;obtain⟨u,rfl⟩:∃u,us=[u]:=xW.1 e;exact⟨u,[],rfl,h,rfl⟩
 | .sl _,x,us,h=>by
  have e:=aS h;obtain⟨u,rfl⟩:∃u,us=[u]:=xW.1 e;exact⟨u,[],rfl,h,rfl⟩
theorem Bc{w:World}{D:Nat->Prop}{e:Ty}{xs:List e.den}{ad:Addr}{cap:Nat}(h:ah w D (.sl e) xs [.slice (some ad) (List.length xs) cap])(c:Nat)(hc:List.length xs<=c):
  ah w D (.sl e) xs [.slice (some ad) (List.length xs) c]:=by
 obtain⟨ao,cap',h1,h2,h3,h4,h5⟩:=h;simp only[qR,zM,vP,zS]at h1;obtain⟨h1,_⟩:=h1;subst h1;exact⟨some ad,c,rfl,hc,(λh=>by cases h),h4,h5⟩
theorem bm(w:World)(D:Nat->Prop)(e:Ty): ah w D (.sl e) [] [.slice none 0 0]:=
 ⟨none,0,rfl,qJ _,λ_=>rfl,λ_ h=>(by cases h),λi y h=>(by rw[List.getElem?_nil]at h;cases h)⟩
def AV.as:AV->(t:Ty)->Option t.den
 | .dat t' x,t=>if h:t'=t then some (h▸x)else none
 | .val (.slice none 0 0),.sl _=>some []
 | _,_=>none
theorem AV.as_rel {P:Program} {C:Ctx} {a:AV} {t:Ty} {x:t.den} {v:Value} (h:a.as t=some x) (hr:a.rel P C v):ah C.w C.D t x [v]:=by
 unfold AV.as at h;split at h
 .split at h
  .rename_i hk;subst hk;cases h;exact hr
  .cases h
 .cases h;simp only[AV.rel]at hr;subst hr;exact bm _ _ _
 .cases h
def cF: (t:Ty)->List AV->Option (t.den×List AV)
 | .pair a b,cs=>match cF a cs with
  | some (x,cs)=>match cF b cs with
   | some (y,cs)=>some ((x,y),cs)
   | none=>none
  | none=>none
 | .int k,c::cs=>(c.as (.int k)).map λx=>(x,cs)
 | .bool,c::cs=>(c.as .bool).map λx=>(x,cs)
 | .str,c::cs=>(c.as .str).map λx=>(x,cs)
 | .sl e,c::cs=>(c.as (.sl e)).map λx=>(x,cs)
 | .int _,[] | .bool,[] | .str,[] | .sl _,[]=>none
theorem kg{P:Program}{C:Ctx}{t:Ty}{c:AV}{cs rest:List AV}{x:t.den}{us:Lv}
  (h:((c.as t).map λx=>(x,cs))=some (x,rest)) (hr:AV.relL P C (c::cs) us):
  ∃u1 u2,us=u1++u2/\ah C.w C.D t x u1/\AV.relL P C rest u2:=by
 cases hy:c.as t with
 | none=>rw[hy]at h;cases h
 | some y=>
  rw[hy]at h;cases h;obtain⟨u,us',e,g1,g2⟩:=hr;subst e;exact⟨[u],us',rfl,AV.as_rel hy g1,g2⟩
theorem cm{P:Program}{C:Ctx}: ∀{t:Ty} {cs rest:List AV} {x:t.den} {us:Lv},cF t cs=some (x,rest)->AV.relL P C cs us->
  ∃u1 u2,us=u1++u2/\ah C.w C.D t x u1/\AV.relL P C rest u2
 | .pair a b,cs,rest,x,us,h,hr=>by
  simp only[cF]at h;split at h
  .rename_i x1 cs1 h1;split at h
   .rename_i x2 cs2 h2;cases h;obtain⟨u1,u2,e,g1,g2⟩:=cm h1 hr;obtain⟨u3,u4,e',g3,g4⟩:=cm h2 g2;subst e e';exact⟨u1++u3,u4,by simp,⟨u1,u3,rfl,g1,g3⟩,g4⟩
   .cases h
  .cases h
 | .int k,c::cs,rest,x,us,h,hr=>by simp only[cF]at h;exact kg h hr
 | .bool,c::cs,rest,x,us,h,hr=>by simp only[cF]at h;exact kg h hr
 | .str,c::cs,rest,x,us,h,hr=>by simp only[cF]at h;exact kg h hr
 | .sl e,c::cs,rest,x,us,h,hr=>by simp only[cF]at h;exact kg h hr
 | .int _,[],_,_,_,h,_=>by simp[cF]at h
 | .bool,[],_,_,_,h,_=>by simp[cF]at h
 | .str,[],_,_,_,h,_=>by simp[cF]at h
 | .sl _,[],_,_,_,h,_=>by simp[cF]at h
end Go.Eng
namespace Go.Eng
open Go.RowKit
def bW(P:Program)(C:Ctx)(t:Ty)(xs:List t.den)(ov:List (Nat×AV))(raw:Lv): Prop:=
 ∀(i:Nat) (y:t.den),xs[i]?=some y->match ov.lookup i with
  | none=>ah C.w C.D t y ((raw.drop (i*t.sz)).take t.sz)
  | some a=>t.sz=1/\∃u,raw[i]?=some u/\u.oneCell'=true/\a.rel P C u
def C5(P:Program)(base:Nat)(C:Ctx)(e:Ent)(eli:TypeId)(t:Ty)(i:Nat)(row:List t.den)(u:Value): Prop:=
 ∃ao cap r2,u=.slice ao row.length cap/\(ao=none->cap=0)/\(0<row.length->ao=some ⟨(e.rb i).1,0,none⟩/\C.w.ownsRow base eli 1 u row.length r2/\bW P C t row [] r2)
def Wi(P:Program)(base:Nat)(C:Ctx)(e:Ent)(eli:TypeId)(t:Ty)(xss:List (List t.den))(ov:List (Nat×AV))(raw:Lv): Prop:=
 ∀(i:Nat) (row:List t.den),xss[i]?=some row->∃u,raw[i]?=some u/\match ov.lookup i with
  | none=>C5 P base C e eli t i row u
  | some a=>u.oneCell'=true/\a.rel P C u
def b8(m:Nat->Option Blk)(E:Nat->Ent)(nm i b:Nat): Prop:=∃(el eli:TypeId) (t:Ty) (xss:List (List t.den)) (ov:List (Nat×AV)) (row:List t.den),
 m nm=some (.mat el eli t xss ov)/\ov.lookup i=none/\xss[i]?=some row/\0<row.length/\b=((E nm).rb i).1
structure fb (lo:Nat) (O:Nat->Prop) (m:Nat->Option Blk) (E:Nat->Ent) (n:Nat) (D:Nat->Prop):Prop where
 own:∀nm i b,b8 m E nm i b->(lo<=b\/O b)/\b<n/\¬D b
 ent:∀nm i b,b8 m E nm i b->∀nm' blk,m nm'=some blk->(E nm').isNil=false->(E nm').b≠b
 inj:∀nm i b nm' j,b8 m E nm i b->b8 m E nm' j b->nm=nm'/\i=j
def dE(P:Program)(base:Nat)(C:Ctx)(e:Ent): Blk->Prop
 | .var cs=>e.isNil=false/\∃us el,C.w.heap[e.b]?=some (.cells us el (0,0))/\AV.relL P C cs us.toList
 | .buf el t xs ov=>∃raw,C.w.ownsRow base el t.sz (e.handle xs.length) xs.length raw/\bW P C t xs ov raw
 | .mat el eli t xss ov=>t.sz=1/\∃raw,C.w.ownsRow base el 1 (e.handle xss.length) xss.length raw/\Wi P base C e eli t xss ov raw
structure Sig where
 T:Nat->AV
 m:Nat->Option Blk
 sv:List AV
structure Base where
 P:Program
 w0:World
 D0:Nat->Prop
 N:Nat
 O:Nat->Prop
 G:List (Nat×AV)
 sv:Lv
 rd:Option Nat
 nod:Bool
 gd:List Deferred:=[]
def Marks(nod:Bool)(base:Nat)(D:Nat->Prop)(w:World)(gd ds:List Deferred): Prop:=
 ((nod=true->ds=gd)/\(∃ms,ds=ms++gd)/\ds.Pairwise λd e=>d.target≠e.target)/\∀d∈ds,(d∈gd/\∀k,d.target≠.collected k)\/∃k,d={target:=.collected k,args:=#[]}/\base<=k/\D k/\w.heap[k]?=some (.deferred (some []))
structure Chg (O:Nat->Prop) (w w':World):Prop where
 os:w'.os=w.os
 tape:w'.tape=w.tape
 output:w'.output=w.output
 size:w.heap.size<=w'.heap.size
 block:∀k,k<w.heap.size->¬O k->w'.heap[k]?=w.heap[k]?
theorem Chg.refl (O:Nat->Prop) (w:World):Chg O w w:=⟨rfl,rfl,rfl,qJ _,λ_ _ _=>rfl⟩
theorem Chg.step {O:Nat->Prop} {a b c:World} (h:Chg O a b) (ho:c.os=b.os) (ht:c.tape=b.tape) (hu:c.output=b.output) (hs:b.heap.size<=c.heap.size)
  (hb:∀k,k<a.heap.size->¬O k->c.heap[k]?=b.heap[k]?):Chg O a c:=
 ⟨ho.trans h.os,ht.trans h.tape,hu.trans h.output,wE h.size hs,λk hk hno=>(hb k hk hno).trans (h.block k hk hno)⟩
theorem Chg.below {O:Nat->Prop} {a b c:World} (h:Chg O a b) (k:Below b.heap.size b c):Chg O a c:=
 h.step k.os k.tape k.output k.size λi hi _=>k.block i (qN hi h.size)
def jX(P:Program)(C:Ctx)(G:List (Nat×AV)): Prop:=∀p∈G,p.2.names=[]/\p.2.rel P C (.pointer (some ⟨p.1,0,none⟩))
theorem jX.mono {P:Program} {C C':Ctx} {G:List (Nat×AV)} (L:Later C C') (h:jX P C G):jX P C' G:=λp hp=>
 ⟨(h p hp).1,AV.rel_mono L (λnm hm=>by rw[(h p hp).1]at hm;cases hm) (h p hp).2⟩
structure aH (S:Base) (σ:Sig) (a:Act) (w:World) (D:Nat->Prop) (E:Nat->Ent):Prop where
 sz:a.tmps.size=S.N
 df:Marks S.nod S.w0.heap.size D w S.gd a.defers
 tm:∀t,(σ.T t).rel S.P ⟨w,D,σ.m,E⟩ (a.tmps.getD t undef)
 bl:∀nm b,σ.m nm=some b->dE S.P 0 ⟨w,D,σ.m,E⟩ (E nm) b
 own:∀nm b,σ.m nm=some b->(E nm).isNil=false->(S.w0.heap.size<=(E nm).b\/S.O (E nm).b)/\(E nm).b<w.heap.size/\¬D (E nm).b
 inj:∀nm nm' b b',σ.m nm=some b->σ.m nm'=some b'->(E nm).isNil=false->(E nm').isNil=false->(E nm).b=(E nm').b->nm=nm'
 low:Chg S.O S.w0 w
 dlt:∀b,D b->b<w.heap.size
 dlo:∀b,S.D0 b->D b
 dhi:∀b,D b->S.D0 b\/S.w0.heap.size<=b\/S.O b
 gl:jX S.P ⟨w,D,σ.m,E⟩ S.G
 svr:AV.relL S.P ⟨w,D,σ.m,E⟩ σ.sv S.sv
 pv:fb S.w0.heap.size S.O σ.m E w.heap.size D
def Sim(S:Base)(σ:Sig)(a:Act)(w:World): Prop:=∃D E,aH S σ a w D E
def upT(T:Nat->AV)(d:Option Tmp)(v:AV): Nat->AV:=λt=>if some t=d then v else T t
def upM(m:Nat->Option Blk)(u:List (Nat×Blk)): Nat->Option Blk:=λnm=>match u.lookup nm with | some b=>some b | none=>m nm
def Unm(nm:Nat)(σ:Sig): Prop:=σ.m nm=none/\(∀t,nm∉(σ.T t).names)/\(∀nm' b,σ.m nm'=some b->nm∉b.names)/\nm∉AV.namesL σ.sv
theorem Hz{ov:List (Nat×AV)}{i:Nat}{a:AV}(ho:ov.lookup i=some a){nm:Nat}(h:nm∈a.names): nm∈AV.namesL (ov.map (·.2)):=by
 induction ov with
 | nil=>simp at ho
 | cons p ov ih=>
  obtain⟨j,b⟩:=p;simp only[List.lookup]at ho;simp only[zH,AV.namesL,qH];split at ho
  .cases ho;exact .inl h
  .exact .inr (ih ho)
theorem bj{P:Program}{C C':Ctx}(L:Later C C'){t:Ty}{xs:List t.den}{ov:List (Nat×AV)}{raw:Lv}
  (hn:∀nm∈AV.namesL (ov.map (·.2)),nb C C' nm) (h:bW P C t xs ov raw):bW P C' t xs ov raw:=by
 intro i y hy;have g:=h i y hy;cases ho:ov.lookup i with
 | none=>rw[ho]at g;exact al L.D L.w g
 | some a=>
  rw[ho]at g;obtain⟨g1,u,g2,g4,g3⟩:=g;exact⟨g1,u,g2,g4,AV.rel_mono L (λnm h=>hn nm (Hz ho h)) g3⟩
def rowsOf(e:Ent)(b:Blk)(i k:Nat): Prop:=∃(el eli:TypeId) (t:Ty) (xss:List (List t.den)) (ov:List (Nat×AV)) (row:List t.den),
 b=.mat el eli t xss ov/\ov.lookup i=none/\xss[i]?=some row/\0<row.length/\k=(e.rb i).1
theorem aI{m:Nat->Option Blk}{E:Nat->Ent}{nm i k:Nat}: b8 m E nm i k↔∃b,m nm=some b/\rowsOf (E nm) b i k:=by
 constructor
 .rintro⟨el,eli,t,xss,ov,row,h1,h2⟩;exact⟨_,h1,el,eli,t,xss,ov,row,rfl,h2⟩
 .rintro⟨b,h1,el,eli,t,xss,ov,row,rfl,h2⟩;exact⟨el,eli,t,xss,ov,row,h1,h2⟩
theorem fy{w w':World}{base:Nat}{el:TypeId}{sz n:Nat}{v:Value}{raw:Lv}(hv:∀g n' c,v=.slice (some ⟨g,0,none⟩) n' c->w'.heap[g]?=w.heap[g]?)
  (h:w.ownsRow base el sz v n raw):w'.ownsRow base el sz v n raw:=by
 refine⟨h.1,?_⟩;rcases h.2 with h | ⟨g,cap,cur,e,hg,hh,r⟩
 .exact .inl h
 .exact .inr ⟨g,cap,cur,e,hg,(hv g n cap e).trans hh,r⟩
theorem B0{e:Ent}{n g n' c:Nat}(h:e.handle n=.slice (some ⟨g,0,none⟩) n' c): e.isNil=false/\g=e.b:=by
 unfold Ent.handle at h;cases hn:e.isNil with
 | true=>rw[hn]at h;cases h
 | false=>
  rw[hn]at h;simp at h;exact⟨rfl,h.1.symm⟩
theorem dE.mono {P:Program} {base:Nat} {C C':Ctx} (L:Later C C') {e:Ent} {b:Blk} (hn:∀nm∈b.names,nb C C' nm)
  (hw:e.isNil=false->C'.w.heap[e.b]?=C.w.heap[e.b]?) (hr:∀i k,rowsOf e b i k->C'.w.heap[k]?=C.w.heap[k]?) (h:dE P base C e b):dE P base C' e b:=by
 cases b with
 | var cs=>
  obtain⟨h0,us,el,h1,h2⟩:=h;exact⟨h0,us,el,(hw h0).trans h1,AV.relL_mono L hn h2⟩
 | buf el t xs ov=>
  obtain⟨raw,h1,h2⟩:=h;refine⟨raw,⟨h1.1,?_⟩,bj L hn h2⟩;rcases h1.2 with h | ⟨g,cap,cur,hv,hg,hh,r⟩
  .exact .inl h
  .refine .inr ⟨g,cap,cur,hv,hg,?_,r⟩;unfold Ent.handle at hv;split at hv
   .cases hv
   .rename_i hi;simp only[zM,vZ,gG,vP,zS]at hv;rw[<- hv.1];rw[hw (by simpa using hi),hv.1];exact hh
 | mat el eli t xss ov=>
  obtain⟨h0,raw,h1,h2⟩:=h;refine⟨h0,raw,?_,λi row hi=>?_⟩
  .refine fy (λg' n' c h=>?_) h1;obtain⟨q1,rfl⟩:=B0 h;exact hw q1
  .obtain⟨u,g1,g2⟩:=h2 i row hi;refine⟨u,g1,?_⟩;cases ho:ov.lookup i with
   | some a=>
    rw[ho]at g2;exact⟨g2.1,AV.rel_mono L (λnm h=>hn nm (Hz ho h)) g2.2⟩
   | none=>
    rw[ho]at g2;obtain⟨ao,cap,r2,q1,q0,q2⟩:=g2;refine⟨ao,cap,r2,q1,q0,λhp=>?_⟩;obtain⟨k1,k2,k3⟩:=q2 hp;refine⟨k1,fy (λg' n' c h=>?_) k2,bj L (λnm h=>by cases h) k3⟩;rw[q1,k1]at h;simp at h;rw[<- h.1];exact hr i _ ⟨el,eli,t,xss,ov,row,rfl,ho,hi,hp,rfl⟩
theorem aH.put {S:Base} {σ:Sig} {a:Act} {w:World} {D:Nat->Prop} {E:Nat->Ent} (h:aH S σ a w D E) {d:Option Tmp} {v:Value} {x:AV}
  (hd:∀t,d=some t->t<S.N) (hx:x.rel S.P ⟨w,D,σ.m,E⟩ v):aH S ⟨upT σ.T d x,σ.m,σ.sv⟩ (a.put d v) w D E:=by
 cases d with
 | none=>exact⟨h.sz,h.df,λt=>by simpa[upT,Act.put]using h.tm t,h.bl,h.own,h.inj,h.low,h.dlt,h.dlo,h.dhi,h.gl,h.svr,h.pv⟩
 | some d=>
  refine⟨by simpa[Act.put]using h.sz,h.df,λt=>?_,h.bl,h.own,h.inj,h.low,h.dlt,h.dlo,h.dhi,h.gl,h.svr,h.pv⟩;have hlt:d<a.tmps.size:=by rw[h.sz];exact hd d rfl
  by_cases e:t=d
  .subst e;have hgt:(a.tmps.setIfInBounds t v).getD t undef=v:=by simp[Array.getD,hlt]
   simp only[upT,xU,Act.put];rw[hgt];exact hx
  .have:(a.tmps.setIfInBounds d v).getD t undef=a.tmps.getD t undef:=by
    simp only[qK,zB];rw[if_neg (λh=>e h.symm)]
   simp only[upT,vZ,e,yQ,Act.put];rw[this];exact h.tm t
def Outcome(S:Base)(σ:Sig)(a:Act)(x:AV)(v:Value)(w:World): Prop:=
 ∃D E,aH S σ a w D E/\x.rel S.P ⟨w,D,σ.m,E⟩ v
theorem aH.go {S:Base} {σ:Sig} {a:Act} {w w':World} {D D':Nat->Prop} {E E':Nat->Ent} {m':Nat->Option Blk} (h:aH S σ a w D E)
  (L:Later ⟨w,D,σ.m,E⟩ ⟨w',D',m',E'⟩)
  (hn:∀nm,nb ⟨w,D,σ.m,E⟩ ⟨w',D',m',E'⟩ nm\/Unm nm σ)
  (hb:∀nm b,m' nm=some b->(σ.m nm=some b/\E' nm=E nm/\((E nm).isNil=false->w'.heap[(E nm).b]?=w.heap[(E nm).b]?)/\∀i k,rowsOf (E nm) b i k->w'.heap[k]?=w.heap[k]?)\/dE S.P 0 ⟨w',D',m',E'⟩ (E' nm) b)
  (ho:∀nm b,m' nm=some b->(E' nm).isNil=false->(S.w0.heap.size<=(E' nm).b\/S.O (E' nm).b)/\(E' nm).b<w'.heap.size/\¬D' (E' nm).b)
  (hi:∀nm nm' b b',m' nm=some b->m' nm'=some b'->(E' nm).isNil=false->(E' nm').isNil=false->(E' nm).b=(E' nm').b->nm=nm')
  (hl:Chg S.O S.w0 w') (h1:∀b,D' b->b<w'.heap.size) (h2:∀b,D' b->D b\/S.w0.heap.size<=b\/S.O b) (hp:fb S.w0.heap.size S.O m' E' w'.heap.size D'):
  aH S ⟨σ.T,m',σ.sv⟩ a w' D' E':=by
 have hnm:∀(l:List Nat),(∀nm∈l,Unm nm σ->False)->∀nm∈l,nb ⟨w,D,σ.m,E⟩ ⟨w',D',m',E'⟩ nm:=
  λl hu nm hm=>(hn nm).resolve_right (hu nm hm)
 refine⟨h.sz,⟨h.df.1,λd hd=>?_⟩,λt=>?_,λnm b hm=>?_,ho,hi,hl,h1,λb hb=>L.D b (h.dlo b hb),λb hb=>?_,h.gl.mono L,AV.relL_mono L (hnm _ (λnm hm hu=>hu.2.2.2 hm)) h.svr,hp⟩
 .rcases h.df.2 d hd with g | ⟨k,g1,g2,g3,g4⟩
  .exact .inl g
  .exact .inr ⟨k,g1,g2,L.D k g3,(L.w k g3).trans g4⟩
 .exact AV.rel_mono L (hnm _ (λnm hm hu=>hu.2.1 t hm)) (h.tm t)
 .rcases hb nm b hm with⟨g1,g2,g3,g4⟩ | g
  .rw[g2];exact dE.mono L (hnm _ (λnm' hm' hu=>hu.2.2.1 nm b g1 hm')) g3 g4 (h.bl nm b g1)
  .exact g
 .rcases h2 b hb with g | g
  .exact h.dhi b g
  .exact .inr g
theorem fb.step {lo:Nat} {O:Nat->Prop} {m m':Nat->Option Blk} {E E':Nat->Ent} {n n':Nat} {D D':Nat->Prop} (h:fb lo O m E n D)
  (hm:∀nm i b,b8 m' E' nm i b->b8 m E nm i b) (hn:n<=n')
  (hD:∀b,D' b->D b\/n<=b\/∃nm blk,m nm=some blk/\(E nm).isNil=false/\b=(E nm).b)
  (hE:∀nm blk,m' nm=some blk->(E' nm).isNil=false->n<=(E' nm).b\/∃nm2 blk2,m nm2=some blk2/\(E nm2).isNil=false/\(E' nm).b=(E nm2).b):fb lo O m' E' n' D':=by
 refine⟨λnm i b hb=>?_,λnm i b hb nm' blk hm' hi e=>?_,λnm i b nm' j h1 h2=>h.inj nm i b nm' j (hm _ _ _ h1) (hm _ _ _ h2)⟩
 .obtain⟨g1,g2,g3⟩:=h.own nm i b (hm _ _ _ hb);refine⟨g1,qN g2 hn,λhd=>?_⟩;rcases hD b hd with q | q | ⟨nm2,blk,q1,q2,q3⟩
  .exact g3 q
  .omega
  .exact h.ent nm i b (hm _ _ _ hb) nm2 blk q1 q2 q3.symm
 .obtain⟨g1,g2,g3⟩:=h.own nm i b (hm _ _ _ hb);rcases hE nm' blk hm' hi with q | ⟨nm2,blk2,q1,q2,q3⟩
  .omega
  .exact h.ent nm i b (hm _ _ _ hb) nm2 blk2 q1 q2 (q3.symm.trans e)
theorem fb.lt {lo:Nat} {O:Nat->Prop} {m:Nat->Option Blk} {E:Nat->Ent} {n:Nat} {D:Nat->Prop} (h:fb lo O m E n D) {nm i k:Nat} {b:Blk} (hm:m nm=some b) (hr:rowsOf (E nm) b i k):k<n:=
 (h.own nm i k (aI.2 ⟨b,hm,hr⟩)).2.1
theorem aH.world {S:Base} {σ:Sig} {a:Act} {w w':World} {D D':Nat->Prop} {E:Nat->Ent} (h:aH S σ a w D E)
  (hw:Below w.heap.size w w') (hD:∀b,D' b↔D b\/(gk w w' b/\D' b)) (h1:∀b,D' b->b<w'.heap.size):aH S σ a w' D' E:=by
 have hs:=h.low.size;refine h.go (m':=σ.m) ⟨λb hb=>(hD b).2 (.inl hb),λb hb=>hw.block b (h.dlt b hb)⟩ (λnm=>.inl λb hb=>⟨b,hb,rfl,qJ _,λ_=>rfl⟩)
  (λnm b hm=>.inl ⟨hm,rfl,λhi=>hw.block _ (h.own nm b hm hi).2.1,λi k hr=>hw.block _ (h.pv.lt hm hr)⟩) (λnm b hm hi=>?_) h.inj (h.low.below hw) h1 (λb hb=>?_)
  (h.pv.step (λ_ _ _ g=>g) hw.size (λb hb=>((hD b).1 hb).imp id λg=>.inl g.1.1) λnm blk hm hi=>.inr ⟨nm,blk,hm,hi,rfl⟩)
 .obtain⟨g1,g2,g3⟩:=h.own nm b hm hi;refine⟨g1,qN g2 hw.size,λhd=>?_⟩;rcases(hD _).1 hd with g | g
  .exact g3 g
  .exact yS _ (qN g2 g.1.1)
 .rcases(hD b).1 hb with g | g
  .exact .inl g
  .exact .inr (.inl (wE hs g.1.1))
end Go.Eng
namespace Go.Eng
open Go.RowKit
def Ag(e e':Ent): Prop:=e.isNil=e'.isNil/\(e.isNil=false->e.b=e'.b/\e.cap=e'.cap)
theorem Ag.handle {e e':Ent} (h:Ag e e') (n:Nat):e.handle n=e'.handle n:=by
 unfold Ent.handle;rw[<- h.1];cases hn:e.isNil with
 | true=>rfl
 | false=>obtain⟨g1,g2⟩:=h.2 hn;simp[g1,g2]
theorem SR{e e':Ent}{n:Nat}(h:e.handle n=e'.handle n): Ag e e':=by
 unfold Ent.handle at h;cases hn:e.isNil<;>cases hn':e'.isNil<;>simp[hn,hn']at h
 .exact⟨hn.trans hn'.symm,λ_=>h⟩
 .exact⟨hn.trans hn'.symm,λe=>by rw[hn]at e;cases e⟩
mutual
def AV.simple:AV->Bool
 | .agg cs=>AV.simpleL cs
 | .tup cs=>AV.simpleL cs
 | .fn _ cs=>AV.simpleL cs
 | .ifc _ a=>a.simple
 | .grd _ a=>a.simple
 | .ipv a=>a.simple
 | .ips cs=>AV.simpleL cs
 | .slv cs=>AV.simpleL cs
 | .sel _ cs=>AV.simpleL cs
 | .row _ _ _ _=>false
 | .rptr _ _ _ _ _=>false
 | .pin _ a=>a.simple
 | _=>true
def AV.simpleL:List AV->Bool
 | []=>true
 | a::as=>a.simple&&AV.simpleL as
end
def Blk.simple:Blk->Bool
 | .var cs=>AV.simpleL cs
 | .buf _ _ _ ov=>AV.simpleL (ov.map (·.2))
 | .mat _ _ _ _ _=>false
mutual
theorem AV.rel_ent {P:Program} {w:World} {D:Nat->Prop} {m:Nat->Option Blk} {E E':Nat->Ent} {s:Bool} (L:∀nm b,m nm=some b->Ag (E nm) (E' nm)/\(s=true->(E nm).rb=(E' nm).rb)):∀{a:AV} {v:Value},(s=false->a.simple=true)->a.rel P ⟨w,D,m,E⟩ v->a.rel P ⟨w,D,m,E'⟩ v
 | .top,_,_,_=>trivial
 | .dat _ _,_,_,h=>h
 | .agg cs,_,hs,h=>by obtain⟨us,h1,h2⟩:=h;exact⟨us,h1,AV.relL_ent L (by simpa[AV.simple]using hs) h2⟩
 | .tup cs,_,hs,h=>by obtain⟨us,h1,h2⟩:=h;exact⟨us,h1,AV.relL_ent L (by simpa[AV.simple]using hs) h2⟩
 | .val _,_,_,h=>h
 | .buf nm n,v,_,h=>λb hb=>by
  obtain⟨g1,g2⟩:=h b hb;exact⟨g1,λe=>(g2 e).trans ((L nm b hb).1.handle n)⟩
 | .ptr nm g i c,v,_,h=>λb hb=>by
  obtain⟨g1,g2⟩:=h b hb;refine⟨g1,λe=>?_⟩;obtain⟨q1,q2,q3⟩:=g2 e;obtain⟨r1,r2⟩:=(L nm b hb).1;refine⟨q1,r1.symm.trans q2,?_⟩;show v=.pointer (some ⟨(E' nm).b,_,none⟩);rw[<- (r2 q2).1];exact q3
 | .ip t x,_,_,h=>h
 | .fn f caps,_,hs,h=>by obtain⟨us,h1,h2⟩:=h;exact⟨us,h1,AV.relL_ent L (by simpa[AV.simple]using hs) h2⟩
 | .clo1 a r pre g,_,_,h=>h
 | .clo2 a b r pre g,_,_,h=>h
 | .ifc t a,_,hs,h=>by obtain⟨u,h1,h2⟩:=h;exact⟨u,h1,AV.rel_ent L (by simpa[AV.simple]using hs) h2⟩
 | .grd g a,_,hs,h=>⟨λhg=>AV.rel_ent L (by simpa[AV.simple]using hs) (h.1 hg),h.2⟩
 | .ipv a,_,hs,h=>by
  obtain⟨b,off,u,h1,h2,h3,h5⟩:=h;exact⟨b,off,u,h1,h2,h3,AV.rel_ent L (by simpa[AV.simple]using hs) h5⟩
 | .ips cs,_,hs,h | .slv cs,_,hs,h=>by
  obtain⟨b,off,us,h1,h2,h3,h5⟩:=h;exact⟨b,off,us,h1,h2,h3,AV.relL_ent L (by simpa[AV.simple]using hs) h5⟩
 | .ia t xs,_,_,h=>h
 | .yld _,_,_,h=>h
 | .view nm n,v,_,h=>λb hb=>by
  obtain⟨g1,g2⟩:=h b hb;refine⟨g1,λe=>?_⟩;obtain⟨q1,c,q2,q3⟩:=g2 e;obtain⟨r1,r2⟩:=(L nm b hb).1;refine⟨r1.symm.trans q1,c,q2,?_⟩;show v=.slice (some ⟨(E' nm).b,0,none⟩) n c;rw[<- (r2 q1).1];exact q3
 | .av _ _,_,_,h=>h
 | .sel i cs,_,hs,h=>by
  obtain⟨us,h1,h2⟩:=h;exact⟨us,AV.relL_ent L (by simpa[AV.simple]using hs) h1,h2⟩
 | .row nm g i k,v,hs,h=>λb hb=>by
  cases s with
  | false=>exact absurd (hs rfl) (by simp[AV.simple])
  | true=>
   obtain⟨g1,g2⟩:=h b hb;refine⟨g1,λe=>?_⟩;have:=(L nm b hb).2 rfl;show ∃ao cap,v=.slice ao k cap/\(0<k->ao=some ⟨((E' nm).rb i).1,0,none⟩);rw[<- this];exact g2 e
 | .rptr nm g i k j,v,hs,h=>λb hb=>by
  cases s with
  | false=>exact absurd (hs rfl) (by simp[AV.simple])
  | true=>
   obtain⟨g1,g2⟩:=h b hb;refine⟨g1,λe=>?_⟩;have:=(L nm b hb).2 rfl;show j<k/\v=.pointer (some ⟨((E' nm).rb i).1,j,none⟩);rw[<- this];exact g2 e
 | .pin u a,_,hs,h=>⟨h.1,AV.rel_ent L (by simpa[AV.simple]using hs) h.2⟩
theorem AV.relL_ent {P:Program} {w:World} {D:Nat->Prop} {m:Nat->Option Blk} {E E':Nat->Ent} {s:Bool} (L:∀nm b,m nm=some b->Ag (E nm) (E' nm)/\(s=true->(E nm).rb=(E' nm).rb)):∀{as:List AV} {us:Lv},(s=false->AV.simpleL as=true)->AV.relL P ⟨w,D,m,E⟩ as us->AV.relL P ⟨w,D,m,E'⟩ as us
 | [],_,_,h=>h
 | a::as,_,hs,h=>by
  obtain⟨u,us',h1,h2,h3⟩:=h;exact⟨u,us',h1,AV.rel_ent L (λg=>(by have:=hs g;simp[AV.simpleL]at this;exact this.1)) h2,AV.relL_ent L (λg=>(by have:=hs g;simp[AV.simpleL]at this;exact this.2)) h3⟩
end
theorem NF{ov:List (Nat×AV)}(h:AV.simpleL (ov.map (·.2))=true){i:Nat}{a:AV}(ho:ov.lookup i=some a): a.simple=true:=by
 induction ov with
 | nil=>cases ho
 | cons p ov ih=>
  simp only[zH,AV.simpleL,qC]at h;obtain⟨k,v⟩:=p;simp only[List.lookup]at ho;split at ho
  .cases ho;exact h.1
  .exact ih h.2 ho
theorem dE.ent {P:Program} {base:Nat} {w:World} {D:Nat->Prop} {m:Nat->Option Blk} {E E':Nat->Ent} {s:Bool} (L:∀nm b,m nm=some b->Ag (E nm) (E' nm)/\(s=true->(E nm).rb=(E' nm).rb)) {e e':Ent} (he:Ag e e'/\(s=true->e.rb=e'.rb)) {b:Blk}
  (hs:s=false->b.simple=true) (h:dE P base ⟨w,D,m,E⟩ e b):dE P base ⟨w,D,m,E'⟩ e' b:=by
 cases b with
 | var cs=>
  obtain⟨h0,us,el,h1,h2⟩:=h;exact⟨he.1.1.symm.trans h0,us,el,by rw[<- (he.1.2 h0).1];exact h1,AV.relL_ent L (by simpa[Blk.simple]using hs) h2⟩
 | buf el t xs ov=>
  obtain⟨raw,h1,h2⟩:=h;refine⟨raw,by rw[<- he.1.handle];exact h1,λi y hy=>?_⟩;have g:=h2 i y hy;cases ho:ov.lookup i with
  | none=>rw[ho]at g;exact g
  | some a=>
   rw[ho]at g;obtain⟨g1,u,g2,g4,g3⟩:=g;exact⟨g1,u,g2,g4,AV.rel_ent L (λq=>NF (by simpa[Blk.simple]using hs q) ho) g3⟩
 | mat el eli t xss ov=>
  cases s with
  | false=>exact absurd (hs rfl) (by simp[Blk.simple])
  | true=>
   obtain⟨h0,raw,h1,h2⟩:=h;refine⟨h0,raw,by rw[<- he.1.handle];exact h1,λi row hi=>?_⟩;obtain⟨u,g1,g2⟩:=h2 i row hi;refine⟨u,g1,?_⟩;cases ho:ov.lookup i with
   | some a=>
    rw[ho]at g2;exact⟨g2.1,AV.rel_ent L (λq=>by cases q) g2.2⟩
   | none=>
    rw[ho]at g2;obtain⟨ao,cap,r2,q1,q0,q2⟩:=g2;exact⟨ao,cap,r2,q1,q0,λhp=>by rw[<- he.2 rfl];exact q2 hp⟩
mutual
def jH: AV->AV
 | .buf _ _=>.top
 | .view _ _=>.top
 | .ptr _ _ _ _=>.top
 | .row _ _ _ _=>.top
 | .rptr _ _ _ _ _=>.top
 | .slv _=>.top
 | .agg cs=>.agg (rE cs)
 | .tup cs=>.tup (rE cs)
 | .fn f cs=>.fn f (rE cs)
 | .ipv a=>.ipv (jH a)
 | .ips cs=>.ips (rE cs)
 | .ifc t a=>.ifc t (jH a)
 | .grd g a=>.grd g (jH a)
 | .sel i cs=>.sel i (rE cs)
 | .pin u a=>.pin u (jH a)
 | a=>a
def rE: List AV->List AV
 | []=>[]
 | a::as=>jH a::rE as
end
mutual
theorem AV.rel_forg {P:Program} {C:Ctx}:∀{a:AV} {v:Value},a.rel P C v->(jH a).rel P C v
 | .top,_,h=>h
 | .dat _ _,_,h=>h
 | .agg cs,_,h=>by obtain⟨us,h1,h2⟩:=h;exact⟨us,h1,AV.relL_forg h2⟩
 | .tup cs,_,h=>by obtain⟨us,h1,h2⟩:=h;exact⟨us,h1,AV.relL_forg h2⟩
 | .val _,_,h=>h
 | .buf _ _,_,_=>trivial
 | .view _ _,_,_=>trivial
 | .ptr _ _ _ _,_,_=>trivial
 | .row _ _ _ _,_,_=>trivial
 | .rptr _ _ _ _ _,_,_=>trivial
 | .slv _,_,_=>trivial
 | .ip _ _,_,h=>h
 | .fn f caps,_,h=>by obtain⟨us,h1,h2⟩:=h;exact⟨us,h1,AV.relL_forg h2⟩
 | .clo1 _ _ _ _,_,h=>h
 | .clo2 _ _ _ _ _,_,h=>h
 | .ifc t a,_,h=>by obtain⟨u,h1,h2⟩:=h;exact⟨u,h1,AV.rel_forg h2⟩
 | .grd g a,_,h=>⟨λhg=>AV.rel_forg (h.1 hg),h.2⟩
 | .ipv a,_,h=>by obtain⟨b,off,u,h1,h2,h3,h5⟩:=h;exact⟨b,off,u,h1,h2,h3,AV.rel_forg h5⟩
 | .ips cs,_,h=>by obtain⟨b,off,us,h1,h2,h3,h5⟩:=h;exact⟨b,off,us,h1,h2,h3,AV.relL_forg h5⟩
 | .ia _ _,_,h=>h
 | .yld _,_,h=>h
 | .av _ _,_,h=>h
 | .sel i cs,_,h=>by obtain⟨us,h1,h2⟩:=h;exact⟨us,AV.relL_forg h1,h2⟩
 | .pin u a,_,h=>⟨h.1,AV.rel_forg h.2⟩
theorem AV.relL_forg {P:Program} {C:Ctx}:∀{as:List AV} {us:Lv},AV.relL P C as us->AV.relL P C (rE as) us
 | [],_,h=>h
 | a::as,_,h=>by
  obtain⟨u,us',h1,h2,h3⟩:=h;exact⟨u,us',h1,AV.rel_forg h2,AV.relL_forg h3⟩
end
mutual
theorem fk: ∀(a:AV),(jH a).names=[]
 | .top | .dat _ _ | .val _ | .buf _ _ | .view _ _ | .ptr _ _ _ _ | .row _ _ _ _ | .rptr _ _ _ _ _ | .ip _ _ | .clo1 _ _ _ _ | .clo2 _ _ _ _ _ | .ia _ _ | .yld _ | .av _ _ | .slv _=>rfl
 | .agg cs=>by simp only[jH,AV.names,dM]
 | .tup cs=>by simp only[jH,AV.names,dM]
 | .fn _ cs=>by simp only[jH,AV.names,dM]
 | .ifc _ a=>by simp only[jH,AV.names,fk]
 | .grd _ a=>by simp only[jH,AV.names,fk]
 | .ipv a=>by simp only[jH,AV.names,fk]
 | .ips cs=>by simp only[jH,AV.names,dM]
 | .sel _ cs=>by simp only[jH,AV.names,dM]
 | .pin _ a=>by simp only[jH,AV.names,fk]
theorem dM: ∀(as:List AV),AV.namesL (rE as)=[]
 | []=>rfl
 | a::as=>by simp only[rE,AV.namesL,fk,dM,wH]
end
mutual
def YD(nx:Nat): AV->AV
 | .buf _ n=>.buf nx n
 | .view _ n=>.view nx n
 | .ptr _ g i c=>.ptr nx g i c
 | .agg cs=>.agg (YC nx cs)
 | .tup cs=>.tup (YC nx cs)
 | .fn f cs=>.fn f (YC nx cs)
 | .ifc t a=>.ifc t (YD nx a)
 | .grd g a=>.grd g (YD nx a)
 | .ipv a=>.ipv (YD nx a)
 | .ips cs=>.ips (YC nx cs)
 | .slv _=>.top
 | .sel i cs=>.sel i (YC nx cs)
 | .row _ g i k=>.row nx g i k
 | .rptr _ g i k j=>.rptr nx g i k j
 | .pin u a=>.pin u (YD nx a)
 | a=>a
def YC(nx:Nat): List AV->List AV
 | []=>[]
 | a::as=>YD nx a::YC nx as
end
mutual
theorem AV.rel_ren {P:Program} {w:World} {D:Nat->Prop} {m m':Nat->Option Blk} {E E':Nat->Ent} {k nx:Nat} (hm:m' nx=m k) (hE:E' nx=E k):∀{a:AV} {v:Value},(∀x∈a.names,x=k)->a.rel P ⟨w,D,m,E⟩ v->(YD nx a).rel P ⟨w,D,m',E'⟩ v
 | .top,_,_,_=>trivial
 | .slv _,_,_,_=>trivial
 | .dat _ _,_,_,h=>h
 | .agg cs,_,hn,h=>by obtain⟨us,h1,h2⟩:=h;exact⟨us,h1,AV.relL_ren hm hE (by simpa[AV.names]using hn) h2⟩
 | .tup cs,_,hn,h=>by obtain⟨us,h1,h2⟩:=h;exact⟨us,h1,AV.relL_ren hm hE (by simpa[AV.names]using hn) h2⟩
 | .val _,_,_,h=>h
 | .buf nm n,v,hn,h=>λb hb=>by
  have e:=hn nm (by simp[AV.names]);subst e;have hb':m nm=some b:=hm.symm.trans hb;obtain⟨g1,g2⟩:=h b hb';refine⟨g1,λe=>?_⟩;show v=(E' nx).handle n;rw[hE];exact g2 e
 | .view nm n,v,hn,h=>λb hb=>by
  have e:=hn nm (by simp[AV.names]);subst e;have hb':m nm=some b:=hm.symm.trans hb;obtain⟨g1,g2⟩:=h b hb';refine⟨g1,λe=>?_⟩;show(E' nx).isNil=false/\∃c,n<=c/\v=.slice (some ⟨(E' nx).b,0,none⟩) n c;rw[hE];exact g2 e
 | .ptr nm g i c,v,hn,h=>λb hb=>by
  have e:=hn nm (by simp[AV.names]);subst e;have hb':m nm=some b:=hm.symm.trans hb;obtain⟨g1,g2⟩:=h b hb';refine⟨g1,λe=>?_⟩;show i<g/\(E' nx).isNil=false/\v=.pointer (some ⟨(E' nx).b,i*b.es+c,none⟩);rw[hE];exact g2 e
 | .ip t x,_,_,h=>h
 | .fn f caps,_,hn,h=>by obtain⟨us,h1,h2⟩:=h;exact⟨us,h1,AV.relL_ren hm hE (by simpa[AV.names]using hn) h2⟩
 | .clo1 a r pre g,_,_,h=>h
 | .clo2 a b r pre g,_,_,h=>h
 | .ifc t a,_,hn,h=>by obtain⟨u,h1,h2⟩:=h;exact⟨u,h1,AV.rel_ren hm hE (by simpa[AV.names]using hn) h2⟩
 | .grd g a,_,hn,h=>⟨λhg=>AV.rel_ren hm hE (by simpa[AV.names]using hn) (h.1 hg),h.2⟩
 | .ipv a,_,hn,h=>by
  obtain⟨b,off,u,h1,h2,h3,h5⟩:=h;exact⟨b,off,u,h1,h2,h3,AV.rel_ren hm hE (by simpa[AV.names]using hn) h5⟩
 | .ips cs,_,hn,h=>by
  obtain⟨b,off,us,h1,h2,h3,h5⟩:=h;exact⟨b,off,us,h1,h2,h3,AV.relL_ren hm hE (by simpa[AV.names]using hn) h5⟩
 | .ia t xs,_,_,h=>h
 | .yld _,_,_,h=>h
 | .av _ _,_,_,h=>h
 | .sel i cs,_,hn,h=>by
  obtain⟨us,h1,h2⟩:=h;exact⟨us,AV.relL_ren hm hE (by simpa[AV.names]using hn) h1,h2⟩
 | .row nm g i kk,v,hn,h=>λb hb=>by
  have e:=hn nm (by simp[AV.names]);subst e;have:=h b (hm.symm.trans hb);refine⟨this.1,λe=>?_⟩;show ∃ao cap,v=.slice ao kk cap/\(0<kk->ao=some ⟨((E' nx).rb i).1,0,none⟩);rw[hE];exact this.2 e
 | .rptr nm g i kk j,v,hn,h=>λb hb=>by
  have e:=hn nm (by simp[AV.names]);subst e;have:=h b (hm.symm.trans hb);refine⟨this.1,λe=>?_⟩;show j<kk/\v=.pointer (some ⟨((E' nx).rb i).1,j,none⟩);rw[hE];exact this.2 e
 | .pin u a,_,hn,h=>⟨h.1,AV.rel_ren hm hE (by simpa[AV.names]using hn) h.2⟩
theorem AV.relL_ren {P:Program} {w:World} {D:Nat->Prop} {m m':Nat->Option Blk} {E E':Nat->Ent} {k nx:Nat} (hm:m' nx=m k) (hE:E' nx=E k):∀{as:List AV} {us:Lv},(∀x∈AV.namesL as,x=k)->AV.relL P ⟨w,D,m,E⟩ as us->AV.relL P ⟨w,D,m',E'⟩ (YC nx as) us
 | [],_,_,h=>h
 | a::as,_,hn,h=>by
  obtain⟨u,us',h1,h2,h3⟩:=h;simp only[AV.namesL,qH]at hn;exact⟨u,us',h1,AV.rel_ren hm hE (λx hx=>hn x (.inl hx)) h2,AV.relL_ren hm hE (λx hx=>hn x (.inr hx)) h3⟩
end
end Go.Eng
namespace Go.Eng
open Go.RowKit
structure Core where
 need:List Prop:=[]
 val:AV
 upd:List (Nat×Blk):=[]
 new:Option Nat:=none
def Bv: Value->AV
 | .int k n=>.dat (.int k) n
 | .bool b=>.dat .bool b
 | .string s=>.dat .str s
 | v=>.val v
theorem Bt{P:Program}{C:Ctx}(v:Value): (Bv v).rel P C v:=by
 cases v<;>simp[Bv,AV.rel,ah]
def inR: IntKind->Int->Prop
 | .i8,n=>-128<=n/\n<=127
 | .i16,n=>-32768<=n/\n<=32767
 | .i32,n=>-2147483648<=n/\n<=2147483647
 | .i64,n=>-9223372036854775808<=n/\n<=9223372036854775807
 | .u8,n=>0<=n/\n<=255
 | .u16,n=>0<=n/\n<=65535
 | .u32,n=>0<=n/\n<=4294967295
 | .u64,n=>0<=n/\n<=18446744073709551615
theorem jQ{k:IntKind}{n:Int}(h:inR k n): k.wrap n=n:=by
 cases k
 .exact IntWalk.i8_in n h
 .exact IntWalk.i16_in n h
 .exact IntWalk.i32_in n h
 .exact IntWalk.i64_in n h
 .exact IntWalk.u8_in n h
 .exact IntWalk.u16_in n h
 .exact IntWalk.u32_in n h
 .exact IntWalk.u64_in n h
def aEH(op:BinOp)(k:IntKind)(x y:Int): Option Core:=
 match op with
 | .add=>some {need:=[inR k (x+y)],val:=.dat (.int k) (x+y)}
 | .sub=>some {need:=[inR k (x-y)],val:=.dat (.int k) (x-y)}
 | .mul=>some {need:=[inR k (x*y)],val:=.dat (.int k) (x*y)}
 | .quo=>some {need:=[y≠0,inR k (x.tdiv y)],val:=.dat (.int k) (x.tdiv y)}
 | .rem=>some {need:=[y≠0],val:=.dat (.int k) (x.tmod y)}
 | .eql=>some {val:=.dat .bool (Ea x y)}
 | .neq=>some {val:=.dat .bool (Ec x y)}
 | .lss=>some {val:=.dat .bool (Dp x y)}
 | .leq=>some {val:=.dat .bool (Eh x y)}
 | .gtr=>some {val:=.dat .bool (Ei x y)}
 | .geq=>some {val:=.dat .bool (Ed x y)}
 | _=>none
def aEl(op:BinOp)(x y:ByteArray): Option Core:=
 match op with
 | .eql=>some {val:=.dat .bool (Fv x y)}
 | .neq=>some {val:=.dat .bool (!(Fv x y))}
 | .lss=>some {val:=.dat .bool (Gm x y)}
 | .leq=>some {val:=.dat .bool (Gm x y||Fv x y)}
 | .gtr=>some {val:=.dat .bool (!(Gm x y||Fv x y))}
 | .geq=>some {val:=.dat .bool (!Gm x y)}
 | .add=>some {need:=[((x.size+y.size:Nat):Int)<=9223372036854775807],val:=.dat .str (x++y)}
 | _=>none
def Ol(P:Program)(t:TypeId): Bool:=match P.underlying t with | some .bool=>true | _=>false
def shE(op:BinOp)(k:IntKind)(x y:Int): Option Core:=
 match op with
 | .shr=>some {need:=[0<=y,Dc y<=k.bits],val:=.dat (.int k) (Gi x y)}
 | .shl=>some {need:=[0<=y,Dc y<=k.bits,inR k (Gn x y)],val:=.dat (.int k) (Gn x y)}
 | _=>none
def aEQ(P:Program)(op:BinOp)(xT:TypeId): AV->AV->Option Core
 | .dat (.int k) x,.dat (.int k') y=>match shE op k x y with
  | some c=>some c
  | none=>if k=k' then aEH op k x y else none
 | .dat .str x,.dat .str y=>aEl op x y
 | .dat .bool x,.dat .bool y=>if Ol P xT then match op with
  | .eql=>some {val:=.dat .bool (Ey x y)}
  | .neq=>some {val:=.dat .bool (!(Ey x y))}
  | _=>none else none
 | _,_=>none
theorem jO{k:IntKind}{x y:Int}{t:TypeId}: binOp .add t (.int k x) (.int k y)=Op.intArith .add k x y/\binOp .sub t (.int k x) (.int k y)=Op.intArith .sub k x y/\binOp .mul t (.int k x) (.int k y)=Op.intArith .mul k x y:=
 ⟨if_neg (λh=>h rfl),if_neg (λh=>h rfl),if_neg (λh=>h rfl)⟩
theorem PD{k:IntKind}{x y:Int}{t:TypeId}: binOp .quo t (.int k x) (.int k y)=Op.intDiv .quo k x y/\binOp .rem t (.int k x) (.int k y)=Op.intDiv .rem k x y:=
 ⟨if_neg (λh=>h rfl),if_neg (λh=>h rfl)⟩
theorem Ab{k:IntKind}{x y:Int}{t:TypeId}: binOp .eql t (.int k x) (.int k y)=Op.intCmp .eql x y/\binOp .neq t (.int k x) (.int k y)=Op.intCmp .neq x y/\binOp .lss t (.int k x) (.int k y)=Op.intCmp .lss x y:=
 ⟨if_neg (λh=>h rfl),if_neg (λh=>h rfl),if_neg (λh=>h rfl)⟩
theorem Aa{k:IntKind}{x y:Int}{t:TypeId}: binOp .leq t (.int k x) (.int k y)=Op.intCmp .leq x y/\binOp .gtr t (.int k x) (.int k y)=Op.intCmp .gtr x y/\binOp .geq t (.int k x) (.int k y)=Op.intCmp .geq x y:=
 ⟨if_neg (λh=>h rfl),if_neg (λh=>h rfl),if_neg (λh=>h rfl)⟩
theorem Ta{P:Program}{C:Ctx}{w:World}{op:BinOp}{k:IntKind}{x y:Int}{t:TypeId}{c:Core}(h:aEH op k x y=some c)(hn:∀p∈c.need,p):
  ∃v,(binOp op t (.int k x) (.int k y)).run P w=.ok v w/\c.val.rel P C v/\c.upd=[]:=by
 have R:∀n,(AV.dat (.int k) n).rel P C (.int k n):=λn=>rfl
 have B:∀b,(AV.dat .bool b).rel P C (.bool b):=λb=>rfl
 unfold aEH at h;cases op<;>simp only[reduceCtorEq]at h<;>cases h
 case add=>
  have h1:inR k (x+y):=hn _ (by simp);exact⟨.int k (x+y),by(rw[jO.1];simp only[Op.intArith,jQ h1];rfl),R _,rfl⟩
 case sub=>
  have h1:inR k (x-y):=hn _ (by simp);exact⟨.int k (x-y),by(rw[jO.2.1];simp only[Op.intArith,jQ h1];rfl),R _,rfl⟩
 case mul=>
  have h1:inR k (x*y):=hn _ (by simp);exact⟨.int k (x*y),by(rw[jO.2.2];simp only[Op.intArith,jQ h1];rfl),R _,rfl⟩
 case quo=>
  have h1:y≠0:=hn _ (by simp);have h2:inR k (x.tdiv y):=hn _ (by simp);exact⟨.int k (x.tdiv y),by(rw[PD.1];simp only[Op.intDiv,if_neg h1,jQ h2];rfl),R _,rfl⟩
 case rem=>
  have h1:y≠0:=hn _ (by simp);exact⟨.int k (x.tmod y),by(rw[PD.2];simp only[Op.intDiv,if_neg h1];rfl),R _,rfl⟩
 case eql=>exact⟨.bool (x==y),by(rw[Ab.1];rfl),B _,rfl⟩
 case neq=>exact⟨.bool (x != y),by(rw[Ab.2.1];rfl),B _,rfl⟩
 case lss=>exact⟨.bool (decide (x<y)),by(rw[Ab.2.2];rfl),B _,rfl⟩
 case leq=>exact⟨.bool (decide (x<=y)),by(rw[Aa.1];rfl),B _,rfl⟩
 case gtr=>exact⟨.bool (decide (x>y)),by(rw[Aa.2.1];rfl),B _,rfl⟩
 case geq=>exact⟨.bool (decide (x≥y)),by(rw[Aa.2.2];rfl),B _,rfl⟩
theorem Yy{P:Program}{C:Ctx}{w:World}{op:BinOp}{k k':IntKind}{x y:Int}{t:TypeId}{c:Core}(h:shE op k x y=some c)(hn:∀p∈c.need,p):
  ∃v,(binOp op t (.int k x) (.int k' y)).run P w=.ok v w/\c.val.rel P C v/\c.upd=[]:=by
 unfold shE at h;split at h
 .cases h;have h1:0<=y:=hn _ (by simp);have h2:y.toNat<=k.bits:=hn _ (by simp);refine⟨.int k (x.fdiv (2 ^ y.toNat)),?_,rfl,rfl⟩;show(Op.shift .shr k x k' y).run P w=_;simp only[Op.shift,if_neg (show ¬y<0 by omega),yY h2];rfl
 .cases h;have h1:0<=y:=hn _ (by simp);have h2:y.toNat<=k.bits:=hn _ (by simp);have h3:inR k (x*2 ^ y.toNat):=hn _ (by simp);refine⟨.int k (x*2 ^ y.toNat),?_,rfl,rfl⟩;show(Op.shift .shl k x k' y).run P w=_;simp only[Op.shift,if_neg (show ¬y<0 by omega),yY h2,jQ h3];rfl
 .cases h
theorem S9{P:Program}{C:Ctx}{w:World}{op:BinOp}{x y:ByteArray}{t:TypeId}{c:Core}(h:aEl op x y=some c)(hn:∀p∈c.need,p):
  ∃v,(binOp op t (.string x) (.string y)).run P w=.ok v w/\c.val.rel P C v/\c.upd=[]:=by
 have B:∀b,(AV.dat .bool b).rel P C (.bool b):=λb=>rfl
 unfold aEl at h;cases op<;>simp only[reduceCtorEq]at h<;>cases h
 case add=>
  have h1:((x.size+y.size:Nat):Int)<=9223372036854775807:=hn _ (by simp);have h2:¬((x.size+y.size:Nat):Int)>IntKind.i64.max:=by
   have:IntKind.i64.max=9223372036854775807:=by decide
   omega
  exact⟨.string (x++y),by(show(Op.stringOp .add x y).run P w=_;simp only[Op.stringOp,if_neg h2];rfl),rfl,rfl⟩
 all_goals exact⟨_,rfl,B _,rfl⟩
theorem dG{P:Program}{w:World}(op:BinOp)(t:TypeId)(x y:Operand)(k k':IntKind)(a b:Int): (eqGuard op t x y (.int k a) (.int k' b)).run P w=.ok () w:=by
 unfold eqGuard;cases op<;>simp
theorem sA{P:Program}{w:World}(op:BinOp)(t:TypeId)(x y:Operand)(a b:ByteArray): (eqGuard op t x y (.string a) (.string b)).run P w=.ok () w:=by
 unfold eqGuard;cases op<;>simp
theorem kO{P:Program}{w:World}(op:BinOp)(t:TypeId)(x y:Operand)(a b:Bool): (eqGuard op t x y (.bool a) (.bool b)).run P w=.ok () w:=by
 unfold eqGuard;cases op<;>simp
theorem run_equalIn_bool{P:Program}{w:World}{t:TypeId}(d:Nat)(hu:P.underlying t=some .bool)(a b:Bool): (Op.equalIn (d+1) t (.bool a) (.bool b)).run P w=.ok (a==b) w:=by
 simp[Op.equalIn,vF hu]
theorem run_equal_bool{P:Program}{w:World}{t:TypeId}(hu:P.underlying t=some .bool)(a b:Bool): (Op.equal t (.bool a) (.bool b)).run P w=.ok (a==b) w:=
 run_equalIn_bool 9999 hu a b
theorem run_eql_bool{P:Program}{w:World}{t:TypeId}(hu:P.underlying t=some .bool)(a b:Bool): (binOp .eql t (.bool a) (.bool b)).run P w=.ok (.bool (a==b)) w:=by
 show(do pure (Value.bool (<- Op.equal t (.bool a) (.bool b))):Sem Value).run P w=_;rw[wB,run_equal_bool hu];rfl
theorem run_neq_bool{P:Program}{w:World}{t:TypeId}(hu:P.underlying t=some .bool)(a b:Bool): (binOp .neq t (.bool a) (.bool b)).run P w=.ok (.bool (!(a==b))) w:=by
 show(do pure (Value.bool (!(<- Op.equal t (.bool a) (.bool b)))):Sem Value).run P w=_;rw[wB,run_equal_bool hu];rfl
theorem Tc{P:Program}{C:Ctx}{w:World}{op:BinOp}{t:TypeId}{x y:Operand}{a b:AV}{u v:Value}{c:Core}(h:aEQ P op t a b=some c)(hn:∀p∈c.need,p)
  (ha:a.rel P C u) (hb:b.rel P C v):
  ∃r,(do eqGuard op t x y u v;binOp op t u v).run P w=.ok r w/\c.val.rel P C r/\c.upd=[]:=by
 unfold aEQ at h;split at h
 .split at h
  .rename_i hsh;cases h;simp only[AV.rel,ah,qR,vP]at ha hb;subst ha hb;rename_i k xv k' yv _;obtain⟨r,h1,h2⟩:=Yy (C:=C) (w:=w) (P:=P) (k':=k') (t:=t) hsh hn;exact⟨r,by simp[dG,h1],h2⟩
  split at h
  .rename_i hk;subst hk;simp only[AV.rel,ah,qR,vP]at ha hb;subst ha hb;obtain⟨r,h1,h2⟩:=Ta (C:=C) (w:=w) (P:=P) (t:=t) h hn;exact⟨r,by simp[dG,h1],h2⟩
  .cases h
 .simp only[AV.rel,ah,qR,vP]at ha hb;subst ha hb;obtain⟨r,h1,h2⟩:=S9 (C:=C) (w:=w) (P:=P) (t:=t) h hn;exact⟨r,by simp[sA,h1],h2⟩
 .split at h
  .rename_i hT;simp only[AV.rel,ah,qR,vP]at ha hb;subst ha hb;have hu:P.underlying t=some .bool:=by
    unfold Ol at hT;split at hT
    .assumption
    .cases hT
   split at h
   .cases h;exact⟨.bool (_==_),by rw[wB,kO,vS,run_eql_bool hu],rfl,rfl⟩
   .cases h;exact⟨.bool (!(_==_)),by rw[wB,kO,vS,run_neq_bool hu],rfl,rfl⟩
   .cases h
  .cases h
 .cases h
def unE(op:UnOp): AV->Option Core
 | .dat .bool b=>match op with | .not=>some {val:=.dat .bool (!b)} | _=>none
 | .dat (.int k) n=>match op with | .neg=>some {need:=[inR k (-n)],val:=.dat (.int k) (-n)} | _=>none
 | _=>none
theorem Yx{P:Program}{C:Ctx}{w:World}{op:UnOp}{a:AV}{u:Value}{c:Core}(h:unE op a=some c)(hn:∀p∈c.need,p)(ha:a.rel P C u):
  ∃r,(Op.unary op u).run P w=.ok r w/\c.val.rel P C r/\c.upd=[]:=by
 unfold unE at h;split at h
 .simp only[AV.rel,ah,qR,vP]at ha;subst ha;split at h
  .cases h;exact⟨.bool _,rfl,rfl,rfl⟩
  .cases h
 .simp only[AV.rel,ah,qR,vP]at ha;subst ha;split at h
  .rename_i k n _;cases h;have h1:inR k (-n):=hn _ (by simp);exact⟨.int k (-n),by(show(Op.intArith .sub k 0 n).run P w=_;simp only[Op.intArith,Int.zero_sub,jQ h1];rfl),rfl,rfl⟩
  .cases h
 .cases h
def Zj(P:Program)(src dst:TypeId): AV->Option Core
 | .dat (.int _) n=>match P.underlying src,P.underlying dst with
  | some _,some (.int k)=>some {need:=[inR k n],val:=.dat (.int k) n}
  | _,_=>none
 | _=>none
theorem Nc{P:Program}{C:Ctx}{w:World}{src dst:TypeId}{a:AV}{u:Value}{c:Core}(h:Zj P src dst a=some c)(hn:∀p∈c.need,p)(ha:a.rel P C u):
  ∃r,(convert src dst u).run P w=.ok r w/\c.val.rel P C r/\c.upd=[]:=by
 unfold Zj at h;split at h
 .simp only[AV.rel,ah,qR,vP]at ha;subst ha;split at h
  .rename_i n _ _ d k hs hd;cases h;have h1:inR k n:=hn _ (by simp);refine⟨.int k n,?_,rfl,rfl⟩;cases d<;>simp[convert,vF hs,vF hd,Conv.intToInt,jQ h1]
  .cases h
 .cases h
def rJ(isMax:Bool)(k:IntKind): Int->List AV->Option Int
 | x,[]=>some x
 | x,a::r=>match a with
  | .dat (.int k') y=>if k=k' then rJ isMax k (if isMax then Ez x y else Eu x y) r else none
  | _=>none
theorem x6{P:Program}{C:Ctx}{w:World}(isMax:Bool)(k:IntKind): ∀(vs:List AV) (us:Lv) (x y:Int),rJ isMax k x vs=some y->AV.relL P C vs us->
  (us.foldlM (if isMax then Builtin.max2 else Builtin.min2) (.int k x)).run P w=.ok (.int k y) w
 | [],us,x,y,h,hv=>by
  simp only[rJ]at h;cases h;simp only[AV.relL]at hv;subst hv;rfl
 | a::vs,us,x,y,h,hv=>by
  simp only[rJ]at h;split at h
  .rename_i k' z;split at h
   .rename_i hk;subst hk;obtain⟨u,us',e,g1,g2⟩:=hv;simp only[AV.rel,ah,qR,vP]at g1;subst e g1;have ih:=x6 (w:=w) isMax k vs us' _ y h g2;cases isMax
    .have:(if(z:Int)<x then(z:Int)else x)=min x z:=(λ(a b:Int)=>(by omega:(if b<a then b else a)=min a b)) x z;simp only[List.foldlM_cons,wB,vT,yQ,Builtin.min2,zU,vS]at ih ⊢;rw[this];exact ih
    .have:(if(z:Int)>x then(z:Int)else x)=max x z:=(λ(a b:Int)=>(by omega:(if b>a then b else a)=max a b)) x z;simp only[List.foldlM_cons,wB,xU,Builtin.max2,zU,vS]at ih ⊢;rw[this];exact ih
   .cases h
  .cases h
end Go.Eng
namespace Go.Eng
open Go.RowKit
abbrev RV:=AV×Option Blk
def ct(m:Nat->Option Blk): AV->Option Blk
 | .buf nm _=>m nm
 | .view nm _=>m nm
 | .ptr nm _ _ _=>m nm
 | .row nm _ _ _=>m nm
 | .rptr nm _ _ _ _=>m nm
 | _=>none
def fM(P:Program)(t:TypeId): Option Bool:=match P.underlying t with
 | some (.struct _)=>some true
 | some (.array _ _)=>some true
 | some _=>some false
 | none=>none
def sizeT(P:Program)(t:TypeId): Option Nat:=(P.info? t).map (·.size)
theorem jB{P:Program}{t:TypeId}{b:Bool}(h:fM P t=some b)(w:World): (isAgg t).run P w=.ok b w:=by
 unfold fM at h;unfold isAgg;cases hu:P.underlying t with
 | none=>rw[hu]at h;cases h
 | some d=>
  rw[hu]at h;rw[wB,vF hu w];cases d<;>simp_all
theorem bA{P:Program}{t:TypeId}{n:Nat}(h:sizeT P t=some n)(w:World): (sizeOf t).run P w=.ok n w:=by
 unfold sizeT at h;cases hi:P.info? t with
 | none=>rw[hi]at h;cases h
 | some i=>
  rw[hi]at h;cases h;simp[sizeOf,typeInfo,hi]
def behind: AV->Option Blk->Option (List Prop×List AV)
 | .ip t x,_=>some ([],cellsOf t x)
 | .ipv x,_=>some ([],[x])
 | .ips cs,_=>some ([],cs)
 | .ptr _ g i c,some (.var cs)=>some ([1=g,i=0],cs.drop c)
 | .ptr _ g i c,some (.buf _ t xs [])=>some ([xs.length=g],(cellsOf t (Du xs i t.dflt)).drop c)
 | .ptr _ g i 0,some (.buf _ t xs ((j,v)::_))=>if t.sz=1 then some ([xs.length=g,i=j],[v])else none
 | _,_=>none
theorem wN{S:Base}{σ:Sig}{a:Act}{w:World}{D:Nat->Prop}{E:Nat->Ent}(h:aH S σ a w D E){p:AV}{b:Option Blk}{ns:List Prop}{cs:List AV}{v:Value}
  (hb:b=ct σ.m p) (hc:behind p b=some (ns,cs)) (hn:∀q∈ns,q) (hp:p.rel S.P ⟨w,D,σ.m,E⟩ v):
  ∃bl off us,v=.pointer (some ⟨bl,off,none⟩)/\cJ w bl off us/\AV.relL S.P ⟨w,D,σ.m,E⟩ cs us:=by
 unfold behind at hc;split at hc
 .cases hc;obtain⟨bl,off,us,h1,h2,h3,h4⟩:=hp;exact⟨bl,off,us,h1,h3,b7 h4⟩
 .cases hc;obtain⟨bl,off,u,h1,h2,h3,h4⟩:=hp;exact⟨bl,off,[u],h1,λj q hj=>by
   cases j with
   | zero=>simp at hj;subst hj;exact h3
   | succ j=>simp at hj,u,[],rfl,h4,rfl⟩
 .cases hc;obtain⟨bl,off,us,h1,h2,h3,h4⟩:=hp;exact⟨bl,off,us,h1,h3,h4⟩
 .rename_i nm g i c cs;cases hc;have hm:σ.m nm=some (.var cs):=hb.symm;obtain⟨g1,g2⟩:=hp _ hm;have e1:1=g:=hn _ (by simp);have e2:i=0:=hn _ (by simp);obtain⟨g3,g4,g5⟩:=g2 e1;obtain⟨_,us,el,h1,h2⟩:=h.bl nm _ hm;subst e2;have hl:=AV.relL_length h2;refine⟨(E nm).b,c,us.toList.drop c,by simpa using g5,?_,?_⟩
  .intro j u hj;rw[qY]at hj;have hh:w.heap[(E nm).b]?=some (.cells us el (0,0)):=h1;rw[qDq w _ _ us el (0,0) hh];simpa using hj
  .have e:cs=cs.take c++cs.drop c:=(xA c cs).symm;rw[e]at h2;obtain⟨u1,u2,e1,r1,r2⟩:=AV.relL_split h2;have hl1:=AV.relL_length r1;by_cases hlt:c<=cs.length
   .have:u1.length=c:=by rw[<- hl1,qI];omega
    have e3:us.toList.drop c=u2:=by rw[e1,<- this,qBr]
    rw[e3];exact r2
   .have e3:cs.drop c=[]:=zN (by omega);have e4:us.toList.drop c=[]:=zN (by omega);rw[e3,e4];rfl
 .rename_i nm g i c el t xs;cases hc;have hm:σ.m nm=some (.buf el t xs []):=hb.symm;obtain⟨g1,g2⟩:=hp _ hm;have e1:xs.length=g:=hn _ (by simp);obtain⟨g3,g4,g5⟩:=g2 e1;obtain⟨raw,h1,h2⟩:=h.bl nm _ hm;have hi:i<xs.length:=by omega
  have hx:xs[i]?=some (xs.getD i t.dflt):=by rw[qA,qB hi];rfl
  have hr:=h2 i _ hx;simp only[List.lookup]at hr;have hus:=b7 (P:=S.P) (C:=⟨w,D,σ.m,E⟩) hr;have hl:=AV.relL_length hus;have hhd:(E nm).handle xs.length=.slice (some ⟨(E nm).b,0,none⟩) xs.length (E nm).cap:=by unfold Ent.handle;rw[g4];rfl
  rw[hhd]at h1;have hsz:(raw.drop (i*t.sz)).take t.sz=(raw.drop (i*t.sz)).take t.sz:=rfl;have hrl:=h1.1;have hmul:i*t.sz+t.sz<=xs.length*t.sz:=by
   have:=vU t.sz (show i+1<=xs.length from hi);rw[zG,zT]at this;exact this
  refine⟨(E nm).b,i*t.sz+c,((raw.drop (i*t.sz)).take t.sz).drop c,g5,?_,?_⟩
  .intro j u hj;rw[qY,vM]at hj;split at hj
   .rename_i hlt;rw[qY]at hj;show w.cell? ⟨(E nm).b,i*t.sz+c+j,none⟩=some u;have hlt2:i*t.sz+c+j<xs.length*t.sz:=by omega
    rw[h1.cellAt (i*t.sz+c+j) hlt2,<- hj,kZ]
   .cases hj
  .have e:cellsOf t (xs.getD i t.dflt)=(cellsOf t (xs.getD i t.dflt)).take c++(cellsOf t (xs.getD i t.dflt)).drop c:=(xA c _).symm;rw[e]at hus;obtain⟨u1,u2,e1,r1,r2⟩:=AV.relL_split hus;have hl1:=AV.relL_length r1;by_cases hlt:c<=(cellsOf t (xs.getD i t.dflt)).length
   .have:u1.length=c:=by rw[<- hl1,qI];omega
    have e3:((raw.drop (i*t.sz)).take t.sz).drop c=u2:=by rw[e1,<- this,qBr]
    rw[e3];exact r2
   .have e3:(cellsOf t (xs.getD i t.dflt)).drop c=[]:=zN (by omega);have e4:((raw.drop (i*t.sz)).take t.sz).drop c=[]:=zN (by omega);rw[e3,e4];rfl
 .rename_i nm g i el t xs j av rest;split at hc
  .rename_i ht;cases hc;have hm:σ.m nm=some (.buf el t xs ((j,av)::rest)):=hb.symm;obtain⟨g1,g2⟩:=hp _ hm;have e1:xs.length=g:=hn _ (by simp);have e2:i=j:=hn _ (by simp);obtain⟨g3,g4,g5⟩:=g2 e1;obtain⟨raw,h1,h2⟩:=h.bl nm _ hm;have hi:i<xs.length:=by omega
   have hx:xs[i]?=some (xs.getD i t.dflt):=by rw[qA,qB hi];rfl
   have hr:=h2 i _ hx;subst e2;simp only[List.lookup,yH]at hr;obtain⟨_,u,hu,_,hru⟩:=hr;have hhd:(E nm).handle xs.length=.slice (some ⟨(E nm).b,0,none⟩) xs.length (E nm).cap:=by unfold Ent.handle;rw[g4];rfl
   rw[hhd]at h1;refine⟨(E nm).b,i*t.sz+0,[u],g5,?_,⟨u,[],rfl,hru,rfl⟩⟩;intro k q hk;cases k with
   | zero=>
    simp at hk;subst hk;show w.cell? ⟨(E nm).b,i*t.sz+0+0,none⟩=some u;rw[h1.cellAt _ (by rw[ht];omega),<- hu,ht];simp
   | succ k=>simp at hk
  .cases hc
 .cases hc
def T8(P:Program)(t:TypeId)(p:RV): Option Core:=
 match behind p.1 p.2,fM P t,sizeT P t with
 | some (ns,cs),some true,some k=>if k<=cs.length then some {need:=ns,val:=.agg (cs.take k)} else none
 | some (ns,c::_),some false,_=>some {need:=ns,val:=c}
 | _,_,_=>none
theorem HI{S:Base}{σ:Sig}{a:Act}{w:World}{D:Nat->Prop}{E:Nat->Ent}(h:aH S σ a w D E){p:RV}{t:TypeId}{c:Core}{v:Value}
  (hb:p.2=ct σ.m p.1) (hc:T8 S.P t p=some c) (hn:∀q∈c.need,q) (hp:p.1.rel S.P ⟨w,D,σ.m,E⟩ v):
  ∃r,(Instr.loadAt t v).run S.P w=.ok r w/\c.val.rel S.P ⟨w,D,σ.m,E⟩ r/\c.upd=[]/\c.new=none:=by
 unfold T8 at hc;split at hc
 .rename_i ns cs k h1 h2 h3;split at hc
  .rename_i hk;cases hc;obtain⟨bl,off,us,rfl,g1,g2⟩:=wN h hb h1 hn hp;have hl:=AV.relL_length g2;have hcells:cJ w bl off (us.take k):=λj u hj=>by
    rw[vM]at hj;split at hj
    .exact g1 j u hj
    .cases hj
   have hu:∃d,S.P.underlying t=some d/\d.isRow=true:=by
    unfold fM at h2;cases hd:S.P.underlying t with
    | none=>rw[hd]at h2;cases h2
    | some d=>exact⟨d,rfl,by rw[hd]at h2;cases d<;>simp_all⟩
   obtain⟨d,hd1,hd2⟩:=hu;refine⟨.agg (us.take k).toArray,run_loadAt_mid (P:=S.P) w bl off t (us.take k) d hcells hd1 hd2 ?_,?_,rfl,rfl⟩
   .have:(us.take k).length=k:=by rw[qI];omega
    rw[this];exact h3
   .refine⟨us.take k,rfl,?_⟩;have e:cs=cs.take k++cs.drop k:=(xA k cs).symm;rw[e]at g2;obtain⟨u1,u2,e1,r1,r2⟩:=AV.relL_split g2;have hl1:=AV.relL_length r1;have:u1.length=k:=by rw[<- hl1,qI];omega
    have e3:us.take k=u1:=by rw[e1,<- this,List.take_left]
    rw[e3];exact r1
  .cases hc
 .rename_i ns c' cs' h1 h2;cases hc;obtain⟨bl,off,us,rfl,g1,g2⟩:=wN h hb h1 hn hp;obtain⟨u,us',e,r1,r2⟩:=g2;subst e;refine⟨u,?_,r1,rfl,rfl⟩;have:=g1 0 u rfl;simp only[yU]at this;simp[Instr.loadAt,Instr.sureAddr,loadVar,jB h2,this]
 .cases hc
def nT: (t:Ty)->t.den->Nat->Option AV
 | .pair a b,x,off=>if off=0 then some (.ip (.pair a b) x)else if a.sz<=off then nT b x.2 (off-a.sz)else none
 | .int k,x,off=>if off=0 then some (.ip (.int k) x)else none
 | .bool,x,off=>if off=0 then some (.ip .bool x)else none
 | .str,x,off=>if off=0 then some (.ip .str x)else none
 | .sl e,x,off=>if off=0 then some (.ip (.sl e) x)else none
theorem ve{P:Program}{C:Ctx}: ∀{t:Ty} {x:t.den} {off:Nat} {q:AV} {bl o:Nat} {us:Lv},nT t x off=some q->C.D bl->cJ C.w bl o us->ah C.w C.D t x us->
  q.rel P C (.pointer (some ⟨bl,o+off,none⟩))
 | .pair a b,x,off,q,bl,o,us,h,hD,hc,hr=>by
  simp only[nT]at h;split at h
  .rename_i h0;subst h0;cases h;exact⟨bl,o,us,rfl,hD,hc,hr⟩
  .split at h
   .rename_i h0 hle;obtain⟨u1,u2,e,r1,r2⟩:=hr;have hl:=aS r1;subst e;have hc2:cJ C.w bl (o+a.sz) u2:=λj u hj=>by
     have:=hc (a.sz+j) u (by rw[qW (by omega)];rw[hl];simpa using hj);rw[kZ];exact this
    have:=ve (P:=P) h hD hc2 r2;rw[show o+off=o+a.sz+(off-a.sz) by omega];exact this
   .cases h
 | .int k,x,off,q,bl,o,us,h,hD,hc,hr=>by
  simp only[nT]at h;split at h
  .rename_i h0;subst h0;cases h;exact⟨bl,o,us,rfl,hD,hc,hr⟩
  .cases h
 | .bool,x,off,q,bl,o,us,h,hD,hc,hr=>by
  simp only[nT]at h;split at h
  .rename_i h0;subst h0;cases h;exact⟨bl,o,us,rfl,hD,hc,hr⟩
  .cases h
 | .str,x,off,q,bl,o,us,h,hD,hc,hr=>by
  simp only[nT]at h;split at h
  .rename_i h0;subst h0;cases h;exact⟨bl,o,us,rfl,hD,hc,hr⟩
  .cases h
 | .sl _,x,off,q,bl,o,us,h,hD,hc,hr=>by
  simp only[nT]at h;split at h
  .rename_i h0;subst h0;cases h;exact⟨bl,o,us,rfl,hD,hc,hr⟩
  .cases h
def pO(P:Program)(s:TypeId)(f:Nat)(p:RV): Option Core:=
 match P.underlying s with
 | some (.struct fs)=>match fs[f]? with
  | some fd=>match sizeT P fd.type with
   | some (_+1)=>match p with
    | (.ip t x,_)=>(nT t x fd.offset).map λq=>{val:=q}
    | (.ips cs,_)=>some {val:=.ips (cs.drop fd.offset)}
    | (.ptr nm g i c,some b)=>some {need:=[b.len=g],val:=.ptr nm g i (c+fd.offset)}
    | _=>none
   | _=>none
  | none=>none
 | _=>none
theorem zf{S:Base}{σ:Sig}{a:Act}{w:World}{D:Nat->Prop}{E:Nat->Ent}(_h:aH S σ a w D E){p:RV}{s:TypeId}{f:Nat}{c:Core}{v:Value}
  (hb:p.2=ct σ.m p.1) (hc:pO S.P s f p=some c) (hn:∀q∈c.need,q) (hp:p.1.rel S.P ⟨w,D,σ.m,E⟩ v):
  ∃r,(Instr.fieldAt s v f).run S.P w=.ok r w/\c.val.rel S.P ⟨w,D,σ.m,E⟩ r/\c.upd=[]/\c.new=none:=by
 unfold pO at hc;split at hc
 .rename_i fs hu;split at hc
  .rename_i fd hf;split at hc
   .rename_i n hs;have hrun:∀bl o,(Instr.fieldAt s (.pointer (some ⟨bl,o,none⟩)) f).run S.P w=.ok (.pointer (some ⟨bl,o+fd.offset,none⟩)) w:=by
     intro bl o;have h0:=bA hs w;simp[Instr.fieldAt,vF hu,hf,Instr.sureAddr,fieldPlace,h0,yM]
    split at hc
    .rename_i t x b2;cases hsr:nT t x fd.offset with
     | none=>rw[hsr]at hc;cases hc
     | some q=>
      rw[hsr]at hc;cases hc;obtain⟨bl,off,us,rfl,h2,h3,h4⟩:=hp;exact⟨_,hrun bl off,ve hsr h2 h3 h4,rfl,rfl⟩
    .rename_i cs b2;cases hc;obtain⟨bl,off,us,rfl,h2,h3,h4⟩:=hp;refine⟨_,hrun bl off,⟨bl,off+fd.offset,us.drop fd.offset,rfl,h2,λj u hj=>?_,AV.relL_drop h4 _⟩,rfl,rfl⟩;rw[qY]at hj;rw[kZ];exact h3 _ u hj
    .rename_i nm g i c0 b;cases hc;have hm:σ.m nm=some b:=hb.symm;have hbl:b.len=g:=hn _ (by simp);obtain⟨g1,g2⟩:=hp b hm;obtain⟨g3,g4,rfl⟩:=g2 hbl;refine⟨_,hrun _ _,λb' hb'=>?_,rfl,rfl⟩;have e:b'=b:=wS (hb'.symm.trans hm);subst e;exact⟨g1,λ_=>⟨g3,g4,by rw[kZ]⟩⟩
    .cases hc
   .cases hc
  .cases hc
 .cases hc
def cN(P:Program)(t:TypeId): Option TypeId:=match P.underlying t with
 | some (.slice e)=>some e
 | _=>none
theorem cq{P:Program}{t e:TypeId}(h:cN P t=some e): P.underlying t=some (.slice e):=by
 unfold cN at h;split at h
 .cases h;assumption
 .cases h
def aEE(ty:Ty)(xs:List ty.den)(i:Int): Core:={need:=[0<=i,i<(xs.length:Int)],val:=.ip ty (Du xs (Dc i) ty.dflt)}
def rC(nm n len:Nat)(i:Int): Core:={need:=[len=n,0<=i,i<(len:Int)],val:=.ptr nm n (Dc i) 0}
theorem getElem?_getD {α:Type} {xs:List α} {i:Nat} {d:α} (h:i<xs.length):xs[i]?=some (xs.getD i d):=by
 rw[qA,qB h];rfl
def aCY(ty:Ty)(xs:List ty.den)(n:Nat)(i:Int): Core:={need:=[xs.length=n,0<=i,i<(n:Int)],val:=.ip ty (Du xs (Dc i) ty.dflt)}
def Oj(nm g j k n len:Nat)(i:Int): Core:={need:=[len=g,0<=i,i<(n:Int),Ej j k n<=g],val:=.ptr nm g (Ej j k i) 0}
def tV(P:Program)(t:TypeId)(p:RV)(i:AV): Option Core:=
 match P.underlying t,i with
 | some (.array n e),.dat (.int _) i=>match p with
  | (.ia ty xs,_)=>if sizeT P e=some ty.sz then some (aCY ty xs n i)else none
  | (.ptr nm g j 0,some (.buf _ ty xs _))=>match sizeT P e with
   | some se=>if se=se/ty.sz*ty.sz/\0<se/ty.sz then some (Oj nm g j (se/ty.sz) n xs.length i)else none
   | none=>none
  | _=>none
 | _,_=>none
theorem Uk{j k n g i:Nat}(hi:i<n)(hk:0<k)(h:j+n*k<=g): j+i*k<g:=by
 have:(i+1)*k<=n*k:=vU k hi;rw[zG,zT]at this;omega
theorem BW{S:Base}{σ:Sig}{a:Act}{w:World}{D:Nat->Prop}{E:Nat->Ent}(_h:aH S σ a w D E){p:RV}{i:AV}{t:TypeId}{c:Core}{v vi:Value}
  (hb:p.2=ct σ.m p.1) (hc:tV S.P t p i=some c) (hn:∀q∈c.need,q) (hp:p.1.rel S.P ⟨w,D,σ.m,E⟩ v) (hi:i.rel S.P ⟨w,D,σ.m,E⟩ vi):
  ∃r,(Instr.indexAt t v vi).run S.P w=.ok r w/\c.val.rel S.P ⟨w,D,σ.m,E⟩ r/\c.upd=[]/\c.new=none:=by
 unfold tV at hc;split at hc
 case h_2=>cases hc
 rename_i n e k i hu;simp only[AV.rel,ah,qR,vP]at hi;subst hi;obtain⟨i,rfl⟩:∃j:Int,j=i:=⟨i,rfl⟩;have run:∀(bl o se:Nat),sizeT S.P e=some se->0<=i->i<(n:Int)->(Instr.indexAt t (.pointer (some ⟨bl,o,none⟩)) (.int k i)).run S.P w=.ok (.pointer (some ⟨bl,o+i.toNat*se,none⟩)) w:=by
  intro bl o se hs h0 h1;have hsz:=bA hs w;simp[Instr.indexAt,asIntOf,vF hu,Instr.sureAddr,h0,h1,hsz,yM]
 split at hc
 .rename_i ty xs b2;split at hc
  case isFalse=>cases hc
  rename_i hs;cases hc;have hl:List.length xs=n:=hn _ (by simp[aCY]);have h0:(0:Int)<=i:=hn _ (by simp[aCY]);have h1:i<(n:Int):=hn _ (by simp[aCY]);obtain⟨bl,off,rfl,ao,cap,g1,g2,g3,g4,g5⟩:=hp;simp only[qR,zM,vP,zS]at g1;obtain⟨g1,_⟩:=g1;subst g1;have hlt:i.toNat<List.length xs:=by omega
  obtain⟨ad,ue,q1,r1,r2,r3⟩:=g5 i.toNat _ (getElem?_getD hlt);cases q1;exact⟨_,run bl off _ hs h0 h1,⟨bl,_,ue,rfl,r1,r2,r3⟩,rfl,rfl⟩
 .rename_i nm g j el ty xs ov;split at hc
  case h_2=>cases hc
  rename_i se hs;split at hc
  case isFalse=>cases hc
  rename_i hse;obtain⟨hse,hk0⟩:=hse;cases hc;obtain⟨kk,hkk⟩:∃kk,kk=se/ty.sz:=⟨_,rfl⟩;rw[<- hkk]at hse hk0 hn ⊢;have hlen:xs.length=g:=hn _ (by simp[Oj]);have h0:(0:Int)<=i:=hn _ (by simp[Oj]);have h1:i<(n:Int):=hn _ (by simp[Oj]);have h2:Ej j kk (n:Int)<=g:=hn _ (by simp[Oj]);have h2:j+n*kk<=g:=by simpa[Ej]using h2
  have hm:σ.m nm=some (.buf el ty xs ov):=hb.symm;obtain⟨g1,g2⟩:=hp _ hm;obtain⟨g3,g4,rfl⟩:=g2 hlen;refine⟨_,run _ _ se hs h0 h1,λb' hb'=>?_,rfl,rfl⟩;have e:b'=.buf el ty xs ov:=wS (hb'.symm.trans hm);subst e;refine⟨g1,λ_=>⟨Uk (n:=n) (by omega) hk0 h2,g4,?_⟩⟩;simp only[Blk.es,yU];rw[zG,qDu,<- hse]
 .cases hc
def pJ(P:Program)(t:TypeId)(p:RV)(i:AV): Option Core:=
 match cN P t,i with
 | some e,.dat (.int _) i=>match p with
  | (.dat (.sl ty) xs,_)=>if sizeT P e=some ty.sz then
    some (aEE ty xs i)else none
  | (.buf nm n,some (.buf _ ty xs _))=>if sizeT P e=some ty.sz then
    some (rC nm n xs.length i)else none
  | (.view nm n,some (.buf _ ty xs _))=>if sizeT P e=some ty.sz then
    some (rC nm n xs.length i)else none
  | (.slv cs,_)=>if sizeT P e=some 1 then some {need:=[Dl 0 i,Dn i (Dx cs.length)],val:=.ips (cs.drop i.toNat)} else none
  | _=>none
 | _,_=>tV P t p i
theorem y5{S:Base}{σ:Sig}{a:Act}{w:World}{D:Nat->Prop}{E:Nat->Ent}(_h:aH S σ a w D E){p:RV}{i:AV}{t:TypeId}{c:Core}{v vi:Value}
  (hb:p.2=ct σ.m p.1) (hc:pJ S.P t p i=some c) (hn:∀q∈c.need,q) (hp:p.1.rel S.P ⟨w,D,σ.m,E⟩ v) (hi:i.rel S.P ⟨w,D,σ.m,E⟩ vi):
  ∃r,(Instr.indexAt t v vi).run S.P w=.ok r w/\c.val.rel S.P ⟨w,D,σ.m,E⟩ r/\c.upd=[]/\c.new=none:=by
 unfold pJ at hc;split at hc
 .rename_i e k i he;have hu:=cq he;simp only[AV.rel,ah,qR,vP]at hi;subst hi;split at hc
  .rename_i ty xs b2;split at hc
   .rename_i hs;cases hc;obtain⟨i,rfl⟩:∃j:Int,j=i:=⟨i,rfl⟩;have h0:(0:Int)<=i:=hn _ (by simp[aEE]);have h1:i<(List.length xs:Int):=hn _ (by simp[aEE]);obtain⟨ao,cap,g1,g2,g3,g4,g5⟩:=hp;simp only[qR,vP]at g1;subst g1;have hlt:i.toNat<List.length xs:=by omega
    obtain⟨ad,ue,rfl,r1,r2,r3⟩:=g5 i.toNat _ (getElem?_getD hlt);have hspot:=g4 ad rfl (by omega);have hadd:ad.add (i.toNat*ty.sz)=⟨ad.block,ad.off+i.toNat*ty.sz,none⟩:=by
     cases ad with | mk b o s=>simp only at hspot;subst hspot;exact yM b o _
    refine⟨.pointer (some ⟨ad.block,ad.off+i.toNat*ty.sz,none⟩),?_,⟨ad.block,_,ue,rfl,r1,r2,r3⟩,rfl,rfl⟩;have hsz:=bA hs w;simp[Instr.indexAt,asIntOf,vF hu,h0,h1,hsz,hadd]
   .cases hc
  .rename_i nm n el ty xs ov;split at hc
   .rename_i hs;cases hc;obtain⟨i,rfl⟩:∃j:Int,j=i:=⟨i,rfl⟩;have hlen:List.length xs=n:=hn _ (by simp[rC]);have h0:(0:Int)<=i:=hn _ (by simp[rC]);have h1:i<(List.length xs:Int):=hn _ (by simp[rC]);have hm:σ.m nm=some (.buf el ty xs ov):=hb.symm;obtain⟨g1,g2⟩:=hp _ hm;have e2:=g2 hlen;have hsz:=bA hs w;have hnil:(E nm).isNil=false:=by
     cases hq:(E nm).isNil with
     | false=>rfl
     | true=>
      obtain⟨raw,r1,r2⟩:=_h.bl nm _ hm;have e3:(E nm).handle xs.length=.slice none 0 0:=by unfold Ent.handle;rw[hq];rfl
      rw[e3]at r1;rcases r1.2 with⟨_,hz⟩ | ⟨g,cap,cur,hv,_⟩
      .have hz':List.length xs=0:=hz;rw[hz']at h1;omega
      .cases hv
    have e3:(E nm).handle n=.slice (some ⟨(E nm).b,0,none⟩) n (E nm).cap:=by unfold Ent.handle;rw[hnil];rfl
    have e4:v=.slice (some ⟨(E nm).b,0,none⟩) n (E nm).cap:=e2.trans e3;subst e4;have h1':i<(n:Int):=by rw[<- hlen];exact h1
    refine⟨.pointer (some ⟨(E nm).b,i.toNat*ty.sz,none⟩),?_,λb' hb'=>?_,rfl,rfl⟩
    .simp[Instr.indexAt,asIntOf,vF hu,h0,h1',hsz,yM]
    .have e:b'=.buf el ty xs ov:=wS (hb'.symm.trans hm);subst e;exact⟨zV hlen.symm,λ_=>⟨(by have h9:i<(n:Int):=h1';exact(show i.toNat<n by omega)),hnil,by simp[Blk.es]⟩⟩
   .cases hc
  .rename_i nm n el ty xs ov;split at hc
   .rename_i hs;cases hc;obtain⟨i,rfl⟩:∃j:Int,j=i:=⟨i,rfl⟩;have hlen:List.length xs=n:=hn _ (by simp[rC]);have h0:(0:Int)<=i:=hn _ (by simp[rC]);have h1:i<(List.length xs:Int):=hn _ (by simp[rC]);have hm:σ.m nm=some (.buf el ty xs ov):=hb.symm;obtain⟨g1,g2⟩:=hp _ hm;obtain⟨hnil,cap,_,e4⟩:=g2 hlen;have hsz:=bA hs w;subst e4;have h1':i<(n:Int):=by rw[<- hlen];exact h1
    refine⟨.pointer (some ⟨(E nm).b,i.toNat*ty.sz,none⟩),?_,λb' hb'=>?_,rfl,rfl⟩
    .simp[Instr.indexAt,asIntOf,vF hu,h0,h1',hsz,yM]
    .have e:b'=.buf el ty xs ov:=wS (hb'.symm.trans hm);subst e;exact⟨zV hlen.symm,λ_=>⟨(by have h9:i<(n:Int):=h1';exact(show i.toNat<n by omega)),hnil,by simp[Blk.es]⟩⟩
   .cases hc
  .rename_i cs b2;split at hc
   .rename_i hs;cases hc;have h0:(0:Int)<=i:=hn _ (by simp);have h1:i<((cs.length:Nat):Int):=hn _ (by simp);obtain⟨b,off,us,rfl,r1,r2,r3⟩:=hp;have hsz:=bA hs w;refine⟨.pointer (some ⟨b,off+i.toNat,none⟩),?_,⟨b,off+i.toNat,us.drop i.toNat,rfl,r1,λj u hj=>?_,?_⟩,rfl,rfl⟩
    .simp[Instr.indexAt,asIntOf,vF hu,h0,h1,hsz,yM]
    .rw[qY]at hj;rw[kZ];exact r2 _ u hj
    .exact AV.relL_drop r3 _
   .cases hc
  .cases hc
 .exact BW _h hb hc hn hp hi
def aEC(P:Program)(t:TypeId)(p:RV): Option Core:=
 match P.underlying t,p with
 | some .string,(.dat .str s,_)=>some {val:=.dat (.int .i64) (s.size:Int)}
 | some (.slice _),(.dat (.sl _) xs,_)=>some {val:=.dat (.int .i64) (List.length xs:Int)}
 | some (.slice _),(.buf _ n,some b)=>some {need:=[b.len=n],val:=.dat (.int .i64) (n:Int)}
 | some (.slice _),(.view _ n,some b)=>some {need:=[b.len=n],val:=.dat (.int .i64) (n:Int)}
 | some (.slice _),(.val (.slice none 0 0),_)=>some {val:=.dat (.int .i64) 0}
 | some (.slice _),(.slv cs,_)=>some {val:=.dat (.int .i64) ((cs.length:Nat):Int)}
 | some (.slice _),(.row _ g _ k,some b)=>some {need:=[b.len=g],val:=.dat (.int .i64) (k:Int)}
 | some (.array n _),_=>some {val:=.dat (.int .i64) (n:Int)}
 | _,_=>none
theorem YR{S:Base}{σ:Sig}{a:Act}{w:World}{D:Nat->Prop}{E:Nat->Ent}(h:aH S σ a w D E){p:RV}{t ty:TypeId}{ts:Array TypeId}{c:Core}{v:Value}(hts:ts[0]?=some t)
  (hb:p.2=ct σ.m p.1) (hc:aEC S.P t p=some c) (hn:∀q∈c.need,q) (hp:p.1.rel S.P ⟨w,D,σ.m,E⟩ v):
  ∃r,(Builtin.len_ ts ty #[v]).run S.P w=.ok r w/\c.val.rel S.P ⟨w,D,σ.m,E⟩ r/\c.upd=[]/\c.new=none:=by
 unfold aEC at hc;split at hc
 .rename_i s b hu;cases hc;simp only[AV.rel,ah,qR,vP]at hp;subst hp;exact⟨_,by simp[Builtin.len_,hts,vF hu,goInt];try rfl,rfl,rfl,rfl⟩
 .rename_i e ty xs b hu;cases hc;obtain⟨ao,cap,g1,g2,g3,g4,g5⟩:=hp;simp only[qR,vP]at g1;subst g1;exact⟨_,by simp[Builtin.len_,hts,vF hu,goInt];try rfl,rfl,rfl,rfl⟩
 .rename_i e nm n b hu;cases hc;have hlen:b.len=n:=hn _ (by simp);have hm:σ.m nm=some b:=hb.symm;obtain⟨g1,g2⟩:=hp _ hm;have e2:=g2 hlen;have:∃ao cap,v=.slice ao n cap:=by
   rw[e2];unfold Ent.handle;split
   .rename_i hq;have hbl:=h.bl nm b hm;cases b with
    | var cs=>exact absurd hq (by rw[hbl.1];simp)
    | buf el ty xs ov=>
     obtain⟨raw,r1,r2⟩:=hbl;have e3:(E nm).handle xs.length=.slice none 0 0:=by unfold Ent.handle;rw[hq];rfl
     rw[e3]at r1;rcases r1.2 with⟨_,hz⟩ | ⟨g,cap,cur,hv,_⟩
     .have:n=0:=by rw[<- hlen];exact hz
      subst this;exact⟨none,0,rfl⟩
     .cases hv
    | mat el eli ty xss ov=>
     obtain⟨_,raw,r1,r2⟩:=hbl;have e3:(E nm).handle xss.length=.slice none 0 0:=by unfold Ent.handle;rw[hq];rfl
     rw[e3]at r1;rcases r1.2 with⟨_,hz⟩ | ⟨g,cap,cur,hv,_⟩
     .have:n=0:=by rw[<- hlen];exact hz
      subst this;exact⟨none,0,rfl⟩
     .cases hv
   .exact⟨_,_,rfl⟩
  obtain⟨ao,cap,rfl⟩:=this;exact⟨_,by simp[Builtin.len_,hts,vF hu,goInt];try rfl,rfl,rfl,rfl⟩
 .rename_i e nm n b hu;cases hc;have hlen:b.len=n:=hn _ (by simp);obtain⟨_,cap,_,rfl⟩:=(hp _ hb.symm).2 hlen;exact⟨_,by simp[Builtin.len_,hts,vF hu,goInt];try rfl,rfl,rfl,rfl⟩
 .rename_i e b hu;cases hc;simp only[AV.rel]at hp;subst hp;exact⟨_,by simp[Builtin.len_,hts,vF hu,goInt];try rfl,rfl,rfl,rfl⟩
 .rename_i e cs b hu;cases hc;obtain⟨b,off,us,rfl,r1,r2,r3⟩:=hp;exact⟨_,by simp[Builtin.len_,hts,vF hu,goInt];try rfl,rfl,rfl,rfl⟩
 .rename_i e nm g i k b hu;cases hc;have hlen:b.len=g:=hn _ (by simp);obtain⟨ao,cap,rfl,_⟩:=(hp _ hb.symm).2 hlen;exact⟨_,by simp[Builtin.len_,hts,vF hu,goInt];try rfl,rfl,rfl,rfl⟩
 .rename_i n e hu;cases hc;refine⟨.int .i64 n,?_,rfl,rfl,rfl⟩;cases v<;>simp[Builtin.len_,hts,vF hu,goInt]
 .cases hc
def zi(i:Nat): AV->Option Core
 | .tup vs=>match vs[i]? with | some v=>some {val:=v} | none=>none
 | _=>none
theorem FX{P:Program}{C:Ctx}{w:World}{i:Nat}{p:AV}{c:Core}{v:Value}(hc:zi i p=some c)(hp:p.rel P C v):
  ∃r,(Instr.extract v i).run P w=.ok r w/\c.val.rel P C r/\c.upd=[]/\c.new=none:=by
 unfold zi at hc;split at hc
 .split at hc
  .rename_i vs a hv;cases hc;obtain⟨us,rfl,h2⟩:=hp;obtain⟨u,h3,h4⟩:=AV.relL_get h2 hv;exact⟨u,by simp[Instr.extract,h3],h4,rfl,rfl⟩
  .cases hc
 .cases hc
def OP(P:Program)(t:TypeId)(f:Nat): AV->Option Core
 | .agg cs=>match P.underlying t with
  | some (.struct fs)=>match fs[f]? with
   | some fd=>match fM P fd.type,sizeT P fd.type with
    | some true,some k=>if fd.offset+k<=cs.length then some {val:=.agg ((cs.drop fd.offset).take k)} else none
    | some false,_=>match cs[fd.offset]? with | some v=>some {val:=v} | none=>none
    | _,_=>none
   | none=>none
  | _=>none
 | _=>none
theorem OO{P:Program}{C:Ctx}{w:World}{t:TypeId}{f:Nat}{p:AV}{c:Core}{v:Value}(hc:OP P t f p=some c)(hp:p.rel P C v):
  ∃r,(Instr.field t v f).run P w=.ok r w/\c.val.rel P C r/\c.upd=[]/\c.new=none:=by
 unfold OP at hc;split at hc
 .rename_i cs;obtain⟨us,rfl,h2⟩:=hp;split at hc
  .rename_i fs hu;split at hc
   .rename_i fd hf;split at hc
    .rename_i k h3 h4;split at hc
     .rename_i hle;cases hc;have hl:=AV.relL_length h2;refine⟨.agg (us.toArray.extract fd.offset (fd.offset+k)),?_,⟨(us.drop fd.offset).take k,?_,AV.relL_take (AV.relL_drop h2 _) _⟩,rfl,rfl⟩
      .simp[Instr.field,vF hu,hf,part,jB h3,asAgg,bA h4]
      .congr 1
       apply yB;simp
     .cases hc
    .rename_i h3;split at hc
     .rename_i v hv;cases hc;obtain⟨u,h5,h6⟩:=AV.relL_get h2 hv;refine⟨u,?_,h6,rfl,rfl⟩;simp[Instr.field,vF hu,hf,part,jB h3,asAgg,h5]
     .cases hc
    .cases hc
   .cases hc
  .cases hc
 .cases hc
def Oi(s:ByteArray)(i:Int): Core:={need:=[0<=i,i<(s.size:Int)],val:=.dat (.int .u8) (Gf s i)}
def Ot(P:Program)(t:TypeId): AV->AV->Option Core
 | .dat .str s,.dat (.int _) i=>match P.underlying t with
  | some .string=>some (Oi s i)
  | _=>none
 | _,_=>none
theorem Oq{P:Program}{C:Ctx}{w:World}{t:TypeId}{p i:AV}{c:Core}{v vi:Value}(hc:Ot P t p i=some c)(hn:∀q∈c.need,q)(hp:p.rel P C v)(hi:i.rel P C vi):
  ∃r,(Instr.index t v vi).run P w=.ok r w/\c.val.rel P C r/\c.upd=[]/\c.new=none:=by
 unfold Ot at hc;split at hc
 .rename_i s k i;split at hc
  .rename_i hu;cases hc;simp only[AV.rel,ah,qR,vP]at hp hi;subst hp hi;obtain⟨i,rfl⟩:∃j:Int,j=i:=⟨i,rfl⟩;obtain⟨s,rfl⟩:∃j:ByteArray,j=s:=⟨s,rfl⟩;have h0:(0:Int)<=i:=hn _ (by simp[Oi]);have h1:i<(s.size:Int):=hn _ (by simp[Oi]);have hlt:i.toNat<s.size:=by omega
   refine⟨.int .u8 ((s.data.getD i.toNat 0).toNat:Int),?_,rfl,rfl,rfl⟩;have e:s[i.toNat]?=some (s.data.getD i.toNat 0):=by
    have h2:i.toNat<s.data.size:=hlt;rw[getElem?_pos s i.toNat hlt];show some (s.data[i.toNat])=_;have e2:s.data.getD i.toNat 0=s.data[i.toNat]:=by unfold Array.getD;rw[dif_pos h2];rfl
    rw[e2]
   simp[Instr.index,asIntOf,vF hu,h0,e]
  .cases hc
 .cases hc
def AQ(s:ByteArray)(l:Int)(h:Option Int): Core:=
 match h with
 | none=>{need:=[0<=l,l<=(s.size:Int)],val:=.dat .str (Gj s l)}
 | some h=>{need:=[0<=l,l<=h,h<=(s.size:Int)],val:=.dat .str (Gh s l h)}
def AS(ty:Ty)(xs:List ty.den)(l:Int)(h:Option Int): Core:=
 match h with
 | none=>{need:=[0<=l,l<=(xs.length:Int)],val:=.dat (.sl ty) (Fe xs l)}
 | some h=>{need:=[0<=l,l<=h,h<=(xs.length:Int)],val:=.dat (.sl ty) (Fj xs l h)}
def aC3: Option AV->Option (Option Int)
 | none=>some none
 | some (.dat (.int _) i)=>some (some i)
 | _=>none
def vj(P:Program)(t:TypeId)(x:AV)(lo hi:Option AV): Option Core:=
 match x,P.underlying t,aC3 lo,aC3 hi with
 | .dat .str s,some .string,some l,some h=>some (AQ s (l.getD 0) h)
 | .dat (.sl ty) xs,some (.slice e),some l,some h=>if sizeT P e=some ty.sz then some (AS ty xs (l.getD 0) h)else none
 | _,_,_,_=>none
def aCS(P:Program)(C:Ctx): Option AV->Option Value->Prop
 | none,none=>True
 | some a,some v=>a.rel P C v
 | _,_=>False
theorem rU{P:Program}{C:Ctx}{a:Option AV}{v:Option Value}{r:Option Int}(h:aC3 a=some r)(hr:aCS P C a v):
  (r=none/\v=none)\/∃k i,r=some i/\v=some (.int k i):=by
 cases a with
 | none=>
  cases v with
  | none=>cases h;exact .inl ⟨rfl,rfl⟩
  | some v=>exact hr.elim
 | some a=>
  cases v with
  | none=>exact hr.elim
  | some v=>
   unfold aC3 at h;split at h
   .rename_i he;cases he
   .rename_i k i he;cases he;cases h;simp only[aCS,AV.rel,ah,qR,vP]at hr;subst hr;exact .inr ⟨k,i,rfl,rfl⟩
   .cases h
theorem run_sliceBound{P:Program}{w:World}{k:IntKind}{i:Int}{y:Nat}{code:BoundsCode}(h0:0<=i)(h1:i<=y): (Instr.sliceBound (.int k i) y code).run P w=.ok i.toNat w:=by
 simp[Instr.sliceBound,asIntOf,h0,h1]
theorem nX{P:Program}{C:Ctx}{w:World}{t:TypeId}{x:AV}{lo hi:Option AV}{c:Core}{v:Value}{vl vh:Option Value}(hc:vj P t x lo hi=some c)(hn:∀q∈c.need,q)
  (hx:x.rel P C v) (hl:aCS P C lo vl) (hh:aCS P C hi vh):
  ∃r,(Instr.sliceAt t v vl vh none).run P w=.ok r w/\c.val.rel P C r/\c.upd=[]/\c.new=none:=by
 unfold vj at hc;split at hc
 .rename_i s l h hu hbl hbh;cases hc;simp only[AV.rel,ah,qR,vP]at hx;subst hx;obtain⟨s,rfl⟩:∃j:ByteArray,j=s:=⟨s,rfl⟩;have hsl:∀vl vh,Instr.slice t (.string s) vl vh none=Instr.slice t (.string s) vl vh none:=λ_ _=>rfl
  rcases rU hbh hh with⟨rfl,rfl⟩ | ⟨kh,ih,rfl,rfl⟩<;>rcases rU hbl hl with⟨rfl,rfl⟩ | ⟨kl,il,rfl,rfl⟩
  .refine⟨_,?_,rfl,rfl,rfl⟩;simp[Instr.sliceAt,vF hu,Instr.slice,Instr.sliceBounds,Gj]
  .have h0:0<=il:=hn _ (by simp[AQ]);have h1:il<=(s.size:Int):=hn _ (by simp[AQ]);refine⟨_,?_,rfl,rfl,rfl⟩;simp[Instr.sliceAt,vF hu,Instr.slice,Instr.sliceBounds,Gj,run_sliceBound h0 h1]
  .have h1:(0:Int)<=ih:=hn _ (by simp[AQ]);have h2:ih<=(s.size:Int):=hn _ (by simp[AQ]);refine⟨_,?_,rfl,rfl,rfl⟩;simp[Instr.sliceAt,vF hu,Instr.slice,Instr.sliceBounds,Gh,run_sliceBound h1 h2]
  .have h0:0<=il:=hn _ (by simp[AQ]);have h1:il<=ih:=hn _ (by simp[AQ]);have h2:ih<=(s.size:Int):=hn _ (by simp[AQ]);refine⟨_,?_,rfl,rfl,rfl⟩;have h3:il<=(ih.toNat:Int):=by omega
   simp[Instr.sliceAt,vF hu,Instr.slice,Instr.sliceBounds,Gh,run_sliceBound (show(0:Int)<=ih by omega) h2,run_sliceBound h0 h3]
 .rename_i ty xs e l h hu hbl hbh;split at hc
  .rename_i hs;cases hc;obtain⟨xs,rfl⟩:∃j:List ty.den,j=xs:=⟨xs,rfl⟩;have hsz:=bA hs w;obtain⟨ao,cap,g1,g2,g3,g4,g5⟩:=hx;simp only[qR,vP]at g1;subst g1;have part:∀(l h:Nat),l<=h->h<=xs.length->
     (AV.dat (.sl ty) ((xs.take h).drop l)).rel P C (.slice (if cap=l then ao else ao.map (·.add (l*ty.sz))) (h-l) (cap-l)):=by
    intro l h hlh hhx;refine⟨_,cap-l,by rw[vY,qI,yY hhx],by rw[vY,qI];omega,?_,?_,?_⟩
    .intro hno;split at hno
     .rename_i he;omega
     .cases ao with
      | none=>have:=g3 rfl;omega
      | some a=>cases hno
    .intro a ha hpos;rw[vY,qI]at hpos;have hp0:0<xs.length:=by omega
     split at ha
     .exact g4 a ha hp0
     .cases ao with
      | none=>cases ha
      | some a0=>
       cases ha;have:=g4 a0 rfl hp0;cases a0 with | mk b o s=>simp only at this;subst this;simp only[yM]
    .intro i y hy;rw[qY,vM]at hy;split at hy
     .rename_i hlt;obtain⟨a,ue,rfl,r1,r2,r3⟩:=g5 (l+i) y hy;have hlt':=(qF.1 hy).1;have hsp:=g4 a rfl (Nat.lt_of_le_of_lt (wU _) hlt');have hadd:a.add (l*ty.sz)=⟨a.block,a.off+l*ty.sz,none⟩:=by
       cases a with | mk b o s=>simp only at hsp;subst hsp;exact yM b o _
      refine⟨⟨a.block,a.off+l*ty.sz,none⟩,ue,?_,r1,?_,r3⟩
      .rw[if_neg (by omega)];simp[hadd]
      .have:a.off+(l+i)*ty.sz=a.off+l*ty.sz+i*ty.sz:=by rw[zG];omega
       rw[<- this];exact r2
     .cases hy
   rcases rU hbh hh with⟨rfl,rfl⟩ | ⟨kh,ih,rfl,rfl⟩<;>rcases rU hbl hl with⟨rfl,rfl⟩ | ⟨kl,il,rfl,rfl⟩
   .have:=part 0 xs.length (wU _) (qJ _);rw[xC]at this;refine⟨_,?_,this,rfl,rfl⟩;simp[Instr.sliceAt,vF hu,Instr.slice,Instr.sliceBounds,hsz]
   .have h0:0<=il:=hn _ (by simp[AS]);have h1:il<=(xs.length:Int):=hn _ (by simp[AS]);have:=part il.toNat xs.length (by omega) (qJ _);rw[xC]at this;refine⟨_,?_,this,rfl,rfl⟩;simp[Instr.sliceAt,vF hu,Instr.slice,Instr.sliceBounds,hsz,run_sliceBound h0 h1]
   .have h1:(0:Int)<=ih:=hn _ (by simp[AS]);have h2:ih<=(xs.length:Int):=hn _ (by simp[AS]);have h2':ih<=(cap:Int):=by omega
    have:=part 0 ih.toNat (wU _) (by omega);refine⟨_,?_,this,rfl,rfl⟩;simp[Instr.sliceAt,vF hu,Instr.slice,Instr.sliceBounds,hsz,run_sliceBound h1 h2']
   .have h0:0<=il:=hn _ (by simp[AS]);have h1:il<=ih:=hn _ (by simp[AS]);have h2:ih<=(xs.length:Int):=hn _ (by simp[AS]);have h2':ih<=(cap:Int):=by omega
    have h3:il<=(ih.toNat:Int):=by omega
    have:=part il.toNat ih.toNat (by omega) (by omega);refine⟨_,?_,this,rfl,rfl⟩;simp[Instr.sliceAt,vF hu,Instr.slice,Instr.sliceBounds,hsz,run_sliceBound (show(0:Int)<=ih by omega) h2',run_sliceBound h0 h3]
  .cases hc
 .cases hc
end Go.Eng
namespace Go.Eng
open Go.RowKit
def lI: Ty->Ty->Ty
 | .pair a b,c=>.pair a (lI b c)
 | a,c=>.pair a c
def rowOf: List (Option Ty)->Option Ty
 | []=>none
 | [a]=>a
 | a::b::r=>match a,rowOf (b::r)with
  | some a,some c=>some (lI a c)
  | _,_=>none
def aDv(P:Program): Nat->TypeId->Option Ty
 | 0,_=>none
 | n+1,t=>match P.underlying t with
  | some (.int k)=>some (.int k)
  | some .bool=>some .bool
  | some .string=>some .str
  | some (.slice e)=>match aDv P n e with | some ty=>some (.sl ty) | none=>none
  | some (.struct fs)=>rowOf (fs.toList.map λf=>aDv P n f.type)
  | _=>none
def cw: AV->List AV
 | .agg cs=>cs
 | v=>[v]
def s8: RV->Option (List Prop)
 | (.dat t _,_)=>if t.sz=1 then some []else none
 | (.val u,_)=>if u.oneCell' then some []else none
 | (.buf _ n,some b)=>some [b.len=n]
 | (.ptr _ g _ _,some b)=>some [b.len=g]
 | (.ip _ _,_)=>some []
 | (.ips _,_)=>some []
 | (.fn _ _,_)=>some []
 | (.clo1 _ _ _ _,_)=>some []
 | (.clo2 _ _ _ _ _,_)=>some []
 | (.ifc _ _,_)=>some []
 | _=>none
theorem Ent.handle_one (e:Ent) (n:Nat):(e.handle n).oneCell'=true:=by
 unfold Ent.handle;split<;>rfl
theorem fu{w:World}{D:Nat->Prop}: ∀{t:Ty} {x:t.den} {us:Lv},ah w D t x us->∀u∈us,u.oneCell'=true
 | .int _,_,_,h,u,hu=>by simp only[ah]at h;subst h;simp at hu;subst hu;rfl
 | .bool,_,_,h,u,hu=>by simp only[ah]at h;subst h;simp at hu;subst hu;rfl
 | .str,_,_,h,u,hu=>by simp only[ah]at h;subst h;simp at hu;subst hu;rfl
 | .sl _,_,_,h,u,hu=>by obtain⟨_,_,h,_⟩:=h;subst h;simp at hu;subst hu;rfl
 | .pair a b,_,_,h,u,hu=>by
  obtain⟨u1,u2,h,h1,h2⟩:=h;subst h;rcases qH.1 hu with g | g
  .exact fu h1 u g
  .exact fu h2 u g
theorem NH{P:Program}{C:Ctx}{p:RV}{ns:List Prop}{v:Value}(hb:p.2=none\/p.2=ct C.m p.1)(h:s8 p=some ns)(hn:∀q∈ns,q)(hp:p.1.rel P C v): v.oneCell'=true:=by
 unfold s8 at h;split at h
 .exact fu hp v (by simp)
 .rename_i u b;split at h
  .rename_i hu;simp only[AV.rel]at hp;subst hp;exact hu
  .cases h
 .rename_i nm n b;cases h;have hm:C.m nm=some b:=(hb.resolve_left (by simp)).symm;rw[((hp b hm).2 (hn _ (by simp)))];exact Ent.handle_one _ _
 .rename_i nm g i c b;cases h;have hm:C.m nm=some b:=(hb.resolve_left (by simp)).symm;obtain⟨_,_,e⟩:=(hp b hm).2 (hn _ (by simp));rw[e];rfl
 .obtain⟨_,_,_,e,_⟩:=hp;rw[e];rfl
 .obtain⟨_,_,_,e,_⟩:=hp;rw[e];rfl
 .obtain⟨_,e,_⟩:=hp;rw[e];rfl
 .obtain⟨_,_,e,_⟩:=hp;rw[e];rfl
 .obtain⟨_,_,e,_⟩:=hp;rw[e];rfl
 .obtain⟨_,e,_⟩:=hp;rw[e];rfl
 .cases h
def TF: List AV->Option (List Prop)
 | []=>some []
 | c::cs=>match s8 (c,none),TF cs with
  | some a,some b=>some (a++b)
  | _,_=>none
def Bo: RV->Option (List Prop)
 | (.agg cs,_)=>TF cs
 | p=>s8 p
theorem HB{P:Program}{C:Ctx}: ∀{cs:List AV} {ns:List Prop} {us:Lv},TF cs=some ns->(∀q∈ns,q)->AV.relL P C cs us->∀u∈us,u.oneCell'=true
 | [],_,us,_,_,hr,u,hu=>by simp only[AV.relL]at hr;subst hr;simp at hu
 | c::cs,ns,us,h,hn,hr,u,hu=>by
  simp only[TF]at h;split at h
  .rename_i a b h1 h2;cases h;obtain⟨v,us',e,g1,g2⟩:=hr;subst e;rcases zJ.1 hu with g | g
   .subst g;exact NH (.inl rfl) h1 (λq hq=>hn q (qH.2 (.inl hq))) g1
   .exact HB h2 (λq hq=>hn q (qH.2 (.inr hq))) g2 u g
  .cases h
theorem my{P:Program}{C:Ctx}{p:RV}{ns:List Prop}{v:Value}(hb:p.2=ct C.m p.1)(h:Bo p=some ns)(hn:∀q∈ns,q)(hp:p.1.rel P C v):
  ∃us:Lv,v.cells=us.toArray/\AV.relL P C (cw p.1) us/\∀u∈us,u.oneCell'=true:=by
 unfold Bo at h;split at h
 .rename_i cs b;obtain⟨us,e,g⟩:=hp;subst e;exact⟨us,rfl,g,HB h hn g⟩
 .rename_i hne;have h1:=NH (.inr hb) h hn hp;refine⟨[v],?_,?_,by simpa using h1⟩
  .cases v<;>first | rfl | cases h1
  .obtain⟨a,b⟩:=p;cases a<;>first | exact(hne _ _ rfl).elim | exact⟨v,[],rfl,hp,rfl⟩
theorem aH.newData {S:Base} {σ:Sig} {a:Act} {w:World} {D:Nat->Prop} {E:Nat->Ent} (h:aH S σ a w D E) (o:Obj):
  aH S σ a (w.alloc o) (λb=>D b\/b=w.heap.size) E:=by
 have e:(w.alloc o).heap.size=w.heap.size+1:=zO w o;refine h.world ⟨rfl,rfl,rfl,by rw[e];omega,λk hk=>yV w o k hk⟩ (λb=>⟨λhb=>?_,λhb=>?_⟩) (λb hb=>?_)
 .rcases hb with g | g
  .exact .inl g
  .exact .inr ⟨⟨by omega,by rw[e];omega⟩,.inr g⟩
 .rcases hb with g | ⟨_,g⟩
  .exact .inl g
  .exact g
 .rcases hb with g | g
  .have:=h.dlt b g;rw[e];omega
  .rw[e];omega
def upE(E:Nat->Ent)(nm:Nat)(e:Ent): Nat->Ent:=λk=>if k=nm then e else E k
theorem cO{m:Nat->Option Blk}{nm:Nat}{b:Blk}(k:Nat): upM m [(nm,b)] k=if k=nm then some b else m k:=by
 unfold upM;simp only[List.lookup];by_cases e:k=nm
 .subst e;simp
 .have:(k==nm)=false:=by simpa using e
  simp[this,e]
theorem aH.newBlk {S:Base} {σ:Sig} {a:Act} {w w':World} {D:Nat->Prop} {E:Nat->Ent} (h:aH S σ a w D E) {nm:Nat} (hu:Unm nm σ) {b:Blk} {e:Ent}
  (hw:Below w.heap.size w w') (he:e.isNil=false->e.b=w.heap.size/\w.heap.size<w'.heap.size)
  (hb:dE S.P 0 ⟨w',D,upM σ.m [(nm,b)],upE E nm e⟩ e b) (hpr:∀i k,rowsOf e b i k->False:=by(intro i k h;obtain⟨_,_,_,_,_,_,h,_⟩:=h;cases h)):
  aH S ⟨σ.T,upM σ.m [(nm,b)],σ.sv⟩ a w' D (upE E nm e):=by
 have hs:=h.low.size;have old:∀k b',upM σ.m [(nm,b)] k=some b'->(k=nm/\b'=b)\/(k≠nm/\σ.m k=some b'):=λk b' hk=>by
  rw[cO]at hk;split at hk
  .rename_i ek;cases hk;exact .inl ⟨ek,rfl⟩
  .rename_i ek;exact .inr ⟨ek,hk⟩
 have hEo:∀k,k≠nm->upE E nm e k=E k:=λk hk=>by simp[upE,hk]
 have hEn:upE E nm e nm=e:=by simp[upE]
 refine h.go (m':=upM σ.m [(nm,b)]) ⟨λb hb=>hb,λb hb=>hw.block b (h.dlt b hb)⟩ (λk=>?_) (λk b' hk=>?_) (λk b' hk hi=>?_) (λk k' b1 b2 hk hk' hi hi' hbb=>?_)
  (h.low.below hw) (λb hb=>qN (h.dlt b hb) hw.size) (λb hb=>.inl hb)
  (h.pv.step (λk i r hr=>by
   obtain⟨b',g1,g2⟩:=aI.1 hr;rcases old k b' g1 with⟨rfl,rfl⟩ | ⟨q1,q2⟩
   .rw[hEn]at g2;exact(hpr i r g2).elim
   .rw[hEo k q1]at g2;exact aI.2 ⟨b',q2,g2⟩) hw.size (λb hb=>.inl hb) λk b' hk hi=>by
   rcases old k b' hk with⟨rfl,rfl⟩ | ⟨q1,q2⟩
   .rw[hEn]at hi ⊢;exact .inl (zV (he hi).1.symm)
   .rw[hEo k q1]at hi ⊢;exact .inr ⟨k,b',q2,hi,rfl⟩)
 .by_cases ek:k=nm
  .subst ek;exact .inr hu
  .refine .inl λb' hb'=>?_
   rcases old k b' hb' with⟨g,_⟩ | ⟨_,g⟩
   .exact(ek g).elim
   .exact⟨b',g,rfl,qJ _,λ_=>hEo k ek⟩
 .rcases old k b' hk with⟨rfl,rfl⟩ | ⟨g1,g2⟩
  .right;rw[hEn];exact hb
  .left;exact⟨g2,hEo k g1,λhi=>hw.block _ (h.own k b' g2 hi).2.1,λi r hr=>hw.block _ (h.pv.lt g2 hr)⟩
 .rcases old k b' hk with⟨rfl,rfl⟩ | ⟨g1,g2⟩
  .rw[hEn]at hi ⊢;obtain⟨g3,g4⟩:=he hi;rw[g3];exact⟨.inl hs,g4,λhd=>yS _ (h.dlt _ hd)⟩
  .rw[hEo k g1]at hi ⊢;obtain⟨g3,g4,g5⟩:=h.own k b' g2 hi;exact⟨g3,qN g4 hw.size,g5⟩
 .rcases old k b1 hk with⟨rfl,rfl⟩ | ⟨g1,g2⟩<;>rcases old k' b2 hk' with⟨rfl,rfl⟩ | ⟨g3,g4⟩
  .rfl
  .rw[hEn]at hi hbb;rw[hEo k' g3]at hi' hbb;have:=(h.own k' b2 g4 hi').2.1;rw[<- hbb,(he hi).1]at this;exact(yS _ this).elim
  .rw[hEn]at hi' hbb;rw[hEo k g1]at hi hbb;have:=(h.own k b1 g2 hi).2.1;rw[hbb,(he hi').1]at this;exact(yS _ this).elim
  .rw[hEo k g1]at hi hbb;rw[hEo k' g3]at hi' hbb;exact h.inj k k' b1 b2 g2 g4 hi hi' hbb
theorem aH.turnBlk {S:Base} {σ:Sig} {a:Act} {w w':World} {D:Nat->Prop} {E:Nat->Ent} (h:aH S σ a w D E) {nm:Nat} {b0 b:Blk} (hm:σ.m nm=some b0) {e:Ent}
  (hes:b0.es=b.es) (hlen:b0.len<=b.len) (hsame:b0.len=b.len->e=E nm)
  (hos:w'.os=w.os) (htape:w'.tape=w.tape) (hout:w'.output=w.output) (hsize:w.heap.size<=w'.heap.size)
  (hw:∀k,k<w.heap.size->((E nm).isNil=false->k≠(E nm).b)->w'.heap[k]?=w.heap[k]?)
  (he:e.isNil=false->(e.b=w.heap.size/\w.heap.size<w'.heap.size)\/((E nm).isNil=false/\e.b=(E nm).b))
  (hb:dE S.P 0 ⟨w',D,upM σ.m [(nm,b)],upE E nm e⟩ e b) (hpr:∀i k,rowsOf e b i k->rowsOf (E nm) b0 i k:=by(intro i k h;obtain⟨_,_,_,_,_,_,h,_⟩:=h;cases h)):
  aH S ⟨σ.T,upM σ.m [(nm,b)],σ.sv⟩ a w' D (upE E nm e):=by
 have hs:=h.low.size;have old:∀k b',upM σ.m [(nm,b)] k=some b'->(k=nm/\b'=b)\/(k≠nm/\σ.m k=some b'):=λk b' hk=>by
  rw[cO]at hk;split at hk
  .rename_i ek;cases hk;exact .inl ⟨ek,rfl⟩
  .rename_i ek;exact .inr ⟨ek,hk⟩
 have hEo:∀k,k≠nm->upE E nm e k=E k:=λk hk=>by simp[upE,hk]
 have hEn:upE E nm e nm=e:=by simp[upE]
 have hD:∀b,D b->w'.heap[b]?=w.heap[b]?:=λk hk=>hw k (h.dlt k hk) λhi ek=>(h.own nm b0 hm hi).2.2 (ek▸hk)
 have hlow:Chg S.O S.w0 w':=h.low.step hos htape hout hsize λk hk hno=>hw k (qN hk hs) λhi ek=>by
  rcases(h.own nm b0 hm hi).1 with g | g
  .omega
  .exact hno (ek▸g)
 refine h.go (m':=upM σ.m [(nm,b)]) ⟨λb hb=>hb,hD⟩ (λk=>.inl λb' hb'=>?_) (λk b' hk=>?_) (λk b' hk hi=>?_) (λk k' b1 b2 hk hk' hi hi' hbb=>?_)
  hlow (λb hb=>qN (h.dlt b hb) hsize) (λb hb=>.inl hb)
  (h.pv.step (λk i r hr=>by
   obtain⟨b',g1,g2⟩:=aI.1 hr;rcases old k b' g1 with⟨rfl,rfl⟩ | ⟨q1,q2⟩
   .rw[hEn]at g2;exact aI.2 ⟨b0,hm,hpr i r g2⟩
   .rw[hEo k q1]at g2;exact aI.2 ⟨b',q2,g2⟩) hsize (λb hb=>.inl hb) λk b' hk hi=>by
   rcases old k b' hk with⟨rfl,rfl⟩ | ⟨q1,q2⟩
   .rw[hEn]at hi ⊢;rcases he hi with⟨q3,_⟩ | ⟨q3,q4⟩
    .exact .inl (zV q3.symm)
    .exact .inr ⟨k,b0,hm,q3,q4⟩
   .rw[hEo k q1]at hi ⊢;exact .inr ⟨k,b',q2,hi,rfl⟩)
 .rcases old k b' hb' with⟨rfl,rfl⟩ | ⟨g1,g2⟩
  .exact⟨b0,hm,hes,hlen,λe'=>hEn.trans (hsame e')⟩
  .exact⟨b',g2,rfl,qJ _,λ_=>hEo k g1⟩
 .rcases old k b' hk with⟨rfl,rfl⟩ | ⟨g1,g2⟩
  .right;rw[hEn];exact hb
  .left
   refine⟨g2,hEo k g1,λhi=>hw _ (h.own k b' g2 hi).2.1 λhi' ek=>g1 (h.inj k nm b' b0 g2 hm hi hi' ek),λi r hr=>hw _ (h.pv.lt g2 hr) λhi' ek=>?_⟩;exact h.pv.ent k i r (aI.2 ⟨b',g2,hr⟩) nm b0 hm hi' ek.symm
 .rcases old k b' hk with⟨rfl,rfl⟩ | ⟨g1,g2⟩
  .rw[hEn]at hi ⊢;rcases he hi with⟨g3,g4⟩ | ⟨g3,g4⟩
   .rw[g3];exact⟨.inl hs,g4,λhd=>yS _ (h.dlt _ hd)⟩
   .rw[g4];obtain⟨g5,g6,g7⟩:=h.own k b0 hm g3;exact⟨g5,qN g6 hsize,g7⟩
  .rw[hEo k g1]at hi ⊢;obtain⟨g3,g4,g5⟩:=h.own k b' g2 hi;exact⟨g3,qN g4 hsize,g5⟩
 .have key:∀k' b2,k'≠nm->σ.m k'=some b2->(E k').isNil=false->e.isNil=false->e.b=(E k').b->False:=λk' b2 g3 g4 hi' hi hbb=>by
   rcases he hi with⟨g5,_⟩ | ⟨g5,g6⟩
   .have:=(h.own k' b2 g4 hi').2.1;rw[<- hbb,g5]at this;exact yS _ this
   .exact g3 (h.inj k' nm b2 b0 g4 hm hi' g5 (hbb.symm.trans g6))
  rcases old k b1 hk with⟨rfl,rfl⟩ | ⟨g1,g2⟩<;>rcases old k' b2 hk' with⟨rfl,rfl⟩ | ⟨g3,g4⟩
  .rfl
  .rw[hEn]at hi hbb;rw[hEo k' g3]at hi' hbb;exact(key k' b2 g3 g4 hi' hi hbb).elim
  .rw[hEn]at hi' hbb;rw[hEo k g1]at hi hbb;exact(key k b1 g1 g2 hi hi' hbb.symm).elim
  .rw[hEo k g1]at hi hbb;rw[hEo k' g3]at hi' hbb;exact h.inj k k' b1 b2 g2 g4 hi hi' hbb
theorem aH.turnLater {S:Base} {σ:Sig} {a:Act} {w w':World} {D:Nat->Prop} {E:Nat->Ent} (h:aH S σ a w D E) {nm:Nat} {b0 b:Blk} (hm:σ.m nm=some b0) {e:Ent}
  (hes:b0.es=b.es) (hlen:b0.len<=b.len) (hsame:b0.len=b.len->e=E nm)
  (hw:∀k,k<w.heap.size->((E nm).isNil=false->k≠(E nm).b)->w'.heap[k]?=w.heap[k]?):
  Later ⟨w,D,σ.m,E⟩ ⟨w',D,upM σ.m [(nm,b)],upE E nm e⟩/\∀k,nb ⟨w,D,σ.m,E⟩ ⟨w',D,upM σ.m [(nm,b)],upE E nm e⟩ k:=by
 refine⟨⟨λb hb=>hb,λk hk=>hw k (h.dlt k hk) λhi ek=>(h.own nm b0 hm hi).2.2 (ek▸hk)⟩,λk b' hb'=>?_⟩;replace hb':upM σ.m [(nm,b)] k=some b':=hb';rw[cO]at hb';split at hb'
 .rename_i ek;subst ek;cases hb';exact⟨b0,hm,hes,hlen,λe'=>by show upE E k e k=E k;simp[upE];exact hsame e'⟩
 .rename_i ek;exact⟨b',hb',rfl,qJ _,λ_=>by show upE E nm e k=E k;simp[upE,ek]⟩
end Go.Eng
namespace Go.Eng
open Go.RowKit
def Yields(S:Base)(σ':Sig)(a:Act)(x:AV)(r:Result Next): Prop:=
 (∃v w',r=.ok (.value v) w'/\Outcome S σ' a x v w')\/(∃w',r=.ok .skip w'/\Outcome S σ' a x undef w') \/
 (∃f args w',r=.ok (.enter f args) w'/\Calls S.P f args w' λe w''=>∃v,e=.returned v/\Outcome S σ' a x v w'')
def I2(P:Program)(t:TypeId): Option Ty:=match aDv P 12 t with
 | some ty=>if sizeT P t=some ty.sz then some ty else none
 | none=>none
theorem Ao{P:Program}{t:TypeId}{ty:Ty}(h:I2 P t=some ty): sizeT P t=some ty.sz:=by
 unfold I2 at h;split at h
 .split at h
  .rename_i hs;cases h;exact hs
  .cases h
 .cases h
def aEP(P:Program)(mt:Bool)(nx:Nat)(elem:TypeId)(p:RV): Option Core:=
 match Bo p with
 | some ns=>match mt,I2 P elem with
  | false,some ty=>match cF ty (cw p.1)with
   | some (x,[])=>some {need:=ns,val:=.ip ty x}
   | _=>some {need:=ns,val:=.ptr nx 1 0 0,upd:=[(nx,.var (cw p.1))],new:=some nx}
  | _,_=>some {need:=ns,val:=.ptr nx 1 0 0,upd:=[(nx,.var (cw p.1))],new:=some nx}
 | none=>none
theorem V7{S:Base}{σ:Sig}{a:Act}{w:World}{D:Nat->Prop}{E:Nat->Ent}(h:aH S σ a w D E){nx:Nat}(hu:Unm nx σ){cs:List AV}{us:Lv}(el:TypeId)
  (hr:AV.relL S.P ⟨w,D,σ.m,E⟩ cs us) (hnm:nx∉AV.namesL cs):
  Outcome S ⟨σ.T,upM σ.m [(nx,.var cs)],σ.sv⟩ a (.ptr nx 1 0 0) (.pointer (some ⟨w.heap.size,0,none⟩)) (w.alloc (.cells us.toArray el)):=by
 have e1:(w.alloc (.cells us.toArray el)).heap.size=w.heap.size+1:=zO _ _;have hbel:Below w.heap.size w (w.alloc (.cells us.toArray el)):=⟨rfl,rfl,rfl,by rw[e1];omega,λk hk=>yV w _ k hk⟩;have hlat:Later ⟨w,D,σ.m,E⟩ ⟨w.alloc (.cells us.toArray el),D,upM σ.m [(nx,.var cs)],upE E nx ⟨w.heap.size,0,false,noR⟩⟩:=
  ⟨λb hb=>hb,λb hb=>hbel.block b (h.dlt b hb)⟩
 refine⟨D,upE E nx ⟨w.heap.size,0,false,noR⟩,h.newBlk hu hbel (λ_=>⟨rfl,by rw[e1];omega⟩) ⟨rfl,us.toArray,el,heap_alloc_new w _,?_⟩,λb hb=>?_⟩
 .refine AV.relL_mono hlat (λk hk b' hb'=>?_) (by simpa using hr);have ek:k≠nx:=λe=>hnm (e▸hk)
  replace hb':upM σ.m [(nx,.var cs)] k=some b':=hb';rw[cO,if_neg ek]at hb';exact⟨b',hb',rfl,qJ _,λ_=>by show upE E nx _ k=E k;simp[upE,ek]⟩
 .replace hb:upM σ.m [(nx,.var cs)] nx=some b:=hb;rw[cO,if_pos rfl]at hb;cases hb;have e3:upE E nx (⟨w.heap.size,0,false,noR⟩:Ent) nx=⟨w.heap.size,0,false,noR⟩:=by simp[upE]
  refine⟨qJ _,λ_=>⟨by omega,?_,?_⟩⟩
  .show(upE E nx _ nx).isNil=false;rw[e3]
  .show _=Value.pointer (some ⟨(upE E nx _ nx).b,_,_⟩);rw[e3];simp
theorem Zo{S:Base}{σ:Sig}{a:Act}{w:World}{D:Nat->Prop}{E:Nat->Ent}(h:aH S σ a w D E){mt:Bool}{nx:Nat}{elem:TypeId}{p:RV}{c:Core}{v:Value}
  (hb:p.2=ct σ.m p.1) (hc:aEP S.P mt nx elem p=some c) (hn:∀q∈c.need,q) (hu:∀k,c.new=some k->Unm k σ/\k∉AV.namesL (cw p.1)) (hp:p.1.rel S.P ⟨w,D,σ.m,E⟩ v):
  ∃r w',(Instr.box elem v).run S.P w=.ok r w'/\Outcome S ⟨σ.T,upM σ.m c.upd,σ.sv⟩ a c.val r w':=by
 have run:∀us:Lv,v.cells=us.toArray->(Instr.box elem v).run S.P w=.ok (.pointer (some ⟨w.heap.size,0,none⟩)) (w.alloc (.cells us.toArray elem)):=by
  intro us hus;simp[Instr.box,newVar,newRow,hus]
 have var:∀ns,Bo p=some ns->c={need:=ns,val:=.ptr nx 1 0 0,upd:=[(nx,.var (cw p.1))],new:=some nx}->
   ∃r w',(Instr.box elem v).run S.P w=.ok r w'/\Outcome S ⟨σ.T,upM σ.m c.upd,σ.sv⟩ a c.val r w':=by
  intro ns h1 hc;subst hc;obtain⟨us,g1,g2,_⟩:=my hb h1 hn hp;obtain⟨u1,u2⟩:=hu nx rfl;exact⟨_,_,run us g1,V7 h u1 elem g2 u2⟩
 unfold aEP at hc;split at hc
 .rename_i ns h1;split at hc
  .split at hc
   .rename_i x hx;cases hc;obtain⟨us,g1,g2,_⟩:=my hb h1 hn hp;obtain⟨u1,u2,e,r1,r2⟩:=cm hx g2;simp only[AV.relL]at r2;subst r2;simp only[wH]at e;subst e;refine⟨_,_,run _ g1,λb=>D b\/b=w.heap.size,E,h.newData _,w.heap.size,0,us,rfl,.inr rfl,?_,?_⟩
    .intro j u hj;rw[wY];show(w.alloc _).cell? ⟨w.heap.size,j,none⟩=some u;rw[kC];simpa using hj
    .exact al (λb hb=>.inl hb) (λb hb=>yV w _ b (h.dlt b hb)) r1
   .cases hc;exact var _ h1 rfl
  .cases hc;exact var _ h1 rfl
 .cases hc
def PX(P:Program)(nx:Nat)(elem:TypeId): Option Core:=
 match(P.info? elem).bind (·.zero)with
 | some z=>some {val:=.ptr nx 1 0 0,upd:=[(nx,.var (z.cells.toList.map Bv))],new:=some nx}
 | none=>none
theorem qw: ∀l:Lv,AV.namesL (l.map Bv)=[]
 | []=>rfl
 | v::l=>by
  simp only[zH,AV.namesL,qw l,wH];cases v<;>rfl
theorem pz{P:Program}{C:Ctx}: ∀l:Lv,AV.relL P C (l.map Bv) l
 | []=>rfl
 | v::l=>⟨v,l,rfl,Bt v,pz l⟩
theorem PU{S:Base}{σ:Sig}{a:Act}{w:World}{D:Nat->Prop}{E:Nat->Ent}(h:aH S σ a w D E){nx:Nat}{elem:TypeId}{c:Core}
  (hc:PX S.P nx elem=some c) (hu:∀k,c.new=some k->Unm k σ):
  ∃r w',(Instr.alloc elem true (.tuple #[])).run S.P w=.ok r w'/\Outcome S ⟨σ.T,upM σ.m c.upd,σ.sv⟩ a c.val r w':=by
 unfold PX at hc;split at hc
 .rename_i z hz;cases hc;cases hi:S.P.info? elem with
  | none=>rw[hi]at hz;cases hz
  | some i=>
   have hz':i.zero=some z:=by rw[hi]at hz;exact hz
   refine⟨_,w.alloc (.cells z.cells elem),?_,V7 h (hu nx rfl) elem (us:=z.cells.toList) (pz _) (by rw[qw];simp)⟩;simp[Instr.alloc,zeroValue,typeInfo,hi,hz',newVar,newRow]
 .cases hc
theorem yc{P:Program}{C:Ctx}{cs new:List AV}{us vs:Lv}(h:AV.relL P C cs us)(hn:AV.relL P C new vs)(c:Nat)(hc:c+new.length<=cs.length):
  AV.relL P C (cs.take c++new++cs.drop (c+new.length)) (us.take c++vs++us.drop (c+vs.length)):=by
 rw[AV.relL_length hn];exact AV.relL_append (AV.relL_append (AV.relL_take h _) hn) (AV.relL_drop h _)
def rp(el:TypeId)(t:Ty)(xs:List t.den)(i:Nat)(y:t.den): Blk:=.buf el t (En xs i y) []
def pW(el:TypeId)(t:Ty)(xs:List t.den)(i:Nat)(v:AV): Blk:=.buf el t xs [(i,v)]
def HS: AV->Bool
 | .agg _=>true
 | _=>false
def MP(P:Program)(t:TypeId)(p v:RV): Option Core:=
 match Bo v,sizeT P t with
 | some ns,some k=>
  if k=(cw v.1).length then
   match p with
   | (.ptr nm g i c,some (.var cs))=>
    if c+(cw v.1).length<=cs.length then
     some {need:=[1=g,i=0]++ns,val:=.val undef,upd:=[(nm,.var (cs.take c++cw v.1++cs.drop (c+(cw v.1).length)))]}
    else none
   | (.ptr nm g i c,some (.buf el ty xs []))=>
    let old:=cellsOf ty (Du xs i ty.dflt)
    if c+(cw v.1).length<=ty.sz then
     match cF ty (old.take c++cw v.1++old.drop (c+(cw v.1).length))with
     | some (y,[])=>some {need:=[xs.length=g]++ns,val:=.val undef,upd:=[(nm,rp el ty xs i y)]}
     | _=>if ty.sz=1/\c=0/\HS v.1=false then some {need:=[xs.length=g]++ns,val:=.val undef,upd:=[(nm,pW el ty xs i v.1)]} else none
    else none
   | (.ptr nm g i c,some (.buf el ty xs [(j,_)]))=>
    if ty.sz=1/\c=0/\HS v.1=false then
     match cF ty (cw v.1)with
     | some (y,[])=>some {need:=[xs.length=g,i=j]++ns,val:=.val undef,upd:=[(nm,rp el ty xs i y)]}
     | _=>some {need:=[xs.length=g,i=j]++ns,val:=.val undef,upd:=[(nm,pW el ty xs i v.1)]}
    else none
   | _=>none
  else none
 | _,_=>none
theorem ff{P:Program}{w:World}{t:TypeId}{g o:Nat}{cur:Array Value}{el:TypeId}{u:Value}{us:Lv}(hg:w.heap[g]?=some (.cells cur el (0,0)))
  (hs:sizeT P t=some us.length) (hu:u.cells=us.toArray) (hl:o+us.length<=cur.size) (h1:∀v∈us,v.oneCell'=true):
  (Instr.storeAt t (.pointer (some ⟨g,o,none⟩)) u).run P w=.ok () (w.setRow g (cur.toList.take o++us++cur.toList.drop (o+us.length)).toArray):=by
 have h2:=run_storeCells_at (P:=P) g o el us 0 cur w hg (by simpa using hl) h1;have h3:=bA hs w;simp only[yU]at h2;simp[Instr.storeAt,Instr.sureAddr,storeVar,hu,h3,h2]
theorem eQ{w:World}{base:Nat}{el:TypeId}{sz n:Nat}{g cap:Nat}{raw:Lv}(h:w.ownsRow base el sz (.slice (some ⟨g,0,none⟩) n cap) n raw)(o:Nat)(us:Lv)
  (hl:o+us.length<=n*sz):∃cur,w.heap[g]?=some (.cells cur el (0,0))/\o+us.length<=cur.size/\
   (w.setRow g (cur.toList.take o++us++cur.toList.drop (o+us.length)).toArray).ownsRow base el sz (.slice (some ⟨g,0,none⟩) n cap) n (raw.take o++us++raw.drop (o+us.length)):=by
 rcases h.2 with⟨hv,_⟩ | ⟨g',cap',cur,hv,hb,hh,hnc,hcm,hcs,htake⟩
 .cases hv
 .simp only[zM,vZ,gG,vP,zS]at hv;obtain⟨rfl,rfl⟩:=hv;have hrl:=h.1;have hcl:n*sz<=cur.size:=by rw[hcs];exact vU _ hnc
  refine⟨cur,hh,by omega,⟨?_,.inr ⟨g,cap,_,rfl,hb,qDp w g cur _ el _ hh,hnc,hcm,?_,?_⟩⟩⟩
  .simp only[qG,qI,vY];omega
  .simp only[gI,qG,qI,vY,vI];omega
  .rw[<- htake];simp only[qDc,qI,qG,vI,qCm,qCn];rw[show min o cur.size=o by omega,show n*sz-o=us.length+(n*sz-(o+us.length)) by omega];rw[show min (n*sz) o=o by omega,show min o (n*sz)=o by omega]
   congr 1
   .congr 1
    rw[qO (by omega)]
theorem nH{P:Program}{C:Ctx}{t:Ty}{xs:List t.den}{raw us:Lv}{i:Nat}{y:t.den}(hrl:raw.length=xs.length*t.sz)(hi:i<xs.length)
  {ov:List (Nat×AV)} (hov:∀k a,ov.lookup k=some a->k=i) (h:bW P C t xs ov raw) (hu:us.length=t.sz) (hy:ah C.w C.D t y us):
  bW P C t (xs.set i y) [] (raw.take (i*t.sz)++us++raw.drop (i*t.sz+us.length)):=by
 have hp:=Ty.sz_pos t;have hmul:∀j,j<xs.length->j*t.sz+t.sz<=xs.length*t.sz:=λj hj=>by
  have:=vU t.sz (show j+1<=xs.length from hj);rw[zG,zT]at this;exact this
 have him:=hmul i hi;intro k z hz;simp only[List.lookup];rw[yX]at hz;split at hz
 .rename_i ek;subst ek
  .cases hz;have e:((raw.take (i*t.sz)++us++raw.drop (i*t.sz+us.length)).drop (i*t.sz)).take t.sz=us:=by
    rw[wG,kS (by rw[qI];omega),zN (by rw[qI];omega),xM,<- hu,List.take_left'];rfl
   rw[e];exact hy
 .rename_i ek;have hk:k<xs.length:=(qF.1 hz).1;have g:=h k z hz;have hlk:ov.lookup k=none:=by
   cases ho:ov.lookup k with
   | none=>rfl
   | some a=>exact(ek (hov k a ho).symm).elim
  rw[hlk]at g;have hkm:=hmul k hk;have e:((raw.take (i*t.sz)++us++raw.drop (i*t.sz+us.length)).drop (k*t.sz)).take t.sz=(raw.drop (k*t.sz)).take t.sz:=by
   apply xK;intro q;simp only[vM,qY];split
   .rename_i hq;rcases zC k i with hlt | hge
    .have h3:k*t.sz+q<i*t.sz:=by
      have:=vU t.sz (show k+1<=i from hlt);rw[zG,zT]at this;omega
     rw[wG,vJ (by rw[qI];omega),vM,if_pos h3]
    .have h3:i*t.sz+t.sz<=k*t.sz:=by
      have:=vU t.sz (show i+1<=k by omega);rw[zG,zT]at this;omega
     rw[qW (by rw[qG,qI];omega),qY]
     congr 1
     rw[qG,qI];omega
   .rfl
  rw[e];exact g
theorem ru{P:Program}{C:Ctx}{t:Ty}{xs:List t.den}{raw:Lv}{u:Value}{i:Nat}{a:AV}(hrl:raw.length=xs.length*t.sz)(hi:i<xs.length)(h1:t.sz=1)
  {ov:List (Nat×AV)} (hov:∀k a,ov.lookup k=some a->k=i) (h:bW P C t xs ov raw) (hu:u.oneCell'=true) (hy:a.rel P C u):
  bW P C t xs [(i,a)] (raw.take (i*t.sz)++[u]++raw.drop (i*t.sz+[u].length)):=by
 intro k z hz;have hk:k<xs.length:=(qF.1 hz).1;rw[h1]at hrl ⊢;simp only[yI,vX]at hrl ⊢;simp only[List.lookup];by_cases ek:k=i
 .subst ek;simp only[yH];refine⟨trivial,u,?_,hu,hy⟩;rw[wG,qW (by rw[qI];omega),qI];rw[show k-min k raw.length=0 by omega];rfl
 .have hb:(k==i)=false:=by simpa using ek
  simp only[hb];have g:=h k z hz;have hlk:ov.lookup k=none:=by
   cases ho:ov.lookup k with
   | none=>rfl
   | some a=>exact(ek (hov k a ho)).elim
  rw[hlk,h1]at g;simp only[yI]at g;have e:((raw.take i++[u]++raw.drop (i+1)).drop k).take 1=(raw.drop k).take 1:=by
   apply xK;intro q;simp only[vM,qY];split
   .rename_i hq;have:q=0:=by omega
    subst this;simp only[yU];rcases zC k i with hlt | hge
    .rw[wG,vJ (by rw[qI];omega),vM,if_pos hlt]
    .rw[qW (by rw[qG,qI,vX];omega),qY]
     congr 1
     rw[qG,qI,vX];omega
   .rfl
  rw[e];exact g
theorem aBh{α:Type}(raw us:List α)(o c n:Nat)(hc:c+us.length<=n)(hr:o+n<=raw.length):
  raw.take o++((((raw.drop o).take n).take c)++us++((raw.drop o).take n).drop (c+us.length))++raw.drop (o+n)=raw.take (o+c)++us++raw.drop (o+c+us.length):=by
 have h1:raw.take (o+c)=raw.take o++(raw.drop o).take c:=List.take_add;have h2:raw.drop (o+c+us.length)=((raw.drop o).take n).drop (c+us.length)++raw.drop (o+n):=by
  have h3:raw.drop o=(raw.drop o).take n++raw.drop (o+n):=by
   rw[<- yG,xA]
  have h4:raw.drop (o+c+us.length)=(raw.drop o).drop (c+us.length):=by rw[yG];congr 1;omega
  rw[h4]
  conv=>lhs;rw[h3]
  rw[kS (by rw[qI,vY];omega)]
 rw[h1,h2,qCm,yY (by omega)];simp only[wG]
theorem aH.stored {S:Base} {σ:Sig} {a:Act} {w:World} {D:Nat->Prop} {E:Nat->Ent} (h:aH S σ a w D E) {nm:Nat} {b0 b:Blk} (hm:σ.m nm=some b0) (hnil:(E nm).isNil=false)
  (hes:b0.es=b.es) (hlen:b0.len=b.len) (cs:Array Value)
  (hb:∀C',Later ⟨w,D,σ.m,E⟩ C'->(∀k,nb ⟨w,D,σ.m,E⟩ C' k)->C'.w=w.setRow (E nm).b cs->dE S.P 0 C' (E nm) b) (hpr:∀i k,rowsOf (E nm) b i k->rowsOf (E nm) b0 i k:=by(intro i k h;obtain⟨_,_,_,_,_,_,h,_⟩:=h;cases h)):
  ∃D' E',aH S ⟨σ.T,upM σ.m [(nm,b)],σ.sv⟩ a (w.setRow (E nm).b cs) D' E':=by
 have hw:∀k,k<w.heap.size->((E nm).isNil=false->k≠(E nm).b)->(w.setRow (E nm).b cs).heap[k]?=w.heap[k]?:=λk _ hk=>setRow_other w _ k cs (hk hnil)
 obtain⟨L,N⟩:=h.turnLater (w':=w.setRow (E nm).b cs) (b:=b) hm (e:=E nm) hes (zV hlen) (λ_=>rfl) hw;exact⟨D,upE E nm (E nm),h.turnBlk (w':=w.setRow (E nm).b cs) hm (e:=E nm) hes (zV hlen) (λ_=>rfl) rfl rfl rfl (by simp) hw (λhi=>.inr ⟨hi,rfl⟩) (hb _ L N rfl) hpr⟩
theorem MO{S:Base}{σ:Sig}{a:Act}{w:World}{D:Nat->Prop}{E:Nat->Ent}(h:aH S σ a w D E){t:TypeId}{p v:RV}{c:Core}{vp u:Value}
  (hbp:p.2=ct σ.m p.1) (hbv:v.2=ct σ.m v.1) (hc:MP S.P t p v=some c) (hn:∀q∈c.need,q)
  (hp:p.1.rel S.P ⟨w,D,σ.m,E⟩ vp) (hv:v.1.rel S.P ⟨w,D,σ.m,E⟩ u):
  c.new=none/\c.val=.val undef/\∃w',(Instr.storeAt t vp u).run S.P w=.ok () w'/\∃D E,aH S ⟨σ.T,upM σ.m c.upd,σ.sv⟩ a w' D E:=by
 unfold MP at hc;split at hc
 case h_2=>cases hc
 rename_i ns k hone hsz;split at hc
 case isFalse=>cases hc
 rename_i hk;have ones:(∀q∈ns,q)->∃us:Lv,u.cells=us.toArray/\AV.relL S.P ⟨w,D,σ.m,E⟩ (cw v.1) us/\∀z∈us,z.oneCell'=true:=λhns=>my hbv hone hns hv
 have ptr:∀nm g i c0 b,p.1=.ptr nm g i c0->σ.m nm=some b->b.len=g->i<g/\(E nm).isNil=false/\vp=.pointer (some ⟨(E nm).b,i*b.es+c0,none⟩):=λnm g i c0 b hpe hm hl=>by
  rw[hpe]at hp;exact(hp b hm).2 hl
 split at hc
 .rename_i nm g i c0 cs;have hm:σ.m nm=some (.var cs):=hbp.symm;split at hc
  case isFalse=>cases hc
  rename_i hfit;cases hc;obtain⟨us,g1,g2,g3⟩:=ones (λq hq=>hn q (by simp[hq]));have e1:1=g:=hn _ (by simp);have e2:i=0:=hn _ (by simp);subst e2;obtain⟨_,hnil,ev⟩:=ptr nm g 0 c0 _ rfl hm e1;have ev':vp=.pointer (some ⟨(E nm).b,c0,none⟩):=by rw[ev,yR,wY]
  obtain⟨_,cur,el,r1,r2⟩:=h.bl nm _ hm;have hl1:=AV.relL_length g2;have hl2:=AV.relL_length r2;have hcur:c0+us.length<=cur.size:=by
   have hf:=hfit;rw[hl1,hl2,vI]at hf;exact hf
  have hrun:=ff (P:=S.P) (t:=t) (o:=c0) r1 (by rw[hsz,hk,hl1]) g1 hcur g3;refine⟨rfl,rfl,w.setRow (E nm).b (cur.toList.take c0++us++cur.toList.drop (c0+us.length)).toArray,by rw[ev'];exact hrun,?_⟩;have hes:(Blk.var cs).es=(Blk.var (cs.take c0++cw v.1++cs.drop (c0+(cw v.1).length))).es:=by
   simp only[Blk.es,qG,qI,vY];omega
  refine aH.stored h hm hnil hes rfl (cur.toList.take c0++us++cur.toList.drop (c0+us.length)).toArray λC' L N hw=>?_
  refine⟨hnil,(cur.toList.take c0++us++cur.toList.drop (c0+us.length)).toArray,el,by rw[hw];exact qDp w _ cur _ el _ r1,?_⟩;exact yc (AV.relL_mono L (λk _=>N k) r2) (AV.relL_mono L (λk _=>N k) g2) c0 (by omega)
 .rename_i nm g i c0 el ty xs;have hm:σ.m nm=some (.buf el ty xs []):=hbp.symm;simp only[]at hc;split at hc
  case isFalse=>cases hc
  rename_i hfit;have both:(∀q∈ns,q)->xs.length=g->i<xs.length/\∃us raw cur,(E nm).isNil=false/\u.cells=us.toArray/\AV.relL S.P ⟨w,D,σ.m,E⟩ (cw v.1) us/\(∀z∈us,z.oneCell'=true)/\
    raw.length=xs.length*ty.sz/\bW S.P ⟨w,D,σ.m,E⟩ ty xs [] raw/\us.length=(cw v.1).length/\
    (Instr.storeAt t vp u).run S.P w=.ok () (w.setRow (E nm).b cur)/\
    (w.setRow (E nm).b cur).ownsRow 0 el ty.sz ((E nm).handle xs.length) xs.length (raw.take (i*ty.sz+c0)++us++raw.drop (i*ty.sz+c0+us.length)):=by
   intro hns e1;obtain⟨us,g1,g2,g3⟩:=ones hns;obtain⟨hi,hnil,e⟩:=ptr nm g i c0 _ rfl hm e1;obtain⟨raw,r1,r2⟩:=h.bl nm _ hm;have hi':i<xs.length:=by omega
   have hl1:=AV.relL_length g2;have hhd:(E nm).handle xs.length=.slice (some ⟨(E nm).b,0,none⟩) xs.length (E nm).cap:=by unfold Ent.handle;rw[hnil];rfl
   rw[hhd]at r1;have hmul:i*ty.sz+ty.sz<=xs.length*ty.sz:=by
    have:=vU ty.sz (show i+1<=xs.length from hi');rw[zG,zT]at this;exact this
   obtain⟨cur,q1,q2,q3⟩:=eQ r1 (i*ty.sz+c0) us (by omega);refine⟨hi',us,raw,_,hnil,g1,g2,g3,r1.1,r2,hl1.symm,?_,by rw[hhd];exact q3⟩;rw[e];exact ff q1 (by rw[hsz,hk,hl1]) g1 q2 g3
  split at hc
  .rename_i y hy;cases hc;obtain⟨hi,us,raw,cur,hnil,_,g2,_,hrl,r2,hul,hrun,hown⟩:=both (λq hq=>hn q (by simp[hq])) (hn _ (by simp));refine⟨rfl,rfl,_,hrun,h.stored hm hnil (by simp[rp,Blk.es]) (by simp[rp,Blk.len]) cur λC' L N hw=>?_⟩;have hx:=r2 i _ (getElem?_getD (d:=ty.dflt) hi);simp only[List.lookup]at hx;have hmul:i*ty.sz+ty.sz<=xs.length*ty.sz:=by
    have:=vU ty.sz (show i+1<=xs.length from hi);rw[zG,zT]at this;exact this
   have hol:=b7 (P:=S.P) (C:=⟨w,D,σ.m,E⟩) hx;have hnew:=yc hol g2 c0 (by have:=AV.relL_length hol;rw[qI,vY]at this;omega);obtain⟨u1,u2,e,q1,q2⟩:=cm hy hnew;simp only[AV.relL]at q2;subst q2;simp only[wH]at e;have q1':ah C'.w C'.D ty y u1:=al L.D L.w q1;have hul1:=aS q1;refine⟨raw.take (i*ty.sz+c0)++us++raw.drop (i*ty.sz+c0+us.length),by rw[hw];simpa[rp]using hown,?_⟩
   have fin:=nH (ov:=[]) hrl hi (λk a hk=>by simp at hk) (bj L (λk _=>N k) r2) hul1 q1';have e3:raw.take (i*ty.sz)++u1++raw.drop (i*ty.sz+u1.length)=raw.take (i*ty.sz+c0)++us++raw.drop (i*ty.sz+c0+us.length):=by
    rw[hul1,<- e];have hseg:=aBh raw us (i*ty.sz) c0 ty.sz (by omega) (by omega);exact hseg
   rw[<- e3];exact fin
  .split at hc
   case isFalse=>cases hc
   rename_i hone1;obtain⟨hz1,hc0,hagg⟩:=hone1;cases hc;obtain⟨hi,us,raw,cur,hnil,_,g2,g3,hrl,r2,hul,hrun,hown⟩:=both (λq hq=>hn q (by simp[hq])) (hn _ (by simp));obtain⟨z,hz,hzr⟩:∃z,us=[z]/\v.1.rel S.P ⟨w,D,σ.m,E⟩ z:=by
    have hcv:cw v.1=[v.1]:=by
     cases hq:v.1<;>first | rfl | (rw[hq]at hagg;cases hagg)
    rw[hcv]at g2;obtain⟨z,us',e,q1,q2⟩:=g2;simp only[AV.relL]at q2;subst q2;exact⟨z,e,q1⟩
   subst hz hc0;refine⟨rfl,rfl,_,hrun,h.stored hm hnil (by simp[pW,Blk.es]) (by simp[pW,Blk.len]) cur λC' L N hw=>?_⟩;refine⟨raw.take (i*ty.sz+0)++[z]++raw.drop (i*ty.sz+0+[z].length),by rw[hw];exact hown,?_⟩;exact ru (ov:=[]) hrl hi hz1 (λk a hk=>by simp at hk) (bj L (λk _=>N k) r2) (g3 z (by simp)) (AV.rel_mono L (λk _=>N k) hzr)
 .rename_i nm g i c0 el ty xs j av;have hm:σ.m nm=some (.buf el ty xs [(j,av)]):=hbp.symm;split at hc
  case isFalse=>cases hc
  rename_i hone1;obtain⟨hz1,hc0,hagg⟩:=hone1;subst hc0;have hov:i=j->∀k a,List.lookup k [(j,av)]=some a->k=i:=λe k a hk=>by
   simp only[List.lookup]at hk;split at hk
   .rename_i hkj;rw[e];simpa using hkj
   .cases hk
  have both:(∀q∈ns,q)->xs.length=g->i<xs.length/\∃z raw cur,(E nm).isNil=false/\v.1.rel S.P ⟨w,D,σ.m,E⟩ z/\AV.relL S.P ⟨w,D,σ.m,E⟩ (cw v.1) [z]/\z.oneCell'=true/\
    raw.length=xs.length*ty.sz/\bW S.P ⟨w,D,σ.m,E⟩ ty xs [(j,av)] raw/\
    (Instr.storeAt t vp u).run S.P w=.ok () (w.setRow (E nm).b cur)/\
    (w.setRow (E nm).b cur).ownsRow 0 el ty.sz ((E nm).handle xs.length) xs.length (raw.take (i*ty.sz)++[z]++raw.drop (i*ty.sz+[z].length)):=by
   intro hns e1;obtain⟨us,g1,g2,g3⟩:=ones hns;obtain⟨z,hz,hzr⟩:∃z,us=[z]/\v.1.rel S.P ⟨w,D,σ.m,E⟩ z:=by
    have hcv:cw v.1=[v.1]:=by
     cases hq:v.1<;>first | rfl | (rw[hq]at hagg;cases hagg)
    rw[hcv]at g2;obtain⟨z,us',e,q1,q2⟩:=g2;simp only[AV.relL]at q2;subst q2;exact⟨z,e,q1⟩
   subst hz;obtain⟨hi,hnil,e⟩:=ptr nm g i 0 _ rfl hm e1;obtain⟨raw,r1,r2⟩:=h.bl nm _ hm;have hi':i<xs.length:=by omega
   have hl1:=AV.relL_length g2;have hhd:(E nm).handle xs.length=.slice (some ⟨(E nm).b,0,none⟩) xs.length (E nm).cap:=by unfold Ent.handle;rw[hnil];rfl
   rw[hhd]at r1;have hmul:i*ty.sz+ty.sz<=xs.length*ty.sz:=by
    have:=vU ty.sz (show i+1<=xs.length from hi');rw[zG,zT]at this;exact this
   obtain⟨cur,q1,q2,q3⟩:=eQ r1 (i*ty.sz) [z] (by rw[vX];omega);refine⟨hi',z,raw,_,hnil,hzr,g2,g3 z (by simp),r1.1,r2,?_,by rw[hhd];exact q3⟩;have e':vp=.pointer (some ⟨(E nm).b,i*ty.sz,none⟩):=by rw[e];rfl
   rw[e'];exact ff q1 (by rw[hsz,hk,hl1]) g1 q2 g3
  split at hc
  .rename_i y hy;cases hc;obtain⟨hi,z,raw,cur,hnil,hzr,g2,_,hrl,r2,hrun,hown⟩:=both (λq hq=>hn q (by simp[hq])) (hn _ (by simp));have eij:i=j:=hn _ (by simp);refine⟨rfl,rfl,_,hrun,h.stored hm hnil (by simp[rp,Blk.es]) (by simp[rp,Blk.len]) cur λC' L N hw=>?_⟩;obtain⟨u1,u2,e,q1,q2⟩:=cm hy g2;simp only[AV.relL]at q2;subst q2;simp only[wH]at e;subst e
   refine⟨raw.take (i*ty.sz)++[z]++raw.drop (i*ty.sz+[z].length),by rw[hw];simpa[rp]using hown,?_⟩;exact nH hrl hi (hov eij) (bj L (λk _=>N k) r2) (by rw[hz1];rfl) (al L.D L.w q1)
  .cases hc;obtain⟨hi,z,raw,cur,hnil,hzr,g2,g3,hrl,r2,hrun,hown⟩:=both (λq hq=>hn q (by simp[hq])) (hn _ (by simp));have eij:i=j:=hn _ (by simp);refine⟨rfl,rfl,_,hrun,h.stored hm hnil (by simp[pW,Blk.es]) (by simp[pW,Blk.len]) cur λC' L N hw=>?_⟩;refine⟨raw.take (i*ty.sz)++[z]++raw.drop (i*ty.sz+[z].length),by rw[hw];exact hown,?_⟩
   exact ru hrl hi hz1 (hov eij) (bj L (λk _=>N k) r2) g3 (AV.rel_mono L (λk _=>N k) hzr)
 .cases hc
end Go.Eng
namespace Go.Eng
open Go.RowKit
theorem foldl_set(cs:Lv): ∀(A:Array Value) (off k:Nat),off+k+cs.length<=A.size->
  ((cs.zipIdx k).foldl (λa (c,j)=>a.setIfInBounds (off+j) c) A).toList=A.toList.take (off+k)++cs++A.toList.drop (off+k+cs.length):=by
 induction cs with
 | nil=>intro A off k _;simp
 | cons c cs ih=>
  intro A off k h;simp only[wV]at h;simp only[List.zipIdx_cons,xQ];have h2:=ih (A.setIfInBounds (off+k) c) off (k+1) (by simp;omega);rw[h2,Array.toList_setIfInBounds];have e:=list_seg_step A.toList (off+k) c cs (by simp;omega);simpa[kZ,qAs 1]using e
theorem fill_dense(sz:Nat): ∀(vals:Lv) (uss:List (Lv)) (k:Nat) (A:Array Value),vals.length=uss.length->
  (∀(i:Nat) v us,vals[i]?=some v->uss[i]?=some us->v.cells=us.toArray/\us.length=sz)->(k+vals.length)*sz<=A.size->
  ∃B:Array Value,Instr.fill (λi=>some (i*sz,sz)) A ((List.range' k vals.length).zip vals)=some B/\B.toList=A.toList.take (k*sz)++uss.flatten++A.toList.drop ((k+vals.length)*sz)
 | [],uss,k,A,hl,_,_=>by
  have:uss=[]:=vO (by simpa using hl.symm);subst this;exact⟨A,by simp[Instr.fill],by simp⟩
 | v::vals,uss,k,A,hl,h,hs=>by
  match uss,hl with
  | us::uss,hl=>
   obtain⟨h1,h2⟩:=h 0 v us rfl rfl;simp only[wV]at hs hl;have e1:(k+(vals.length+1))*sz=k*sz+sz+vals.length*sz:=by rw[zG,zG,zT];omega
   have hset:=foldl_set us A (k*sz) 0 (by omega);generalize hA:(us.zipIdx 0).foldl (λa (c,j)=>a.setIfInBounds (k*sz+j) c) A=A' at hset;have hsz:A'.size=A.size:=by
    have h9:=yA List.length hset;simp only[qG,qI,vY,vI,h2]at h9;omega
   obtain⟨B,g1,g2⟩:=fill_dense sz vals uss (k+1) A' (by omega) (λi v us hv hu=>h (i+1) v us (by simpa using hv) (by simpa using hu)) (by rw[hsz,kZ,qAs 1];exact hs);refine⟨B,?_,?_⟩
   .simp only[wV,qAz,List.zip_cons_cons,Instr.fill,h1];have hx:us.toArray.size=sz:=by simpa using h2
    have hif:¬(us.toArray.size≠sz\/k*sz+us.toArray.size>A.size):=by rw[hx];omega
    rw[if_neg (by simpa using hif)];have hz:us.toArray.zipIdx.foldl (λcs x=>cs.setIfInBounds (k*sz+x.2) x.1) A=A':=by
     rw[<- hA,<- Array.foldl_toList];simp
    simp only[qAs]at hz g1 ⊢;rw[hz];exact g1
   .rw[g2,hset];simp only[yU,qAq];have e2:(k+1)*sz=k*sz+sz:=by rw[zG,zT]
    have e3:(k+1+vals.length)*sz=k*sz+sz+vals.length*sz:=by rw[zG,zG,zT]
    have e4:(k+(v::vals).length)*sz=k*sz+sz+vals.length*sz:=by rw[wV];exact e1
    rw[e2,e3,e4,h2];have l1:(A.toList.take (k*sz)++us).length=k*sz+sz:=by
     rw[qG,qI,vI];omega
    rw[yK (by omega),qO (by omega)];rw[qDg,zN (by omega),l1,xM,yG];rw[show k*sz+sz+(k*sz+sz+vals.length*sz-(k*sz+sz))=k*sz+sz+vals.length*sz by omega];simp only[wG]
def Cf(ty:Ty): List AV->Option (List ty.den)
 | []=>some []
 | v::vs=>match cF ty (cw v),Cf ty vs with
  | some (x,[]),some xs=>some (x::xs)
  | _,_=>none
theorem zw{P:Program}{C:Ctx}{a:AV}{ty:Ty}{x:ty.den}{v:Value}(h:cF ty (cw a)=some (x,[]))(hr:a.rel P C v):
  ∃us:Lv,v.cells=us.toArray/\ah C.w C.D ty x us:=by
 have one:AV.relL P C [a] [v]->cw a=[a]->∃us:Lv,v.cells=us.toArray/\ah C.w C.D ty x us:=by
  intro h1 h2;rw[h2]at h;obtain⟨u1,u2,e,r1,r2⟩:=cm h h1;simp only[AV.relL]at r2;subst r2;simp only[wH]at e;subst e;have:=fu r1 v (by simp);exact⟨[v],(by cases v<;>first | rfl | (cases this)),r1⟩
 by_cases hag:HS a=true
 .cases a<;>first | (cases hag;done) | skip
  obtain⟨us,e,g⟩:=hr;subst e;obtain⟨u1,u2,e,r1,r2⟩:=cm h g;simp only[AV.relL]at r2;subst r2;simp only[wH]at e;subst e;exact⟨us,rfl,r1⟩
 .exact one ⟨v,[],rfl,hr,rfl⟩ (by cases a<;>first | rfl | exact(hag rfl).elim)
theorem Cd{P:Program}{C:Ctx}{ty:Ty}: ∀{vs:List AV} {xs:List ty.den} {vals:Lv},Cf ty vs=some xs->AV.relL P C vs vals->
  xs.length=vals.length/\∃uss:List (Lv),vals.length=uss.length/\(∀(i:Nat) v us,vals[i]?=some v->uss[i]?=some us->v.cells=us.toArray/\us.length=ty.sz)/\
   ∀(i:Nat) y us,xs[i]?=some y->uss[i]?=some us->ah C.w C.D ty y us
 | [],xs,vals,h,hr=>by
  simp only[Cf]at h;cases h;simp only[AV.relL]at hr;subst hr;exact⟨rfl,[],rfl,λi v us hv=>by simp at hv,λi y us hy=>by simp at hy⟩
 | a::vs,xs,vals,h,hr=>by
  simp only[Cf]at h;split at h
  .rename_i x xs' h1 h2;cases h;obtain⟨v,vals',e,r1,r2⟩:=hr;subst e;obtain⟨us,q1,q2⟩:=zw h1 r1;obtain⟨l1,uss,l2,g1,g2⟩:=Cd h2 r2;refine⟨by simp[l1],us::uss,by simp[l2],λi v' us' hv hu=>?_,λi y us' hy hu=>?_⟩
   .cases i with
    | zero=>simp at hv hu;subst hv hu;exact⟨q1,aS q2⟩
    | succ i=>exact g1 i v' us' (by simpa using hv) (by simpa using hu)
   .cases i with
    | zero=>simp at hy hu;subst hy hu;exact q2
    | succ i=>exact g2 i y us' (by simpa using hy) (by simpa using hu)
  .cases h
theorem gi{α:Type}(sz:Nat): ∀(uss:List (List α)),(∀us∈uss,us.length=sz)->∀(i:Nat) (us:List α),uss[i]?=some us->(uss.flatten.drop (i*sz)).take sz=us
 | [],_,i,us,h=>by simp at h
 | u::uss,hl,i,us,h=>by
  have hu:=hl u (by simp);cases i with
  | zero=>
   simp at h;subst h;rw[yR,List.drop_zero,qAq,yK (by omega),qO (by omega)]
  | succ i=>
   have ih:=gi sz uss (λus hus=>hl us (by simp[hus])) i us (by simpa using h);rw[qAq,show(i+1)*sz=u.length+i*sz by rw[zG,zT,hu];omega,<- yG,qBr];exact ih
theorem fa{α:Type}(sz:Nat): ∀(uss:List (List α)),(∀us∈uss,us.length=sz)->uss.flatten.length=uss.length*sz
 | [],_=>by simp
 | u::uss,h=>by
  rw[qAq,qG,fa sz uss (λus hus=>h us (by simp[hus])),h u (by simp),wV,zG,zT];omega
def N2(P:Program)(e:TypeId): Bool:=match P.info? e with
 | some i=>i.zero.isSome
 | none=>false
def aEB(P:Program)(mt:Bool)(nx:Nat)(t:TypeId)(len:Nat)(idxs:List Nat)(vs:List AV): Option Core:=
 match cN P t with
 | some e=>match I2 P e with
  | some ty=>if idxs=List.range' 0 vs.length/\vs.length=len/\len*ty.sz<=16777216/\N2 P e=true then
    match Cf ty vs with
    | some xs=>if mt=true\/len=0 then some {val:=.buf nx len,upd:=[(nx,.buf e ty xs [])],new:=some nx} else some {val:=.dat (.sl ty) xs}
    | none=>none
   else none
  | none=>none
 | none=>none
theorem Eg{P:Program}{w:World}{t e:TypeId}{ty:Ty}{vals:Lv}{uss:List (Lv)}(he:cN P t=some e)(hsz:sizeT P e=some ty.sz)(hlit:N2 P e=true)
  (hfit:vals.length*ty.sz<=16777216) (hl:vals.length=uss.length) (hu:∀(i:Nat) v us,vals[i]?=some v->uss[i]?=some us->v.cells=us.toArray/\us.length=ty.sz):
  (Instr.buildSlice t vals.length ((List.range' 0 vals.length).zip vals).toArray).run P w=.ok (.slice (some ⟨w.heap.size,0,none⟩) vals.length vals.length) (w.alloc (.cells uss.flatten.toArray e)):=by
 have hue:=cq he;unfold N2 at hlit;unfold sizeT at hsz;cases hi:P.info? e with
 | none=>rw[hi]at hlit;cases hlit
 | some i=>
  rw[hi]at hlit hsz;simp only[zL,vZ]at hsz;cases hz:i.zero with
  | none=>simp[hz]at hlit
  | some z=>
   have hall:∀us∈uss,us.length=ty.sz:=λus hus=>by
    obtain⟨k,hk⟩:=kF.1 hus;have hk':k<vals.length:=by rw[hl];exact(qF.1 hk).1
    exact(hu k vals[k] us (qB hk') hk).2
   have fl:=fa ty.sz uss hall;have key:∀A:Array Value,A.size=vals.length*ty.sz->Instr.fill (λi=>some (i*ty.sz,ty.sz)) A ((List.range' 0 vals.length).zip vals)=some uss.flatten.toArray:=by
    intro A hA;obtain⟨B,g1,g2⟩:=fill_dense ty.sz vals uss 0 A hl hu (by rw[wY];omega);rw[g1]
    congr 1
    apply yB;rw[g2,yR,wY,qCk,xM,zN (by rw[vI];omega),wH]
   have n1:¬vals.length*ty.sz>2 ^ 24:=by omega
   by_cases h0:vals.length*ty.sz=0
   .have k:=key ((Array.range (vals.length*ty.sz)).map (((#[]:Array Value))[· % 0]!)) (by simp);simp only[Instr.buildSlice,wB,vF hue,vS,bA (P:=P) (t:=e) (n:=ty.sz) (by simp[sizeT,hi,hsz]),if_neg n1,zU,if_pos h0];simp only[gI,yO,k,newRow,wB,run_newObj,vS,zU,World.alloc_eq]
   .have k:=key ((Array.range (vals.length*ty.sz)).map (z.cells[· % z.cells.size]!)) (by simp);simp only[Instr.buildSlice,wB,vF hue,vS,bA (P:=P) (t:=e) (n:=ty.sz) (by simp[sizeT,hi,hsz]),if_neg n1,zU,if_neg h0];simp only[zeroValue,typeInfo,wB,run_program,vS,hi,zU,hz,k,newRow,run_newObj,World.alloc_eq]
theorem Unm.notIn {nm:Nat} {σ:Sig} (h:Unm nm σ) (l:List (Nat×AV)) (hl:l=[]):nm∉AV.namesL (l.map (·.2)):=by subst hl;simp[AV.namesL]
theorem HG{S:Base}{σ:Sig}{a:Act}{w w':World}{D:Nat->Prop}{E:Nat->Ent}(h:aH S σ a w D E){nx:Nat}(hu:Unm nx σ){e:TypeId}{ty:Ty}{xs:List ty.den}{raw:Lv}{cap:Nat}
  (hw:Below w.heap.size w w') (hs:w.heap.size<w'.heap.size)
  (hown:w'.ownsRow 0 e ty.sz (.slice (some ⟨w.heap.size,0,none⟩) xs.length cap) xs.length raw)
  (hel:∀(i:Nat) y,xs[i]?=some y->ah w D ty y ((raw.drop (i*ty.sz)).take ty.sz)):
  Outcome S ⟨σ.T,upM σ.m [(nx,.buf e ty xs [])],σ.sv⟩ a (.buf nx xs.length) (.slice (some ⟨w.heap.size,0,none⟩) xs.length cap) w':=by
 have e3:upE E nx (⟨w.heap.size,cap,false,noR⟩:Ent) nx=⟨w.heap.size,cap,false,noR⟩:=by simp[upE]
 refine⟨D,upE E nx ⟨w.heap.size,cap,false,noR⟩,h.newBlk hu hw (λ_=>⟨rfl,hs⟩) ⟨raw,hown,?_⟩,λb hb=>?_⟩
 .intro i y hy;simp only[List.lookup];exact al (λb hb=>hb) (λb hb=>hw.block b (h.dlt b hb)) (hel i y hy)
 .replace hb:upM σ.m [(nx,.buf e ty xs [])] nx=some b:=hb;rw[cO,if_pos rfl]at hb;cases hb;refine⟨qJ _,λ_=>?_⟩;show _=(upE E nx _ nx).handle _;rw[e3];rfl
theorem kB(w:World)(o:Obj): Below w.heap.size w (w.alloc o):=
 ⟨rfl,rfl,rfl,by rw[zO];omega,λk hk=>yV w _ k hk⟩
theorem YO{S:Base}{σ:Sig}{a:Act}{w:World}{D:Nat->Prop}{E:Nat->Ent}(h:aH S σ a w D E){mt:Bool}{nx len:Nat}{t:TypeId}{idxs:List Nat}{vs:List AV}{vals:Lv}{c:Core}
  (hc:aEB S.P mt nx t len idxs vs=some c) (hr:AV.relL S.P ⟨w,D,σ.m,E⟩ vs vals) (hu:∀k,c.new=some k->Unm k σ):
  c.need=[]/\∃r w',(Instr.buildSlice t len (idxs.zip vals).toArray).run S.P w=.ok r w'/\Outcome S ⟨σ.T,upM σ.m c.upd,σ.sv⟩ a c.val r w':=by
 unfold aEB at hc;split at hc
 case h_2=>cases hc
 rename_i e he;split at hc
 case h_2=>cases hc
 rename_i ty hty;split at hc
 case isFalse=>cases hc
 rename_i hcond;obtain⟨h1,h2,h3,h4⟩:=hcond;split at hc
 case h_2=>cases hc
 rename_i xs hxs;have hsz:=Ao hty;obtain⟨l1,uss,l2,g1,g2⟩:=Cd hxs hr;have hvl:=AV.relL_length hr;have hlen:vals.length=len:=by omega
 have hrun:=Eg (w:=w) he hsz h4 (by rw[hlen];exact h3) l2 g1;rw[<- hvl,<- h1,hvl,hlen]at hrun;have hall:∀us∈uss,us.length=ty.sz:=λus hus=>by
  obtain⟨k,hk⟩:=kF.1 hus;have hk':k<vals.length:=by rw[l2];exact(qF.1 hk).1
  exact(g1 k vals[k] us (qB hk') hk).2
 have hraw:∀(i:Nat) (y:ty.den),xs[i]?=some y->ah w D ty y ((uss.flatten.drop (i*ty.sz)).take ty.sz):=by
  intro i y hy;have hi:i<uss.length:=by rw[<- l2,<- l1];exact(qF.1 hy).1
  have hg:=qB hi;rw[gi ty.sz uss hall i _ hg];exact g2 i y _ hy hg
 have hfl:=fa ty.sz uss hall;split at hc
 .cases hc;refine⟨rfl,_,_,hrun,?_⟩;have hxl:xs.length=len:=by omega
  have hown:(w.alloc (.cells uss.flatten.toArray e)).ownsRow 0 e ty.sz (.slice (some ⟨w.heap.size,0,none⟩) xs.length xs.length) xs.length uss.flatten:=by
   have:=World.ownsRow_lit (base:=0) (e:=e) (size:=ty.sz) w uss.flatten.toArray xs.length (wU _) (by
    have:xs.length<=xs.length*ty.sz:=Nat.le_mul_of_pos_right _ (Ty.sz_pos ty);rw[hxl]at this ⊢;unfold maxLen;omega) (by rw[gI,hfl,<- l2,<- l1])
   simpa using this
  have out:=HG h (hu nx rfl) (kB w _) (by rw[zO];omega) hown hraw;rw[hxl]at out;exact out
 .cases hc;refine⟨rfl,_,_,hrun,λb=>D b\/b=w.heap.size,E,h.newData _,?_⟩;have hxl:List.length xs=len:=by omega
  refine⟨some ⟨w.heap.size,0,none⟩,len,by rw[hxl],by omega,(λh=>by cases h),(λa ha _=>by cases ha;rfl),λi y hy=>?_⟩;refine⟨⟨w.heap.size,0,none⟩,_,rfl,.inr rfl,?_,al (λb hb=>.inl hb) (λb hb=>yV w _ b (h.dlt b hb)) (hraw i y hy)⟩;intro j u hj;rw[vM]at hj;split at hj
  .rw[qY]at hj;show(w.alloc _).cell? ⟨w.heap.size,0+i*ty.sz+j,none⟩=some u;rw[wY,kC];simpa using hj
  .cases hj
def oi: List AV->Option (List AV)
 | []=>some []
 | .agg [x]::vs=>if(x.names).isEmpty=true then(oi vs).map (x::·)else none
 | _::_=>none
def N4(P:Program)(mt:Bool)(t:TypeId)(len:Nat)(idxs:List Nat)(vs:List AV): Option Core:=match cN P t with
 | some e=>if mt=false/\I2 P e=none/\sizeT P e=some 1/\idxs=List.range' 0 vs.length/\vs.length=len/\len*1<=16777216/\N2 P e=true then
   match oi vs with
   | some cs=>some {val:=.slv cs}
   | none=>none
  else none
 | none=>none
theorem s9{P:Program}{C:Ctx}: ∀{vs cs:List AV} {vals:Lv},oi vs=some cs->AV.relL P C vs vals->cs.length=vs.length/\AV.namesL cs=[]/\
  ∃us,AV.relL P C cs us/\vals.length=us.length/\∀(i:Nat) v l,vals[i]?=some v->(us.map λu=>[u])[i]?=some l->v.cells=l.toArray/\l.length=1
 | [],_,_,h,hr=>by
  cases h;cases hr;exact⟨rfl,rfl,[],rfl,rfl,λi v l hv=>by simp at hv⟩
 | .agg [x]::vs,_,_,h,hr=>by
  simp only[oi]at h;split at h
  case isFalse=>cases h
  rename_i hx;cases hq:oi vs with
  | none=>rw[hq]at h;cases h
  | some cs=>
   rw[hq]at h;cases h;obtain⟨u,us',rfl,⟨w,rfl,x0,us1,rfl,h1,h2⟩,h3⟩:=hr;cases h2;obtain⟨g1,g2,us,g3,g4,g5⟩:=s9 hq h3;refine⟨by simp[g1],?_,x0::us,⟨x0,us,rfl,h1,g3⟩,by simp[g4],λi v l hv hl=>?_⟩
   .show x.names++AV.namesL cs=[];rw[g2,wO.1 hx];rfl
   .cases i with
    | zero=>simp at hv hl;subst hv hl;exact⟨rfl,rfl⟩
    | succ i=>exact g5 i v l (by simpa using hv) (by simpa using hl)
theorem N3{S:Base}{σ:Sig}{a:Act}{w:World}{D:Nat->Prop}{E:Nat->Ent}(h:aH S σ a w D E){mt:Bool}{len:Nat}{t:TypeId}{idxs:List Nat}{vs:List AV}{vals:Lv}{c:Core}
  (hc:N4 S.P mt t len idxs vs=some c) (hr:AV.relL S.P ⟨w,D,σ.m,E⟩ vs vals):
  ∃r w',(Instr.buildSlice t len (idxs.zip vals).toArray).run S.P w=.ok r w'/\Outcome S ⟨σ.T,upM σ.m c.upd,σ.sv⟩ a c.val r w':=by
 unfold N4 at hc;split at hc
 case h_2=>cases hc
 rename_i e he;split at hc
 case isFalse=>cases hc
 rename_i hcond;obtain⟨_,_,h0,h1,h2,h3,h4⟩:=hcond;split at hc
 case h_2=>cases hc
 rename_i cs hcs;cases hc;obtain⟨l1,l0,us,g1,g2,g3⟩:=s9 hcs hr;have hvl:=AV.relL_length hr;have hlen:vals.length=len:=by omega
 have hrun:=Eg (w:=w) (ty:=.bool) (uss:=us.map λu=>[u]) he h0 h4 (by rw[hlen];exact h3) (by simp[g2]) g3;rw[<- hvl,<- h1,hvl,hlen]at hrun;have hfl:(us.map λu=>[u]).flatten=us:=by
  clear hrun g3 g2 g1;induction us with
  | nil=>rfl
  | cons u us ih=>simp[ih]
 rw[hfl]at hrun;refine⟨_,_,hrun,λb=>D b\/b=w.heap.size,E,h.newData _,w.heap.size,0,us,by rw[l1,h2],.inr rfl,λj u hj=>?_,?_⟩
 .rw[wY];show(w.alloc _).cell? ⟨w.heap.size,j,none⟩=some u;rw[kC];simpa using hj
 .exact AV.relL_mono (C:=⟨w,D,σ.m,E⟩) (C':=⟨w.alloc (.cells us.toArray e),λb=>D b\/b=w.heap.size,σ.m,E⟩) ⟨λb hb=>.inl hb,λb hb=>yV w _ b (h.dlt b hb)⟩ (λnm g=>by rw[l0]at g;cases g) g1
def aBR(nx:Nat)(e:TypeId)(ty:Ty)(bytes:Nat)(n:Int): Core:=
 {need:=[0<=n,(bytes:Int)*n<=281474976710656,n<=9223372036854775807],val:=.buf nx (Dc n),upd:=[(nx,.buf e ty (Ep n ty.dflt) [])],new:=some nx}
def aBQ(nx:Nat)(e:TypeId)(ty:Ty)(bytes:Nat)(n:Int): Core:=
 {need:=[0<=n,(bytes:Int)*n<=281474976710656,n<=9223372036854775807],val:=.buf nx 0,upd:=[(nx,.buf e ty [] [])],new:=some nx}
def zeroCells: Ty->Lv
 | .int k=>[.int k 0]
 | .bool=>[.bool false]
 | .str=>[.string ByteArray.empty]
 | .sl _=>[.slice none 0 0]
 | .pair a b=>zeroCells a++zeroCells b
theorem fD(w:World)(D:Nat->Prop): ∀t:Ty,ah w D t t.dflt (zeroCells t)
 | .int _ | .bool | .str=>rfl
 | .sl e=>bm w D e
 | .pair a b=>⟨_,_,rfl,fD w D a,fD w D b⟩
def DG: Ty->Value->Bool
 | .int k,.int k' n=>decide (k=k')&&decide (n=0)
 | .bool,.bool b=>!b
 | .str,.string s=>s.data.size==0
 | .sl _,.slice none 0 0=>true
 | _,_=>false
theorem Qq{t:Ty}{v:Value}(h:DG t v=true): zeroCells t=[v]:=by
 unfold DG at h;split at h
 .simp only[qC,qE]at h;obtain⟨rfl,rfl⟩:=h;rfl
 .simp only[zK]at h;subst h;rfl
 .rename_i s;have:s=ByteArray.empty:=by
   cases s with | mk d=>
    have:d=#[]:=Array.eq_empty_of_size_eq_zero (by simpa using h);subst this;rfl
  rw[this];rfl
 .rfl
 .cases h
def isZero: Ty->Lv->Option (Lv)
 | .pair a b,l=>match isZero a l with | some r=>isZero b r | none=>none
 | .int k,v::r=>if DG (.int k) v then some r else none
 | .bool,v::r=>if DG .bool v then some r else none
 | .str,v::r=>if DG .str v then some r else none
 | .sl e,v::r=>if DG (.sl e) v then some r else none
 | .int _,[] | .bool,[] | .str,[] | .sl _,[]=>none
theorem mE{t:Ty}{v:Value}{r r':Lv}(h:(if DG t v then some r else none)=some r'): v::r=zeroCells t++r':=by
 split at h
 .rename_i h1;cases h;rw[Qq h1];rfl
 .cases h
theorem oK: ∀{t:Ty} {l r:Lv},isZero t l=some r->l=zeroCells t++r
 | .int k,v::l,r,h=>by simp only[isZero]at h;exact mE h
 | .bool,v::l,r,h=>by simp only[isZero]at h;exact mE h
 | .str,v::l,r,h=>by simp only[isZero]at h;exact mE h
 | .sl _,v::l,r,h=>by simp only[isZero]at h;exact mE h
 | .int _,[],r,h=>by simp[isZero]at h
 | .bool,[],r,h=>by simp[isZero]at h
 | .str,[],r,h=>by simp[isZero]at h
 | .sl _,[],r,h=>by simp[isZero]at h
 | .pair a b,l,r,h=>by
  simp only[isZero]at h;split at h
  .rename_i r1 h1;rw[oK h1,oK h];simp[zeroCells]
  .cases h
def rV(P:Program)(e:TypeId)(ty:Ty): Option Nat:=match P.info? e with
 | some i=>match i.zero with
  | some z=>match isZero ty z.cells.toList with
   | some []=>if i.size=ty.sz then some i.bytes else none
   | _=>none
  | none=>none
 | none=>none
theorem ix{P:Program}{e:TypeId}{ty:Ty}{bytes:Nat}(h:rV P e ty=some bytes): ∃i z,P.info? e=some i/\i.zero=some z/\i.size=ty.sz/\i.bytes=bytes/\z.cells.toList=zeroCells ty:=by
 unfold rV at h;split at h
 .rename_i i hi;split at h
  .rename_i z hz;split at h
   .rename_i h3;split at h
    .rename_i hs;cases h;exact⟨i,z,hi,hz,hs,rfl,by have:=oK h3;simpa using this⟩
    .cases h
   .cases h
  .cases h
 .cases h
theorem aW: ∀t:Ty,(zeroCells t).length=t.sz
 | .int _ | .bool | .str | .sl _=>rfl
 | .pair a b=>by simp[zeroCells,Ty.sz,aW a,aW b]
def YM(P:Program)(nx:Nat)(t:TypeId)(l c:AV)(same:Bool): Option Core:=
 match cN P t with
 | some e=>match I2 P e with
  | some ty=>match rV P e ty with
   | some bytes=>match l,c with
    | .dat (.int _) l,.dat (.int _) c=>if same then some (aBR nx e ty bytes c)else
      match l with
      | .ofNat 0=>some (aBQ nx e ty bytes c)
      | _=>none
    | _,_=>none
   | none=>none
  | none=>none
 | none=>none
theorem mY(z:Array Value)(sz:Nat)(hz:z.size=sz)(_hp:0<sz)(n:Nat): (madeCells z (n*sz)).toList=(List.replicate n z.toList).flatten:=by
 apply xK;intro j;have hlen:(List.replicate n z.toList).flatten.length=n*sz:=by
  rw[fa sz _ (λus hus=>by rw[kM hus];simpa using hz),wJ]
 by_cases hj:j<n*sz
 .have hq:j/sz<n:=(Nat.div_lt_iff_lt_mul _hp).2 hj;have hr:j%sz<sz:=Nat.mod_lt _ _hp;have hg:(List.replicate n z.toList)[j/sz]?=some z.toList:=by rw[wQ,if_pos hq]
  have hseg:=gi sz (List.replicate n z.toList) (λus hus=>by rw[kM hus];simpa using hz) _ _ hg;have h1:((List.replicate n z.toList).flatten)[j]?=z.toList[j%sz]?:=by
   have h2:=yA (λl=>l[j%sz]?) hseg;have h3:j/sz*sz+j%sz=j:=by rw[Nat.mul_comm];exact Nat.div_add_mod j sz
   simp only[vM,if_pos hr,qY,h3]at h2;exact h2
  rw[h1];simp only[madeCells,qBf,Array.toList_range,qP,vV hj,zL,hz];simp[hz,hr]
 .rw[zF (by rw[vI,size_madeCells];omega),zF (by omega)]
theorem T0{S:Base}{σ:Sig}{a:Act}{w:World}{D:Nat->Prop}{E:Nat->Ent}(h:aH S σ a w D E){nx:Nat}{t:TypeId}{l c:AV}{same:Bool}{co:Core}{vl vc:Value}
  (hsame:same=true->vl=vc) (hc:YM S.P nx t l c same=some co) (hn:∀q∈co.need,q) (hl:l.rel S.P ⟨w,D,σ.m,E⟩ vl) (hcr:c.rel S.P ⟨w,D,σ.m,E⟩ vc) (hu:∀k,co.new=some k->Unm k σ):
  ∃r w',(Instr.makeSlice t vl vc).run S.P w=.ok r w'/\Outcome S ⟨σ.T,upM σ.m co.upd,σ.sv⟩ a co.val r w':=by
 unfold YM at hc;split at hc
 case h_2=>cases hc
 rename_i e he;split at hc
 case h_2=>cases hc
 rename_i ty hty;split at hc
 case h_2=>cases hc
 rename_i bytes hz;obtain⟨i,z,hi,hz1,hz2,hz3,hz4⟩:=ix hz;have hue:=cq he;have hzs:z.cells.size=ty.sz:=by rw[<- vI,hz4,aW]
 split at hc
 case h_2=>cases hc
 rename_i kl l kc c;simp only[AV.rel,ah,qR,vP]at hl hcr;subst hl hcr;obtain⟨c,rfl⟩:∃j:Int,j=c:=⟨c,rfl⟩;obtain⟨l,rfl⟩:∃j:Int,j=l:=⟨l,rfl⟩;have rows:∀(n:Nat),(madeCells z.cells (n*ty.sz)).toList=(List.replicate n (zeroCells ty)).flatten:=λn=>by
  rw[mY z.cells ty.sz hzs (Ty.sz_pos ty) n,hz4]
 have elem:∀(n:Nat) (i:Nat) (y:ty.den),(List.replicate n ty.dflt)[i]?=some y->ah w D ty y (((List.replicate n (zeroCells ty)).flatten.drop (i*ty.sz)).take ty.sz):=by
  intro n i y hy;rw[wQ]at hy;split at hy
  .rename_i hlt;cases hy;rw[gi ty.sz _ (λus hus=>by rw[kM hus,aW]) i (zeroCells ty) (by rw[wQ,if_pos hlt])];exact fD w D ty
  .cases hy
 split at hc
 .rename_i hsm;cases hc;have h0:(0:Int)<=c:=hn _ (.head _);have h1:(bytes:Int)*c<=281474976710656:=hn _ (.tail _ (.head _));have h2:c<=9223372036854775807:=hn _ (.tail _ (.tail _ (.head _)));have hlc:=hsame hsm;simp only[qDj]at hlc;obtain⟨rfl,rfl⟩:=hlc;obtain⟨n,rfl⟩:=qBt h0;have hb:i.bytes*n<=281474976710656:=by rw[hz3];have h3:((bytes*n:Nat):Int)<=281474976710656:=(by rw[qDn];exact h1);omega
  obtain⟨w',r1,r2,r3⟩:=run_make_full (P:=S.P) w 0 t e i z ty.sz hue hi hz1 hz2 kl kl n hb (by unfold maxLen;omega) (wU _);refine⟨_,w',r1,?_⟩;rw[rows n]at r2;have hlt:w.heap.size<w'.heap.size:=by
   rcases r2.2 with⟨hv,_⟩ | ⟨g,cap,cur,hv,_,hh,_⟩
   .cases hv
   .simp only[zM,vZ,gG,vP,zS]at hv;rw[hv.1];exact(vK.1 hh).1
  have hrl:(List.replicate n ty.dflt).length=n:=wJ;have out:=HG h (hu nx rfl) (xs:=List.replicate n ty.dflt) (cap:=n) (e:=e) ⟨r3.os,r3.tape,r3.output,r3.size,λk hk=>r3.block k hk (by simp)⟩ hlt (by rw[hrl];exact r2) (elem n);rw[hrl]at out;simpa[aBR,Ep,Dc]using out
 .split at hc
  .rename_i hl0;cases hc;have h0:(0:Int)<=c:=hn _ (.head _);have h1:(bytes:Int)*c<=281474976710656:=hn _ (.tail _ (.head _));have h2:c<=9223372036854775807:=hn _ (.tail _ (.tail _ (.head _)));obtain⟨n,rfl⟩:=qBt h0;have hb:i.bytes*n<=281474976710656:=by rw[hz3];have h3:((bytes*n:Nat):Int)<=281474976710656:=(by rw[qDn];exact h1);omega
   obtain⟨w',r1,r2,r3⟩:=run_make_own (P:=S.P) w 0 t e i z ty.sz hue hi hz1 hz2 kl kc n hb (by unfold maxLen;omega) (wU _);refine⟨_,w',r1,?_⟩;have hlt:w.heap.size<w'.heap.size:=by
    rcases r2.2 with⟨hv,_⟩ | ⟨g,cap,cur,hv,_,hh,_⟩
    .cases hv
    .simp only[zM,vZ,gG,vP,zS]at hv;rw[hv.1];exact(vK.1 hh).1
   exact HG h (hu nx rfl) (xs:=[]) (cap:=n) (e:=e) ⟨r3.os,r3.tape,r3.output,r3.size,λk hk=>r3.block k hk (by simp)⟩ hlt r2 (λi y hy=>by simp at hy)
  .cases hc
end Go.Eng
namespace Go.Eng
open Go.RowKit
def Ye(ty:Ty): RV->Option (List Prop×List ty.den)
 | (.dat (.sl ty') ys,_)=>if h:ty'=ty then some ([],h▸ys)else none
 | (.buf _ n,some (.buf _ ty' ys []))=>if h:ty'=ty then some ([ys.length=n],h▸ys)else none
 | (.val (.slice none 0 0),_)=>some ([],[])
 | _=>none
theorem kp{w:World}{D:Nat->Prop}{ty:Ty}{b:Nat}: ∀(ys:List ty.den) (off:Nat),
  (∀(i:Nat) (y:ty.den),ys[i]?=some y->∃ue,cJ w b (off+i*ty.sz) ue/\ah w D ty y ue)->
  ∃news:Lv,news.length=ys.length*ty.sz/\cJ w b off news/\(∀u∈news,u.oneCell'=true)/\
   ∀(i:Nat) (y:ty.den),ys[i]?=some y->ah w D ty y ((news.drop (i*ty.sz)).take ty.sz)
 | [],_,_=>⟨[],by simp,λj u hj=>by simp at hj,λu hu=>by simp at hu,λi y hy=>by simp at hy⟩
 | y::ys,off,h=>by
  obtain⟨ue,g1,g2⟩:=h 0 y rfl;have hl:=aS g2;obtain⟨news,n1,n2,n3,n4⟩:=kp ys (off+ty.sz) (λi z hz=>by
   obtain⟨ue',q1,q2⟩:=h (i+1) z (by simpa using hz);refine⟨ue',?_,q2⟩;rw[show off+ty.sz+i*ty.sz=off+(i+1)*ty.sz by rw[zG,zT];omega];exact q1)
  refine⟨ue++news,by rw[qG,n1,hl,wV,zG,zT];omega,?_,?_,?_⟩
  .intro j u hj;rcases zC j ty.sz with hlt | hge
   .rw[vJ (by omega)]at hj;have:=g1 j u hj;simpa using this
   .rw[qW (by omega)]at hj;have:=n2 (j-ue.length) u hj;rw[show off+ty.sz+(j-ue.length)=off+j by omega]at this;exact this
  .intro u hu;rcases qH.1 hu with g | g
   .exact fu g2 u g
   .exact n3 u g
  .intro i z hz;cases i with
   | zero=>
    simp at hz;subst hz;rw[yR,List.drop_zero,yK (by omega),qO (by omega)];exact g2
   | succ i=>
    rw[show(i+1)*ty.sz=ue.length+i*ty.sz by rw[zG,zT,hl];omega,<- yG,qBr];exact n4 i z (by simpa using hz)
theorem qm{P:Program}{C:Ctx}{t:Ty}{xs:List t.den}{raw:Lv}(hl:raw.length=xs.length*t.sz)(h:bW P C t xs [] raw): ∀u∈raw,u.oneCell'=true:=by
 intro u hu;obtain⟨j,hj⟩:=kF.1 hu;have hjl:=(qF.1 hj).1;have hp:=Ty.sz_pos t;have hq:j/t.sz<xs.length:=(Nat.div_lt_iff_lt_mul hp).2 (by omega);have hr:j%t.sz<t.sz:=Nat.mod_lt _ hp;have:=h (j/t.sz) _ (qB hq);simp only[List.lookup]at this;refine fu this u (kF.2 ⟨j%t.sz,?_⟩);rw[vM,if_pos hr,qY,Nat.mul_comm,Nat.div_add_mod];exact hj
theorem DZ{S:Base}{σ:Sig}{a:Act}{w:World}{D:Nat->Prop}{E:Nat->Ent}(h:aH S σ a w D E){ty:Ty}{x:RV}{ns:List Prop}{ys:List ty.den}{v:Value}
  (hb:x.2=ct σ.m x.1) (hc:Ye ty x=some (ns,ys)) (hn:∀q∈ns,q) (hx:x.1.rel S.P ⟨w,D,σ.m,E⟩ v):
  (v=.slice none 0 0/\ys=[])\/∃(ad:Addr) (c:Nat) (news:Lv),v=.slice (some ad) ys.length c/\news.length=ys.length*ty.sz/\
   (∀j u,news[j]?=some u->w.cell? (ad.add j)=some u)/\(∀u∈news,u.oneCell'=true)/\
   ∀(i:Nat) (y:ty.den),ys[i]?=some y->ah w D ty y ((news.drop (i*ty.sz)).take ty.sz):=by
 unfold Ye at hc;split at hc
 .rename_i ty' ys' b2;split at hc
  .rename_i ht;subst ht;cases hc;obtain⟨ys,rfl⟩:∃j:List ty'.den,j=ys':=⟨ys',rfl⟩;obtain⟨ao,cap,g1,g2,g3,g4,g5⟩:=hx;simp only[qR,vP]at g1;subst g1;cases ao with
   | none=>
    have hc0:=g3 rfl;have hys:ys=[]:=vO (by omega);subst hys;subst hc0;exact .inl ⟨rfl,rfl⟩
   | some ad=>
    obtain⟨news,n1,n2,n3,n4⟩:=kp (w:=w) (D:=D) (b:=ad.block) ys ad.off (λi y hy=>by
     obtain⟨a',ue,e,r1,r2,r3⟩:=g5 i y hy;cases e;exact⟨ue,r2,r3⟩)
    refine .inr ⟨ad,cap,news,rfl,n1,λj u hj=>?_,n3,n4⟩;have hjn:=(qF.1 hj).1;have hsp:=g4 ad rfl (by
     rcases Nat.eq_zero_or_pos (List.length ys)with h0 | h0
     .rw[n1,show List.length ys=0 from h0,yR]at hjn;omega
     .exact h0)
    have:ad.add j=⟨ad.block,ad.off+j,none⟩:=by
     cases ad with | mk b o s=>simp only at hsp;subst hsp;exact yM b o _
    rw[this];exact n2 j u hj
  .cases hc
 .rename_i nm n el ty' ys';split at hc
  .rename_i ht;subst ht;cases hc;obtain⟨ys,rfl⟩:∃j:List ty'.den,j=ys':=⟨ys',rfl⟩;have hm:σ.m nm=some (.buf el ty' ys []):=hb.symm;have hlen:ys.length=n:=hn _ (by simp);have hv:=(hx _ hm).2 hlen;obtain⟨raw,r1,r2⟩:=h.bl nm _ hm;rw[<- hlen]at hv;cases hnil:(E nm).isNil with
   | true=>
    have e3:(E nm).handle ys.length=.slice none 0 0:=by unfold Ent.handle;rw[hnil];rfl
    rw[e3]at r1;rcases r1.2 with⟨_,hz⟩ | ⟨g,cap,cur,hq,_⟩
    .exact .inl ⟨hv.trans e3,vO hz⟩
    .cases hq
   | false=>
    have e3:(E nm).handle ys.length=.slice (some ⟨(E nm).b,0,none⟩) ys.length (E nm).cap:=by unfold Ent.handle;rw[hnil];rfl
    rw[e3]at r1;exact .inr ⟨⟨(E nm).b,0,none⟩,(E nm).cap,raw,hv.trans e3,r1.1,r1.cells rfl,qm r1.1 r2,λi y hy=>by have:=r2 i y hy;simpa only[List.lookup]using this⟩
  .cases hc
 .cases hc;simp only[AV.rel]at hx;exact .inl ⟨hx,rfl⟩
 .cases hc
def kA(n bytes:Nat): List Prop:=[n*bytes<=140737488355328,n<=9223372036854775807]
def aES(P:Program)(nx:Nat)(t:TypeId)(s x:RV): Option Core:=
 match cN P t with
 | some e=>match s with
  | (.buf nm n,some (.buf el ty xs []))=>if el=e then match Ye ty x,rV P e ty with
   | some (ns,ys),some bytes=>some {need:=[xs.length=n]++ns++kA (n+ys.length) bytes,val:=.buf nm (n+ys.length),upd:=[(nm,.buf el ty (Ef xs ys) [])]}
   | _,_=>none
   else none
  | (.val (.slice none 0 0),_)=>match I2 P e with
   | some ty=>match Ye ty x,rV P e ty with
    | some (ns,ys),some bytes=>some {need:=ns++kA ys.length bytes,val:=.buf nx ys.length,upd:=[(nx,.buf e ty ys [])],new:=some nx}
    | _,_=>none
   | none=>none
  | _=>none
 | none=>none
theorem sU{P:Program}{C:Ctx}{t:Ty}{xs ys:List t.den}{raw news:Lv}(hl:raw.length=xs.length*t.sz)(h:bW P C t xs [] raw)
  (hy:∀(i:Nat) (y:t.den),ys[i]?=some y->ah C.w C.D t y ((news.drop (i*t.sz)).take t.sz)):bW P C t (xs++ys) [] (raw++news):=by
 intro i y hiy;simp only[List.lookup];rcases zC i xs.length with hlt | hge
 .rw[vJ hlt]at hiy;have:=h i y hiy;simp only[List.lookup]at this;have hm:i*t.sz+t.sz<=raw.length:=by
   have:=vU t.sz (show i+1<=xs.length from hlt);rw[zG,zT]at this;omega
  rw[kS (by omega),yK (by rw[vY];omega)];exact this
 .rw[qW hge]at hiy;have:=hy _ y hiy;rw[Nat.sub_mul,<- hl]at this;have hm:raw.length<=i*t.sz:=by rw[hl];exact vU _ hge
  rw[qDg,zN hm,xM];exact this
theorem lG{P:Program}{w:World}{t ty e:TypeId}{i:TypeInfo}(ht:P.underlying t=some (.slice e))(hi:P.info? e=some i)(base:Option Addr)(n cap:Nat)(hn:n<=cap)(ad:Addr)(c:Nat):
  (Builtin.append_ #[t,t] ty #[.slice base n cap,.slice (some ad) 0 c]).run P w=.ok (.slice base n cap) w:=by
 cases base<;>simp[Builtin.append_,vF ht,sizeOf,typeInfo,hi,Builtin.lenOf,Builtin.firstCells,hn,loadCells,loadCellsFrom,storeCells]
theorem Zv{S:Base}{σ:Sig}{a:Act}{w:World}{D:Nat->Prop}{E:Nat->Ent}(h:aH S σ a w D E){nx:Nat}{t oty:TypeId}{s x:RV}{c:Core}{vs vx:Value}
  (hbs:s.2=ct σ.m s.1) (hbx:x.2=ct σ.m x.1) (hc:aES S.P nx t s x=some c) (hn:∀q∈c.need,q)
  (hs:s.1.rel S.P ⟨w,D,σ.m,E⟩ vs) (hx:x.1.rel S.P ⟨w,D,σ.m,E⟩ vx) (hu:∀k,c.new=some k->Unm k σ):
  ∃r w',(Builtin.append_ #[t,t] oty #[vs,vx]).run S.P w=.ok r w'/\Outcome S ⟨σ.T,upM σ.m c.upd,σ.sv⟩ a c.val r w':=by
 unfold aES at hc;split at hc
 case h_2=>cases hc
 rename_i e he;have hue:=cq he;split at hc
 .rename_i nm n el ty xs;split at hc
  case isFalse=>cases hc
  rename_i hel;subst hel;split at hc
  case h_2=>cases hc
  rename_i ns ys bytes hsrc hz;cases hc;obtain⟨i,z,hi,hz1,hz2,hz3,hz4⟩:=ix hz;have hzs:z.cells.size=ty.sz:=by rw[<- vI,hz4,aW]
  have hm:σ.m nm=some (.buf el ty xs []):=hbs.symm;have hlen:xs.length=n:=hn _ (by simp);have hb1:(n+ys.length)*bytes<=140737488355328:=hn _ (by simp only[kA,qH];exact .inr (.head _));have hb2:n+ys.length<=9223372036854775807:=hn _ (by simp only[kA,qH];exact .inr (.tail _ (.head _)));have hv:=(hs _ hm).2 hlen;obtain⟨raw,r1,r2⟩:=h.bl nm _ hm;rw[hlen]at r1
  have fin:∀(w':World) (v':Value) (e':Ent) (raw':Lv),v'=e'.handle (n+ys.length)->
    (ys.length=0->e'=E nm)->w'.os=w.os->w'.tape=w.tape->w'.output=w.output->w.heap.size<=w'.heap.size->
    (∀k,k<w.heap.size->((E nm).isNil=false->k≠(E nm).b)->w'.heap[k]?=w.heap[k]?)->
    (e'.isNil=false->(e'.b=w.heap.size/\w.heap.size<w'.heap.size)\/((E nm).isNil=false/\e'.b=(E nm).b))->
    w'.ownsRow 0 el ty.sz v' (n+ys.length) (raw++raw')->
    (∀(i:Nat) (y:ty.den),ys[i]?=some y->ah w D ty y ((raw'.drop (i*ty.sz)).take ty.sz))->
    Outcome S ⟨σ.T,upM σ.m [(nm,.buf el ty (xs++ys) [])],σ.sv⟩ a (.buf nm (n+ys.length)) v' w':=by
   intro w' v' e' raw' hv' hsame ho ht2 hout hsz hw hee hown hel;have hl2:(xs++ys).length=n+ys.length:=by rw[qG,hlen]
   have hesame:(Blk.buf el ty xs []).len=(Blk.buf el ty (xs++ys) []).len->e'=E nm:=λh0=>hsame (by simp only[Blk.len,qG]at h0;omega)
   have hle:(Blk.buf el ty xs []).len<=(Blk.buf el ty (xs++ys) []).len:=by simp only[Blk.len,qG];omega
   obtain⟨L,N⟩:=h.turnLater (w':=w') (b:=.buf el ty (xs++ys) []) hm (e:=e') rfl hle hesame hw;refine⟨D,upE E nm e',h.turnBlk hm rfl hle hesame ho ht2 hout hsz hw hee ⟨raw++raw',by rw[hl2,<- hv'];exact hown,?_⟩,λb hb=>?_⟩
   .exact sU (by rw[r1.1,hlen]) (bj L (λk hk=>N k) r2) (λi y hy=>al L.D L.w (hel i y hy))
   .replace hb:upM σ.m [(nm,.buf el ty (xs++ys) [])] nm=some b:=hb;rw[cO,if_pos rfl]at hb;cases hb;refine⟨by simp only[Blk.len];omega,λ_=>?_⟩;have:upE E nm e' nm=e':=by simp[upE]
    show v'=(upE E nm e' nm).handle _;rw[this];exact hv'
  rcases DZ h hbx hsrc (λq hq=>hn q (by simp[hq])) hx with⟨rfl,rfl⟩ | ⟨ad,cx,news,rfl,n1,n2,n3,n4⟩
  .refine⟨vs,w,?_,?_⟩
   .rw[hv];exact run_append_owned_none (P:=S.P) w 0 t oty el i ty.sz hue hi _ n raw r1
   .exact fin w vs (E nm) [] (by simpa using hv) (λ_=>rfl) rfl rfl rfl (qJ _) (λ_ _ _=>rfl) (λhi=>.inr ⟨hi,rfl⟩) (by rw[hv];simpa using r1) (λi y hy=>by simp at hy)
  .by_cases hy0:ys.length=0
   .have hys:ys=[]:=vO hy0;subst hys;have hvs:∃b n' cap,vs=.slice b n' cap/\n'<=cap/\n'=n:=by
     rw[hv];rcases r1.2 with⟨hq,hz⟩ | ⟨g,cap,cur,hq,_,_,hle,_⟩
     .exact⟨none,0,0,hq,qJ _,hz.symm⟩
     .exact⟨_,_,_,hq,hle,rfl⟩
    obtain⟨b,n',cap,hvv,hle,_⟩:=hvs;refine⟨vs,w,?_,?_⟩
    .rw[hvv];exact lG hue hi b n' cap hle ad cx
    .exact fin w vs (E nm) [] (by simpa using hv) (λ_=>rfl) rfl rfl rfl (qJ _) (λ_ _ _=>rfl) (λhi=>.inr ⟨hi,rfl⟩) (by rw[hv];simpa using r1) (λi y hy=>by simp at hy)
   .have h63:n+ys.length<=maxLen:=by unfold maxLen;omega
    obtain⟨v',w',q1,q2,q3,_⟩:=qDr (P:=S.P) w 0 t oty el i z ty.sz bytes hue hi hz1 hz2 hz3 hzs (Ty.sz_pos ty) _ n raw r1 ad ys.length cx news n1 n2 n3 h63 hb1 (wU _);cases hnil:(E nm).isNil with
    | true=>
     have e3:(E nm).handle n=.slice none 0 0:=by unfold Ent.handle;rw[hnil];rfl
     have hn0:n=0:=by
      rw[e3]at r1;rcases r1.2 with⟨_,hz⟩ | ⟨g,cap,cur,hq,_⟩
      .exact hz
      .cases hq
     subst hn0;have hr:=qDs (P:=S.P) w t oty el i z hue hi hz1 ad ys.length cx news (by rw[hz2];exact n1) n2 (by omega) (by omega) (by rw[hz3];rw[wY]at hb1;omega);rw[e3]at q1 q3;rw[hr]at q1;cases q1;refine⟨_,_,by rw[hv,e3];exact hr,fin _ _ ⟨w.heap.size,grownCap w ys.length 0 el,false,noR⟩ news (by simp[Ent.handle]) (λh0=>(hy0 h0).elim) q3.os q3.tape q3.output q3.size
      (λk hk _=>q3.block k hk (by simp[Value.ownBlock])) (λ_=>.inl ⟨rfl,by rw[zO];simp⟩) q2 n4⟩
    | false=>
     have e3:(E nm).handle n=.slice (some ⟨(E nm).b,0,none⟩) n (E nm).cap:=by unfold Ent.handle;rw[hnil];rfl
     rw[e3]at r1 q1 q3;have hblk:∀k,k<w.heap.size->((E nm).isNil=false->k≠(E nm).b)->w'.heap[k]?=w.heap[k]?:=λk hk hne=>q3.block k hk (by simp[Value.ownBlock];exact hne hnil)
     by_cases hroom:n+ys.length<=(E nm).cap
     .obtain⟨w2,p1,p2,p3⟩:=run_append_fits (P:=S.P) w 0 t oty el i ty.sz hue hi hz2 (E nm).b n (E nm).cap raw r1 ad ys.length cx news n1 n2 n3 hroom;rw[p1]at q1;cases q1;exact⟨_,_,by rw[hv,e3];exact p1,fin _ _ (E nm) news (by unfold Ent.handle;rw[hnil];rfl) (λ_=>rfl) q3.os q3.tape q3.output q3.size hblk (λhi=>.inr ⟨hi,rfl⟩) q2 n4⟩
     .have hr:=run_append_grow (P:=S.P) w t oty el i z hue hi hz1 ⟨(E nm).b,0,none⟩ n (E nm).cap raw (by rw[hz2];exact r1.1) (r1.cells rfl) ad ys.length cx news (by rw[hz2];exact n1) n2 (by omega) (by omega)
       (growslice_fits (by omega) (by rw[hz3];exact hb1))
      rw[hr]at q1;cases q1;refine⟨_,_,by rw[hv,e3];exact hr,fin _ _ ⟨w.heap.size,grownCap w (n+ys.length) (E nm).cap el,false,noR⟩ news (by simp[Ent.handle]) (λh0=>(hy0 h0).elim) q3.os q3.tape q3.output q3.size hblk
       (λ_=>.inl ⟨rfl,by rw[zO];simp⟩) q2 n4⟩
 .rename_i b2;split at hc
  case h_2=>cases hc
  rename_i ty hty;split at hc
  case h_2=>cases hc
  rename_i ns ys bytes hsrc hz;cases hc;obtain⟨i,z,hi,hz1,hz2,hz3,hz4⟩:=ix hz;have hzs:z.cells.size=ty.sz:=by rw[<- vI,hz4,aW]
  have hb1:ys.length*bytes<=140737488355328:=hn _ (by simp only[kA,qH];exact .inr (.head _));have hb2:ys.length<=9223372036854775807:=hn _ (by simp only[kA,qH];exact .inr (.tail _ (.head _)));simp only[AV.rel]at hs;subst hs;have asNil:∀r,r=Value.slice none 0 0->ys=[]->Outcome S ⟨σ.T,upM σ.m [(nx,.buf e ty ys [])],σ.sv⟩ a (.buf nx ys.length) r w:=by
   intro r hr hy;subst hr hy;have e3:upE E nx (⟨0,0,true,noR⟩:Ent) nx=⟨0,0,true,noR⟩:=by simp[upE]
   refine⟨D,upE E nx ⟨0,0,true,noR⟩,h.newBlk (hu nx rfl) (Below.refl _ _) (λh=>by cases h) ⟨[],qCu _ _ _ _,λi y hy=>by simp at hy⟩,λb hb=>?_⟩;replace hb:upM σ.m [(nx,.buf e ty [] [])] nx=some b:=hb;rw[cO,if_pos rfl]at hb;cases hb;refine⟨qJ _,λ_=>?_⟩;show _=(upE E nx _ nx).handle _;rw[e3];rfl
  rcases DZ h hbx hsrc (λq hq=>hn q (by simp[hq])) hx with⟨rfl,hy⟩ | ⟨ad,cx,news,rfl,n1,n2,n3,n4⟩
  .exact⟨_,w,run_append_owned_none (P:=S.P) w 0 t oty e i ty.sz hue hi _ 0 [] (qCu _ _ _ _),asNil _ rfl hy⟩
  .by_cases hy0:ys.length=0
   .have hys:ys=[]:=vO hy0;refine⟨_,w,?_,asNil _ rfl hys⟩;rw[hy0];exact lG hue hi none 0 0 (qJ _) ad cx
   .have hr:=qDs (P:=S.P) w t oty e i z hue hi hz1 ad ys.length cx news (by rw[hz2];exact n1) n2 (by omega) (by omega) (by rw[hz3];omega);obtain⟨v',w',q1,q2,q3,_⟩:=qDr (P:=S.P) w 0 t oty e i z ty.sz bytes hue hi hz1 hz2 hz3 hzs (Ty.sz_pos ty) _ 0 [] (qCu _ _ _ _) ad ys.length cx news n1 n2 n3 (by unfold maxLen;omega) (by rw[wY];exact hb1) (wU _);rw[hr]at q1;cases q1
    refine⟨_,_,hr,HG h (hu nx rfl) ⟨q3.os,q3.tape,q3.output,q3.size,λk hk=>q3.block k hk (by simp[Value.ownBlock])⟩ (by rw[zO];simp) (by simpa using q2) (by simpa using n4)⟩
 .cases hc
end Go.Eng
namespace Go.Eng
open Go.RowKit
abbrev Fz{α:Type}(n:Nat)(x:α): List α:=List.replicate n x
def aFw(P:Program): Nat->TypeId->Option (Nat×Ty)
 | 0,_=>none
 | f+1,t=>match P.underlying t with
  | some (.array n e)=>match aFw P f e with
   | some (c,ty)=>some (n*c,ty)
   | none=>none
  | _=>match I2 P t with
   | some ty=>some (1,ty)
   | none=>none
def oJ(ty:Ty): Nat->Lv->Bool
 | 0,l=>l.isEmpty
 | n+1,l=>match isZero ty l with
  | some r=>oJ ty n r
  | none=>false
theorem tQ{ty:Ty}: ∀{n:Nat} {l:Lv},oJ ty n l=true->l=(List.replicate n (zeroCells ty)).flatten
 | 0,l,h=>by simpa[oJ]using h
 | n+1,l,h=>by
  simp only[oJ]at h;split at h
  .rename_i r hr;rw[oK hr,tQ h,qBh,qAq]
  .cases h
def aBW(P:Program)(t:TypeId): Bool:=match P.underlying t with
 | some (.array _ _)=>true
 | _=>false
def uD(P:Program)(nx:Nat)(elem:TypeId): Option Core:=
 if aBW P elem then match aFw P 4 elem,(P.info? elem).bind (·.zero)with
  | some (n,ty),some z=>if oJ ty n z.cells.toList=true/\0<n/\n<=1000000 then
    some {val:=.ptr nx n 0 0,upd:=[(nx,.buf elem ty (Fz n ty.dflt) [])],new:=some nx} else none
  | _,_=>none
 else none
theorem C0{S:Base}{σ:Sig}{a:Act}{w:World}{D:Nat->Prop}{E:Nat->Ent}(h:aH S σ a w D E){nx:Nat}{elem:TypeId}{c:Core}
  (hc:uD S.P nx elem=some c) (hu:∀k,c.new=some k->Unm k σ):
  ∃r w',(Instr.alloc elem true (.tuple #[])).run S.P w=.ok r w'/\Outcome S ⟨σ.T,upM σ.m c.upd,σ.sv⟩ a c.val r w':=by
 unfold uD at hc;split at hc
 case isFalse=>cases hc
 split at hc
 case h_2=>cases hc
 rename_i n ty z harr hz;split at hc
 case isFalse=>cases hc
 rename_i hk;obtain⟨hzs,hn0,hn1⟩:=hk;cases hc;cases hi:S.P.info? elem with
 | none=>rw[hi]at hz;cases hz
 | some i=>
  have hz':i.zero=some z:=by rw[hi]at hz;exact hz
  have hraw:=tQ hzs;have hall:∀us∈List.replicate n (zeroCells ty),us.length=ty.sz:=λus hus=>by rw[(List.mem_replicate.1 hus).2,aW]
  have hlen:z.cells.toList.length=n*ty.sz:=by rw[hraw,fa ty.sz _ hall,wJ]
  have e3:upE E nx (⟨w.heap.size,n,false,noR⟩:Ent) nx=⟨w.heap.size,n,false,noR⟩:=by simp[upE]
  have hrl:(List.replicate n ty.dflt).length=n:=wJ;refine⟨.pointer (some ⟨w.heap.size,0,none⟩),w.alloc (.cells z.cells elem),?_,D,upE E nx ⟨w.heap.size,n,false,noR⟩,
   h.newBlk (hu nx rfl) (kB w _) (λ_=>⟨rfl,by rw[zO];simp⟩) ⟨z.cells.toList,⟨?_,.inr ⟨w.heap.size,n,z.cells,?_,wU _,?_,?_,?_,?_,?_⟩⟩,?_⟩,λb hb=>?_⟩
  .simp[Instr.alloc,zeroValue,typeInfo,hi,hz',newVar,newRow]
  .show _=(List.replicate n ty.dflt).length*ty.sz;rw[hrl];exact hlen
  .simp[Ent.handle]
  .show(w.heap.push _)[w.heap.size]?=_;simp
  .show(List.replicate n ty.dflt).length<=n;omega
  .unfold maxLen;omega
  .rw[<- vI];exact hlen
  .show z.cells.toList.take ((List.replicate n ty.dflt).length*ty.sz)=_;rw[hrl,<- hlen,xC]
  .intro j y hy;simp only[List.lookup];have hj:j<n:=by have:=(qF.1 hy).1;rwa [hrl]at this
   have ey:y=ty.dflt:=by
    have:=(qF.1 hy).2;simpa using this.symm
   rw[hraw,gi ty.sz _ hall j (zeroCells ty) (by rw[wQ,if_pos hj]),ey];exact fD _ _ ty
  .replace hb:upM σ.m [(nx,.buf elem ty (List.replicate n ty.dflt) [])] nx=some b:=hb;rw[cO,if_pos rfl]at hb;cases hb;refine⟨zV hrl.symm,λ_=>⟨hn0,?_,?_⟩⟩
   .show(upE E nx _ nx).isNil=false;rw[e3]
   .show _=Value.pointer (some ⟨(upE E nx _ nx).b,_,none⟩);rw[e3];simp
def uB(P:Program)(t:TypeId)(p:RV): Option Core:=match P.underlying t with
 | some (.array n e)=>match p with
  | (.ptr nm g j 0,some (.buf _ ty xs _))=>if sizeT P e=some ty.sz then some {need:=[j=0,g=n,xs.length=g],val:=.view nm n} else none
  | _=>none
 | _=>none
theorem CZ{S:Base}{σ:Sig}{a:Act}{w:World}{D:Nat->Prop}{E:Nat->Ent}(h:aH S σ a w D E){p:RV}{t:TypeId}{c:Core}{v:Value}
  (hb:p.2=ct σ.m p.1) (hc:uB S.P t p=some c) (hn:∀q∈c.need,q) (hp:p.1.rel S.P ⟨w,D,σ.m,E⟩ v):
  ∃r,(Instr.sliceAt t v none none none).run S.P w=.ok r w/\c.val.rel S.P ⟨w,D,σ.m,E⟩ r/\c.upd=[]/\c.new=none:=by
 unfold uB at hc;split at hc
 case h_2=>cases hc
 rename_i n e hu;split at hc
 case h_2=>cases hc
 rename_i nm g j el ty xs ov;split at hc
 case isFalse=>cases hc
 rename_i hs;cases hc;have h1:j=0:=hn _ (by simp);have h2:g=n:=hn _ (by simp);have h3:xs.length=g:=hn _ (by simp);have hm:σ.m nm=some (.buf el ty xs ov):=hb.symm;obtain⟨g1,g2⟩:=hp _ hm;obtain⟨g3,g4,rfl⟩:=g2 h3;subst h1 h2;have hsz:=bA hs w;refine⟨.slice (some ⟨(E nm).b,0,none⟩) g g,?_,λb' hb'=>?_,rfl,rfl⟩
 .simp[Instr.sliceAt,vF hu,Instr.sureAddr,Instr.sliceBounds,hsz,yM]
 .have e:b'=.buf el ty xs ov:=wS (hb'.symm.trans hm);subst e;exact⟨g1,λ_=>⟨g4,g,qJ _,rfl⟩⟩
theorem run_copy_cells{P:Program}(w:World)(dT sT ty elem:TypeId)(sz:Nat)(g dLen dCap:Nat)(a:Addr)(sLen sCap:Nat)(cur:Array Value)(t:TypeId)(cs:Lv)
  (hu:P.underlying dT=some (.slice elem)) (hs:sizeT P elem=some sz)
  (hg:w.heap[g]?=some (.cells cur t (0,0))) (hn:cs.length=Nat.min sLen dLen*sz)
  (hsrc:∀j v,cs[j]?=some v->w.cell? (a.add j)=some v) (hfit:cs.length<=cur.size) (h1:∀v∈cs,v.oneCell'=true):
  (Builtin.copy_ #[dT,sT] ty #[.slice (some ⟨g,0,none⟩) dLen dCap,.slice (some a) sLen sCap]).run P w =
   .ok (.int .i64 (Nat.min sLen dLen:Nat)) (w.setRow g (cs++cur.toList.drop cs.length).toArray):=by
 have hl:=qCp (P:=P) w a cs hsrc;have hst:=run_storeCells_at P g 0 t cs 0 cur w hg (by simpa using hfit) h1;have hsz:=bA hs w;simp only[yU,wY,qCk,xM]at hst;rw[hn]at hl;simp[Builtin.copy_,vF hu,Builtin.lenOf,Builtin.firstCells,hsz,hl,hst,goInt,hn]
theorem x7{P:Program}(w:World)(dT sT ty elem:TypeId)(sz:Nat)(d a:Option Addr)(dLen dCap sLen sCap:Nat)(hu:P.underlying dT=some (.slice elem))(hs:sizeT P elem=some sz)(hn:Nat.min sLen dLen=0):
  (Builtin.copy_ #[dT,sT] ty #[.slice d dLen dCap,.slice a sLen sCap]).run P w=.ok (.int .i64 0) w:=by
 have hl:∀(x:Addr),(loadCells x 0).run P w=.ok #[] w:=λx=>by simpa using qCp (P:=P) w x [] (by simp)
 have hsz:=bA hs w;cases d<;>cases a<;>simp[Builtin.copy_,vF hu,Builtin.lenOf,Builtin.firstCells,hsz,hn,storeCells,hl,goInt]
def jq(nm:Nat)(el:TypeId)(ty:Ty)(n:Nat)(xs ys:List ty.den)(ns:List Prop): Core:=
 {need:=(xs.length=n)::ns,val:=.dat (.int .i64) (Eu (ys.length:Int) (xs.length:Int)),upd:=[(nm,.buf el ty (Gl xs ys) [])]}
def Zi(P:Program)(t:TypeId)(d s:RV): Option Core:=match cN P t with
 | some e=>match d with
  | (.buf nm n,some (.buf el ty xs []))=>if sizeT P e=some ty.sz then match Ye ty s with
   | some (ns,ys)=>some (jq nm el ty n xs ys ns)
   | none=>none
   else none
  | (.view nm n,some (.buf el ty xs []))=>if sizeT P e=some ty.sz then match Ye ty s with
   | some (ns,ys)=>some (jq nm el ty n xs ys ns)
   | none=>none
   else none
  | _=>none
 | none=>none
theorem RI{m:Nat->Option Blk}{nm:Nat}{b:Blk}(h:m nm=some b): upM m [(nm,b)]=m:=by
 funext k
 rw[cO];split
 .rename_i e;subst e;exact h.symm
 .rfl
theorem CB{S:Base}{σ:Sig}{a:Act}{w:World}{D:Nat->Prop}{E:Nat->Ent}(h:aH S σ a w D E){t sT oty e:TypeId}{s:RV}{nm n:Nat}{el:TypeId}{ty:Ty}{xs ys:List ty.den}{ns:List Prop}{vd vs:Value}
  (he:cN S.P t=some e) (hsz:sizeT S.P e=some ty.sz) (hm:σ.m nm=some (.buf el ty xs [])) (hbs:s.2=ct σ.m s.1) (hsrc:Ye ty s=some (ns,ys)) (hn:∀q∈(jq nm el ty n xs ys ns).need,q)
  (hd:xs.length=n->(vd=.slice none 0 0/\n=0)\/((E nm).isNil=false/\∃c,vd=.slice (some ⟨(E nm).b,0,none⟩) n c)) (hs:s.1.rel S.P ⟨w,D,σ.m,E⟩ vs):
  ∃r w',(Builtin.copy_ #[t,sT] oty #[vd,vs]).run S.P w=.ok r w'/\Outcome S ⟨σ.T,upM σ.m (jq nm el ty n xs ys ns).upd,σ.sv⟩ a (jq nm el ty n xs ys ns).val r w':=by
 have hue:=cq he;have hlen:xs.length=n:=hn _ (by simp[jq]);have hns:∀q∈ns,q:=λq hq=>hn q (by simp[jq,hq])
 have same:xs.length=0\/ys.length=0->(upM σ.m (jq nm el ty n xs ys ns).upd=σ.m/\(jq nm el ty n xs ys ns).val=.dat (.int .i64) (0:Int)):=λh0=>by
  have e:Gl xs ys=xs:=by
   show List.take xs.length ys++List.drop ys.length xs=xs;rcases h0 with h0 | h0
   .rw[vO h0];simp
   .rw[vO h0];simp
  refine⟨by simp only[jq,e];exact RI hm,?_⟩;have e2:min (ys.length:Int) (xs.length:Int)=0:=by omega
  simp only[jq,Eu,e2]
 have nothing:∀(dp sp:Option Addr) (dL dC sL sC:Nat),vd=.slice dp dL dC->vs=.slice sp sL sC->dL=xs.length->sL=ys.length->(xs.length=0\/ys.length=0)->
   ∃r w',(Builtin.copy_ #[t,sT] oty #[vd,vs]).run S.P w=.ok r w'/\Outcome S ⟨σ.T,upM σ.m (jq nm el ty n xs ys ns).upd,σ.sv⟩ a (jq nm el ty n xs ys ns).val r w':=by
  rintro dp sp dL dC sL sC rfl rfl rfl rfl h0;obtain⟨q1,q2⟩:=same h0;refine⟨.int .i64 0,w,x7 w t sT oty e ty.sz dp sp _ dC _ sC hue hsz ?_,?_⟩
  .rcases h0 with h0 | h0<;>rw[h0]<;>simp
  .rw[q1,q2];exact⟨D,E,h,rfl⟩
 have hdst:=hd hlen;rcases DZ h hbs hsrc hns hs with⟨rfl,rfl⟩ | ⟨ad,cx,news,rfl,n1,n2,n3,n4⟩
 .rcases hdst with⟨rfl,h0⟩ | ⟨_,c,rfl⟩
  .exact nothing none none 0 0 0 0 rfl rfl (by omega) rfl (.inr rfl)
  .exact nothing _ none n c 0 0 rfl rfl hlen.symm rfl (.inr rfl)
 .rcases hdst with⟨rfl,h0⟩ | ⟨hnil,c,rfl⟩
  .exact nothing none _ 0 0 _ cx rfl rfl (by omega) rfl (.inl (by omega))
  .by_cases hz:xs.length=0\/ys.length=0
   .exact nothing _ _ n c _ cx rfl rfl hlen.symm rfl hz
   .obtain⟨raw,r1,r2⟩:=h.bl nm _ hm;obtain⟨k,hk⟩:∃k,k=Nat.min ys.length n:=⟨_,rfl⟩;have hkn:k<=n:=by rw[hk];exact Nat.min_le_right _ _
    have hky:k<=ys.length:=by rw[hk];exact Nat.min_le_left _ _
    have hrl:raw.length=n*ty.sz:=by rw[r1.1,hlen]
    have hmul:k*ty.sz<=n*ty.sz:=vU _ hkn;have hmul2:k*ty.sz<=ys.length*ty.sz:=vU _ hky;have hcs:(news.take (k*ty.sz)).length=k*ty.sz:=by rw[qI];omega
    have e3:(E nm).handle xs.length=.slice (some ⟨(E nm).b,0,none⟩) xs.length (E nm).cap:=by unfold Ent.handle;rw[hnil];rfl
    rw[e3]at r1;obtain⟨rl,r1⟩:=r1;rcases r1 with⟨hq,_⟩ | ⟨g,cap,cur,hq,hg0,hg,hcap,hmax,hcur,htake⟩
    .cases hq
    simp only[zM,vZ,gG,vP,zS]at hq;obtain⟨hq1,hq2⟩:=hq;rw[hlen]at hcap htake;have hcapm:n*ty.sz<=cap*ty.sz:=vU _ hcap;have hrun:=run_copy_cells (P:=S.P) w t sT oty e ty.sz g n c ad ys.length cx cur el (news.take (k*ty.sz)) hue hsz hg (by rw[hcs,hk])
     (λj v hj=>by
      rw[vM]at hj;split at hj
      .exact n2 j v hj
      .cases hj) (by rw[hcs,hcur];omega) (λv hv=>n3 v (qBa hv))
    refine⟨_,_,by rw[hq1];exact hrun,?_⟩;have hxl:(Gl xs ys).length=xs.length:=by
     simp only[Gl,qG,qI,vY];omega
    obtain⟨D',E',hst⟩:=aH.stored (b:=.buf el ty (Gl xs ys) []) h hm hnil rfl hxl.symm (news.take (k*ty.sz)++cur.toList.drop (news.take (k*ty.sz)).length).toArray (λC' L N hw=>by
     refine⟨news.take (k*ty.sz)++raw.drop (k*ty.sz),⟨?_,.inr ⟨g,cap,(news.take (k*ty.sz)++cur.toList.drop (news.take (k*ty.sz)).length).toArray,?_,hg0,?_,?_,hmax,?_,?_⟩⟩,λi y hy=>?_⟩
     .rw[hxl,qG,hcs,vY,hrl,hlen];omega
     .unfold Ent.handle;rw[hnil,hxl,hq1,hq2];rfl
     .rw[hw,hq1];exact qDp w g cur _ el _ hg
     .rw[hxl,hlen];exact hcap
     .rw[gI,qG,hcs,vY,vI,hcur];omega
     .rw[hxl,hlen,List.toList_toArray,qDc,hcs,qO (by rw[hcs];exact hmul),<- htake,qCn]
     .have hi:i<xs.length:=by have:=(qF.1 hy).1;rwa [hxl]at this
      simp only[List.lookup];by_cases hik:i<k
      .have hy':ys[i]?=some y:=by
        simp only[Gl]at hy;rw[vJ (by rw[qI];omega),vM]at hy;rw[if_pos (by omega)]at hy;exact hy
       have:=n4 i y hy';have hiz:i*ty.sz+ty.sz<=k*ty.sz:=by
        have:=vU ty.sz (show i+1<=k from hik);rw[zG,zT]at this;exact this
       have e5:((news.take (k*ty.sz)++raw.drop (k*ty.sz)).drop (i*ty.sz)).take ty.sz=(news.drop (i*ty.sz)).take ty.sz:=by
        rw[kS (by rw[hcs];omega),yK (by rw[vY,hcs];omega),qCn,qCm,yY (by omega)]
       rw[e5];exact al L.D L.w this
      .have hy':xs[i]?=some y:=by
        simp only[Gl]at hy;have hyl:ys.length<=i:=by
         rw[hk]at hik;have:¬(i<ys.length):=λg1=>hik (Nat.lt_min.2 ⟨g1,by omega⟩)
         omega
        rw[qW (by rw[qI];omega),qY,qI]at hy;rw[show ys.length+(i-min xs.length ys.length)=i by omega]at hy;exact hy
       have:=r2 i y hy';simp only[List.lookup]at this;have hiz:k*ty.sz<=i*ty.sz:=vU _ (by omega);have e5:(news.take (k*ty.sz)++raw.drop (k*ty.sz)).drop (i*ty.sz)=raw.drop (i*ty.sz):=by
        rw[qDg,zN (by rw[hcs];exact hiz),xM,hcs,yG]
        congr 1;omega
       rw[e5];exact al L.D L.w this)
    refine⟨D',E',by rw[<- hq1];exact hst,?_⟩;simp only[jq,AV.rel,ah,qR,vP,qDj,zS,Eu];rw[show Nat.min ys.length n=min ys.length n from rfl,hlen];omega
theorem UH{S:Base}{σ:Sig}{a:Act}{w:World}{D:Nat->Prop}{E:Nat->Ent}(h:aH S σ a w D E){t sT oty:TypeId}{d s:RV}{c:Core}{vd vs:Value}
  (hbd:d.2=ct σ.m d.1) (hbs:s.2=ct σ.m s.1) (hc:Zi S.P t d s=some c) (hn:∀q∈c.need,q)
  (hd:d.1.rel S.P ⟨w,D,σ.m,E⟩ vd) (hs:s.1.rel S.P ⟨w,D,σ.m,E⟩ vs):
  ∃r w',(Builtin.copy_ #[t,sT] oty #[vd,vs]).run S.P w=.ok r w'/\Outcome S ⟨σ.T,upM σ.m c.upd,σ.sv⟩ a c.val r w':=by
 unfold Zi at hc;split at hc
 case h_2=>cases hc
 rename_i e he;split at hc
 .rename_i nm n el ty xs;split at hc
  case isFalse=>cases hc
  rename_i hsz;split at hc
  case h_2=>cases hc
  rename_i ns ys hsrc;cases hc;have hm:σ.m nm=some (.buf el ty xs []):=hbd.symm;refine CB h he hsz hm hbs hsrc hn (λhl=>?_) hs;have hv:=(hd _ hm).2 hl;unfold Ent.handle at hv;split at hv
  .rename_i hq;obtain⟨raw,r1,_⟩:=h.bl nm _ hm;have e3:(E nm).handle xs.length=.slice none 0 0:=by unfold Ent.handle;rw[hq];rfl
   rw[e3]at r1;rcases r1.2 with⟨_,hz⟩ | ⟨g,cap,cur,hq,_⟩
   .exact .inl ⟨hv,by rw[<- hl];exact hz⟩
   .cases hq
  .rename_i hq;exact .inr ⟨by simpa using hq,_,hv⟩
 .rename_i nm n el ty xs;split at hc
  case isFalse=>cases hc
  rename_i hsz;split at hc
  case h_2=>cases hc
  rename_i ns ys hsrc;cases hc;have hm:σ.m nm=some (.buf el ty xs []):=hbd.symm;refine CB h he hsz hm hbs hsrc hn (λhl=>?_) hs;obtain⟨q1,cap,_,q2⟩:=(hd _ hm).2 hl;exact .inr ⟨q1,cap,q2⟩
 .cases hc
end Go.Eng
namespace Go.Eng
open Go.RowKit
def Bg(P:Program)(t:TypeId)(i:Nat): Option (Nat×Nat):=match P.underlying t with
 | some (.struct fs)=>match fs[i]? with
  | some f=>match sizeT P f.type with
   | some n=>some (f.offset,n)
   | none=>none
  | none=>none
 | some (.array _ e)=>match sizeT P e with
  | some n=>some (i*n,n)
  | none=>none
 | _=>none
def MR(P:Program)(t:TypeId): Bool:=match P.underlying t with
 | some (.struct fs)=>fs.toList.all λf=>(sizeT P f.type).isSome
 | some (.array _ e)=>(sizeT P e).isSome
 | _=>false
def FW(place:Nat->Option (Nat×Nat)): List Nat->List RV->List AV->Option (List Prop×List AV)
 | [],[],cs=>some ([],cs)
 | i::is,v::vs,cs=>match place i,Bo v with
  | some (off,size),some ns=>if(cw v.1).length=size/\off+size<=cs.length then
    match FW place is vs (cs.take off++cw v.1++cs.drop (off+size))with
    | some (ms,r)=>some (ns++ms,r)
    | none=>none
   else none
  | _,_=>none
 | _,_,_=>none
def Px(P:Program)(t:TypeId)(idxs:List Nat)(vs:List RV): Option Core:=
 match(P.info? t).bind (·.zero)with
 | some z=>if MR P t then match FW (Bg P t) idxs vs (z.cells.toList.map Bv)with
  | some (ns,cs)=>some {need:=ns,val:=.agg cs}
  | none=>none
  else none
 | none=>none
theorem A1{P:Program}{w:World}: ∀{l:List Field},(l.all λf=>(sizeT P f.type).isSome)=true->
  ((l.mapM λf=>do pure (f.offset,<- sizeOf f.type)):Sem (List (Nat×Nat))).run P w=.ok (l.map λf=>(f.offset,(sizeT P f.type).getD 0)) w
 | [],_=>by simp
 | f::l,h=>by
  simp only[qAj,qC]at h;obtain⟨n,hn⟩:=qAc.1 h.1;have ih:=A1 (w:=w) h.2;rw[qDt];simp only[wB,bA hn,vS,zU,ih,hn,qQ,zH]
theorem H7{S:Base}{σ:Sig}{w:World}{D:Nat->Prop}{E:Nat->Ent}{place:Nat->Option (Nat×Nat)}: ∀{is:List Nat} {vs:List RV} {cs r:List AV} {ns:List Prop} {us:Lv} {A:Array Value},
  FW place is vs cs=some (ns,r)->(∀q∈ns,q)->(∀v∈vs,v.2=ct σ.m v.1)->AV.relL S.P ⟨w,D,σ.m,E⟩ cs A.toList->AV.relL S.P ⟨w,D,σ.m,E⟩ (vs.map (·.1)) us->
  ∃B,Instr.fill place A (is.zip us)=some B/\AV.relL S.P ⟨w,D,σ.m,E⟩ r B.toList
 | [],[],cs,r,ns,us,A,h,_,_,hA,hu=>by
  simp only[FW]at h;cases h;exact⟨A,rfl,hA⟩
 | i::is,v::vs,cs,r,ns,us,A,h,hn,hv,hA,hu=>by
  simp only[FW]at h;split at h
  case h_2=>cases h
  rename_i off size n1 hp h1;split at h
  case isFalse=>cases h
  rename_i hsz;split at h
  case h_2=>cases h
  rename_i ms r' hr;cases h;obtain⟨u,us',rfl,g1,g2⟩:=hu;obtain⟨zs,z1,z2,_⟩:=my (hv v (by simp)) h1 (λq hq=>hn q (qH.2 (.inl hq))) g1;have hl:=AV.relL_length hA;have hlz:=AV.relL_length z2;have hoff:off+zs.length<=A.size:=by rw[<- vI,<- hl,<- hlz];omega
  have hset:=foldl_set zs A off 0 (by simpa using hoff);generalize hA':(zs.zipIdx 0).foldl (λa (c,j)=>a.setIfInBounds (off+j) c) A=A' at hset;simp only[yU]at hset;have hrel:AV.relL S.P ⟨w,D,σ.m,E⟩ (cs.take off++cw v.1++cs.drop (off+size)) A'.toList:=by
   rw[hset,<- hlz,hsz.1];exact AV.relL_append (AV.relL_append (AV.relL_take hA off) z2) (AV.relL_drop hA (off+size))
  obtain⟨B,b1,b2⟩:=H7 hr (λq hq=>hn q (qH.2 (.inr hq))) (λq hq=>hv q (by simp[hq])) hrel g2;refine⟨B,?_,b2⟩;simp only[List.zip_cons_cons,Instr.fill,hp,z1];have hx:zs.toArray.size=size:=by rw[gI,<- hlz];exact hsz.1
  have hx2:zs.length=size:=by simpa using hx
  have hif:¬(zs.toArray.size≠size\/off+zs.toArray.size>A.size):=by rw[hx];omega
  rw[if_neg (by simpa using hif)];have hz:zs.toArray.zipIdx.foldl (λcs x=>cs.setIfInBounds (off+x.2) x.1) A=A':=by
   rw[<- hA',<- Array.foldl_toList];simp
  rw[hz];exact b1
 | [],_::_,_,_,_,_,_,h,_,_,_,_=>by simp[FW]at h
 | _::_,[],_,_,_,_,_,h,_,_,_,_=>by simp[FW]at h
theorem Pv{S:Base}{σ:Sig}{w:World}{D:Nat->Prop}{E:Nat->Ent}{t:TypeId}{idxs:List Nat}{vs:List RV}{us:Lv}{c:Core}
  (hc:Px S.P t idxs vs=some c) (hn:∀q∈c.need,q) (hv:∀v∈vs,v.2=ct σ.m v.1) (hu:AV.relL S.P ⟨w,D,σ.m,E⟩ (vs.map (·.1)) us):
  ∃r,(Instr.build t (idxs.zip us).toArray).run S.P w=.ok r w/\c.val.rel S.P ⟨w,D,σ.m,E⟩ r/\c.upd=[]/\c.new=none:=by
 unfold Px at hc;split at hc
 case h_2=>cases hc
 rename_i z hz;split at hc
 case isFalse=>cases hc
 rename_i hso;split at hc
 case h_2=>cases hc
 rename_i ns cs hf;cases hc;obtain⟨i,hi,hiz⟩:=qBs.1 hz;have zrun:(zeroValue t).run S.P w=.ok z w:=by simp[zeroValue,typeInfo,hi,hiz]
 obtain⟨B,b1,b2⟩:=H7 (A:=z.cells) hf hn hv (pz _) hu;refine⟨.agg B,?_,⟨B.toList,by simp,b2⟩,rfl,rfl⟩;unfold MR at hso;split at hso
 .rename_i fs hu;have hr:=A1 (w:=w) hso;have hr2:((fs.mapM λf=>do pure (f.offset,<- sizeOf f.type)):Sem (Array (Nat×Nat))).run S.P w=.ok (fs.toList.map λf=>(f.offset,(sizeT S.P f.type).getD 0)).toArray w:=by
   rw[qDb,map_eq_pure_bind];simp only[wB,hr,vS,zU]
  have hpl:(λx=>(fs.toList.map λf=>(f.offset,(sizeT S.P f.type).getD 0)).toArray[x]?)=Bg S.P t:=by
   funext j
   unfold Bg;rw[hu];simp only[kG,qP,zX];cases hj:fs[j]? with
   | none=>rfl
   | some f=>
    have:=qM.1 hso f (by rw[<- zX]at hj;exact zD hj);obtain⟨n,hn⟩:=qAc.1 this;simp[hn]
  simp only[Instr.build,wB,zrun,vS,vF hu,hr2,hpl,b1,zU]
 .rename_i n e hu;obtain⟨m,hm⟩:=qAc.1 hso;have hpl:(λi=>some (i*m,m))=Bg S.P t:=by
   funext j
   unfold Bg;rw[hu];simp only[hm]
  simp only[Instr.build,wB,zrun,vS,vF hu,bA hm,hpl,b1,zU]
 .cases hso
def yk(P:Program)(t:TypeId)(l c:AV)(same:Bool): Option Core:=
 match cN P t with
 | some e=>match I2 P e with
  | some ty=>match rV P e ty with
   | some bytes=>match l,c with
    | .dat (.int _) _,.dat (.int _) c=>if same then some {need:=[0<=c,(bytes:Int)*c<=281474976710656,c<=9223372036854775807],val:=.dat (.sl ty) (Ep c ty.dflt)} else none
    | _,_=>none
   | none=>none
  | none=>none
 | none=>none
theorem E7{S:Base}{σ:Sig}{a:Act}{w:World}{D:Nat->Prop}{E:Nat->Ent}(h:aH S σ a w D E){t:TypeId}{l c:AV}{same:Bool}{co:Core}{vl vc:Value}
  (hsame:same=true->vl=vc) (hc:yk S.P t l c same=some co) (hn:∀q∈co.need,q) (hl:l.rel S.P ⟨w,D,σ.m,E⟩ vl) (hcr:c.rel S.P ⟨w,D,σ.m,E⟩ vc):
  ∃r w',(Instr.makeSlice t vl vc).run S.P w=.ok r w'/\Outcome S ⟨σ.T,upM σ.m co.upd,σ.sv⟩ a co.val r w':=by
 unfold yk at hc;split at hc
 case h_2=>cases hc
 rename_i e he;split at hc
 case h_2=>cases hc
 rename_i ty hty;split at hc
 case h_2=>cases hc
 rename_i bytes hz;obtain⟨i,z,hi,hz1,hz2,hz3,hz4⟩:=ix hz;have hue:=cq he;have hzs:z.cells.size=ty.sz:=by rw[<- vI,hz4,aW]
 split at hc
 case h_2=>cases hc
 rename_i kl l kc c;simp only[AV.rel,ah,qR,vP]at hl hcr;subst hl hcr;obtain⟨c,rfl⟩:∃j:Int,j=c:=⟨c,rfl⟩;obtain⟨l,rfl⟩:∃j:Int,j=l:=⟨l,rfl⟩;split at hc
 case isFalse=>cases hc
 rename_i hsm;cases hc;have h0:(0:Int)<=c:=hn _ (.head _);have h1:(bytes:Int)*c<=281474976710656:=hn _ (.tail _ (.head _));have h2:c<=9223372036854775807:=hn _ (.tail _ (.tail _ (.head _)));have hlc:=hsame hsm;simp only[qDj]at hlc;obtain⟨rfl,rfl⟩:=hlc;obtain⟨n,rfl⟩:=qBt h0;have hb:i.bytes*n<=281474976710656:=by rw[hz3];have h3:((bytes*n:Nat):Int)<=281474976710656:=(by rw[qDn];exact h1);omega
 obtain⟨w',r1,r2,r3⟩:=run_make_full (P:=S.P) w 0 t e i z ty.sz hue hi hz1 hz2 kl kl n hb (by unfold maxLen;omega) (wU _);have hrows:(madeCells z.cells (n*ty.sz)).toList=(List.replicate n (zeroCells ty)).flatten:=by
  rw[mY z.cells ty.sz hzs (Ty.sz_pos ty) n,hz4]
 rw[hrows]at r2;have hbw:Below w.heap.size w w':=⟨r3.os,r3.tape,r3.output,r3.size,λk hk=>r3.block k hk (by simp)⟩;have hlt:w.heap.size<w'.heap.size:=by
  rcases r2.2 with⟨hv,_⟩ | ⟨g,cap,cur,hv,_,hh,_⟩
  .cases hv
  .simp only[zM,vZ,gG,vP,zS]at hv;rw[hv.1];exact(vK.1 hh).1
 refine⟨_,w',r1,λb=>D b\/b=w.heap.size,E,h.world hbw (λb=>⟨λg=>?_,λg=>?_⟩) (λb g=>?_),?_⟩
 .rcases g with g | g
  .exact .inl g
  .exact .inr ⟨⟨by omega,by omega⟩,.inr g⟩
 .rcases g with g | g
  .exact .inl g
  .exact g.2
 .rcases g with g | g
  .have:=h.dlt b g;omega
  .omega
 .have hall:∀us∈List.replicate n (zeroCells ty),us.length=ty.sz:=λus hus=>by rw[(List.mem_replicate.1 hus).2,aW]
  have hrl:(List.replicate n ty.dflt).length=n:=wJ;show ah _ _ (.sl ty) (List.replicate (n:Int).toNat ty.dflt) _;rw[vC];refine⟨some ⟨w.heap.size,0,none⟩,n,by rw[hrl],by rw[hrl];exact qJ _,λg=>(by cases g),λad g _=>(by cases g;rfl),λj y hy=>?_⟩;have hj:j<n:=by have:=(qF.1 hy).1;rwa [hrl]at this
  have ey:y=ty.dflt:=by
   have:=(qF.1 hy).2;simpa using this.symm
  refine⟨_,zeroCells ty,rfl,.inr rfl,λq u hq=>?_,by rw[ey];exact fD _ _ ty⟩;have hcell:=r2.cells rfl;have hq2:q<ty.sz:=by have:=(qF.1 hq).1;rwa [aW]at this
  have hseg:=gi ty.sz _ hall j (zeroCells ty) (by rw[wQ,if_pos hj]);have hfl:((List.replicate n (zeroCells ty)).flatten)[j*ty.sz+q]?=some u:=by
   rw[<- hseg,vM,if_pos hq2,qY]at hq;exact hq
  have:=hcell (j*ty.sz+q) u hfl;simp only[yM,wY]at this ⊢;exact this
end Go.Eng
namespace Go.Eng
open Go.RowKit
def rx(P:Program)(t:TypeId)(ty:Ty): Option Nat:=match P.underlying t with
 | some (.array _ _)=>match sizeT P t with
  | some k=>if k=k/ty.sz*ty.sz then some (k/ty.sz)else none
  | none=>none
 | _=>none
theorem nJ{P:Program}{t:TypeId}{ty:Ty}{n:Nat}(h:rx P t ty=some n): (∃m e,P.underlying t=some (.array m e))/\sizeT P t=some (n*ty.sz):=by
 unfold rx at h;split at h
 .rename_i m e hu;split at h
  .rename_i k hk;split at h
   .rename_i hd;cases h;exact⟨⟨m,e,hu⟩,hk.trans (yA some hd)⟩
   .cases h
  .cases h
 .cases h
theorem aH.bufCells {S:Base} {σ:Sig} {a:Act} {w:World} {D:Nat->Prop} {E:Nat->Ent} (h:aH S σ a w D E) {nm:Nat} {el:TypeId} {t:Ty} {xs:List t.den} {ov:List (Nat×AV)}
  (hm:σ.m nm=some (.buf el t xs ov)) (hnil:(E nm).isNil=false):∃raw,bW S.P ⟨w,D,σ.m,E⟩ t xs ov raw/\raw.length=xs.length*t.sz/\cJ w (E nm).b 0 raw:=by
 obtain⟨raw,r1,r2⟩:=h.bl nm _ hm;have e3:(E nm).handle xs.length=.slice (some ⟨(E nm).b,0,none⟩) xs.length (E nm).cap:=by unfold Ent.handle;rw[hnil];rfl
 rw[e3]at r1;refine⟨raw,r2,r1.1,λj u hj=>?_⟩;have hlt:j<xs.length*t.sz:=by rw[<- r1.1];exact(qF.1 hj).1
 show w.cell? ⟨(E nm).b,0+j,none⟩=some u;rw[wY,r1.cellAt j hlt];exact hj
theorem qk{P:Program}{C:Ctx}{t:Ty}{xs:List t.den}{raw:Lv}(h:bW P C t xs [] raw)(hl:raw.length=xs.length*t.sz): ql C.w C.D t xs raw:=
 ⟨hl,λi y hy=>by have:=h i y hy;simpa only[List.lookup]using this⟩
theorem lL{P:Program}{C:Ctx}{t:Ty}{xs:List t.den}{raw:Lv}(h:ql C.w C.D t xs raw): bW P C t xs [] raw:=
 λi y hy=>by simp only[List.lookup];exact h.2 i y hy
theorem Jj{w:World}{D:Nat->Prop}{t:Ty}{xs:List t.den}{us:Lv}(h:ql w D t xs us): ∀u∈us,u.oneCell'=true:=
 qm (P:=default) (C:=⟨w,D,λ_=>none,λ_=>⟨0,0,true,noR⟩⟩) h.1 (lL h)
theorem sQ{w w':World}{D D':Nat->Prop}(hD:∀b,D b->D' b)(hw:∀b,D b->w'.heap[b]?=w.heap[b]?){t:Ty}{xs:List t.den}{us:Lv}(h:ql w D t xs us): ql w' D' t xs us:=
 ⟨h.1,λi y hy=>al hD hw (h.2 i y hy)⟩
theorem Ba{w:World}{D:Nat->Prop}{t:Ty}{xs:List t.den}{b off n c:Nat}(h:ah w D (.sl t) xs [.slice (some ⟨b,off,none⟩) n c]): ∃us,ql w D t xs us/\cJ w b off us:=by
 obtain⟨ao,cap,h1,_,_,_,h5⟩:=h;simp only[qR,zM,vP]at h1;obtain⟨h1,_,_⟩:=h1;obtain⟨news,n1,n2,_,n4⟩:=kp (w:=w) (D:=D) (b:=b) xs off (λi y hy=>by
  obtain⟨a,ue,g1,_,g3,g4⟩:=h5 i y hy;rw[<- h1]at g1;cases g1;exact⟨ue,g3,g4⟩)
 exact⟨news,⟨n1,n4⟩,n2⟩
def rK(P:Program)(t:TypeId)(p:RV): Option Core:=match p with
 | (.ptr _ g i 0,some (.buf _ ty xs []))=>match rx P t ty with
  | some n=>some {need:=[Dj xs=g,i=0,Dj xs=n],val:=.av ty xs}
  | none=>none
 | (.ia ty xs,_)=>match rx P t ty with
  | some n=>some {need:=[Dj xs=n],val:=.av ty xs}
  | none=>none
 | _=>none
theorem tG{S:Base}{σ:Sig}{a:Act}{w:World}{D:Nat->Prop}{E:Nat->Ent}(h:aH S σ a w D E){p:RV}{t:TypeId}{c:Core}{v:Value}
  (hb:p.2=ct σ.m p.1) (hc:rK S.P t p=some c) (hn:∀q∈c.need,q) (hp:p.1.rel S.P ⟨w,D,σ.m,E⟩ v):
  ∃r,(Instr.loadAt t v).run S.P w=.ok r w/\c.val.rel S.P ⟨w,D,σ.m,E⟩ r/\c.upd=[]/\c.new=none:=by
 have fin:∀{ty:Ty} {xs:List ty.den} {n:Nat} {b off:Nat} {us:Lv},rx S.P t ty=some n->xs.length=n->ql w D ty xs us->cJ w b off us->
   (Instr.loadAt t (.pointer (some ⟨b,off,none⟩))).run S.P w=.ok (.agg us.toArray) w:=by
  intro ty xs n b off us h1 h2 h3 h4;obtain⟨⟨m,e,hu⟩,hs⟩:=nJ h1;exact run_loadAt_mid (P:=S.P) w b off t us (.array m e) h4 hu rfl (by rw[h3.1,h2];exact hs)
 unfold rK at hc;split at hc
 .rename_i nm g i el ty xs;split at hc
  .rename_i n hn1;cases hc;have hm:σ.m nm=some (.buf el ty xs []):=hb.symm;have e1:xs.length=g:=hn _ (by simp);have e2:i=0:=hn _ (by simp);have e3:xs.length=n:=hn (xs.length=n) (by simp);obtain⟨_,q2,q3⟩:=(hp _ hm).2 e1;obtain⟨raw,r1,r2,r3⟩:=h.bufCells hm q2;have ev:v=.pointer (some ⟨(E nm).b,0,none⟩):=by
    rw[q3,e2];show Value.pointer (some ⟨(E nm).b,0*_+0,none⟩)=_;rw[yR]
   rw[ev];exact⟨_,fin hn1 e3 (qk r1 r2) r3,⟨raw,rfl,qk r1 r2⟩,rfl,rfl⟩
  .cases hc
 .split at hc
  .rename_i n hn1;cases hc;rename_i ty xs _ _;have e3:xs.length=n:=hn (xs.length=n) (by simp);obtain⟨b,off,rfl,g⟩:=hp;obtain⟨us,r1,r2⟩:=Ba g;exact⟨_,fin hn1 e3 r1 r2,⟨us,rfl,r1⟩,rfl,rfl⟩
  .cases hc
 .cases hc
def E9(P:Program)(t:TypeId)(p:RV): Option Core:=match rK P t p with
 | some c=>some c
 | none=>T8 P t p
theorem Jt{S:Base}{σ:Sig}{a:Act}{w:World}{D:Nat->Prop}{E:Nat->Ent}(h:aH S σ a w D E){p:RV}{t:TypeId}{c:Core}{v:Value}
  (hb:p.2=ct σ.m p.1) (hc:E9 S.P t p=some c) (hn:∀q∈c.need,q) (hp:p.1.rel S.P ⟨w,D,σ.m,E⟩ v):
  ∃r,(Instr.loadAt t v).run S.P w=.ok r w/\c.val.rel S.P ⟨w,D,σ.m,E⟩ r/\c.upd=[]/\c.new=none:=by
 unfold E9 at hc;split at hc
 .rename_i c' hc';cases hc;exact tG h hb hc' hn hp
 .exact HI h hb hc hn hp
def sg(P:Program)(t:TypeId)(p v:RV): Option Core:=match p,v with
 | (.ptr nm g i 0,some (.buf el ty xs [])),(.av ty' ys,_)=>if h:ty'=ty then match rx P t ty with
  | some n=>some {need:=[Dj xs=g,i=0,Dj xs=n,Dj ys=n],val:=.val undef,upd:=[(nm,.buf el ty (h▸ys) [])]}
  | none=>none
  else none
 | _,_=>none
theorem Az{S:Base}{σ:Sig}{a:Act}{w:World}{D:Nat->Prop}{E:Nat->Ent}(h:aH S σ a w D E){t:TypeId}{p v:RV}{c:Core}{vp u:Value}
  (hbp:p.2=ct σ.m p.1) (hc:sg S.P t p v=some c) (hn:∀q∈c.need,q)
  (hp:p.1.rel S.P ⟨w,D,σ.m,E⟩ vp) (hv:v.1.rel S.P ⟨w,D,σ.m,E⟩ u):
  c.new=none/\c.val=.val undef/\∃w',(Instr.storeAt t vp u).run S.P w=.ok () w'/\∃D E,aH S ⟨σ.T,upM σ.m c.upd,σ.sv⟩ a w' D E:=by
 unfold sg at hc;split at hc
 case h_2=>cases hc
 rename_i nm g i el ty xs ty' ys _;split at hc
 case isFalse=>cases hc
 rename_i hty;subst hty;split at hc
 case h_2=>cases hc
 rename_i n hn1;cases hc;have hm:σ.m nm=some (.buf el ty' xs []):=hbp.symm;have e1:xs.length=g:=hn _ (by simp);have e2:i=0:=hn _ (by simp);have e3:xs.length=n:=hn (xs.length=n) (by simp);have e4:ys.length=n:=hn _ (by simp);obtain⟨_,hnil,q3⟩:=(hp _ hm).2 e1;have hnil':(E nm).isNil=false:=hnil;have ev:vp=.pointer (some ⟨(E nm).b,0,none⟩):=by
  rw[q3,e2];show Value.pointer (some ⟨(E nm).b,0*_+0,none⟩)=_;rw[yR]
 obtain⟨us,rfl,g⟩:=hv;obtain⟨⟨m,e,hu⟩,hs⟩:=nJ hn1;have hl:us.length=n*ty'.sz:=by rw[g.1,e4]
 obtain⟨raw,r1,r2⟩:=h.bl nm _ hm;have hhd:(E nm).handle xs.length=.slice (some ⟨(E nm).b,0,none⟩) xs.length (E nm).cap:=by unfold Ent.handle;rw[hnil'];rfl
 rw[hhd]at r1;obtain⟨cur,c1,c2,c3⟩:=eQ r1 0 us (by rw[hl,e3];omega);have hrun:=ff (P:=S.P) (t:=t) (u:=.agg us.toArray) c1 (by rw[hl];exact hs) rfl c2 (Jj g);refine⟨rfl,rfl,_,by rw[ev];exact hrun,h.stored (b:=.buf el ty' ys []) hm hnil' rfl (by show xs.length=ys.length;omega) _ λC' L N hw=>?_⟩;refine⟨us,?_,lL (sQ L.D L.w g)⟩;have hrl:=r1.1;have e5:raw.take 0++us++raw.drop (0+us.length)=us:=by
  rw[qCk,xM,wY,zN (by rw[hrl,hl,e3];omega),wH]
 rw[e5]at c3;rw[hw];have hh2:(E nm).handle ys.length=.slice (some ⟨(E nm).b,0,none⟩) xs.length (E nm).cap:=by unfold Ent.handle;rw[hnil',show ys.length=xs.length by omega];rfl
 rw[hh2,show ys.length=xs.length by omega];exact c3
def Bn(m:Nat->Option Blk): List AV->Option (List Prop)
 | []=>some []
 | c::cs=>match s8 (c,ct m c),Bn m cs with
  | some a,some b=>some (a++b)
  | _,_=>none
theorem HA{P:Program}{C:Ctx}: ∀{cs:List AV} {ns:List Prop} {us:Lv},Bn C.m cs=some ns->(∀q∈ns,q)->AV.relL P C cs us->∀u∈us,u.oneCell'=true
 | [],_,us,_,_,hr=>by
  have:us=[]:=hr;subst this;intro u hu;cases hu
 | c::cs,ns,us,h,hn,hr=>by
  simp only[Bn]at h;split at h
  .rename_i a b h1 h2;cases h;obtain⟨u,us',e,g1,g2⟩:=hr;subst e;intro x hx;rcases zJ.1 hx with rfl | hx
   .exact NH (p:=(c,ct C.m c)) (.inr rfl) h1 (λq hq=>hn q (qH.2 (.inl hq))) g1
   .exact HA h2 (λq hq=>hn q (qH.2 (.inr hq))) g2 x hx
  .cases h
theorem nq{m m':Nat->Option Blk}: ∀{cs:List AV},(∀k∈AV.namesL cs,m' k=m k)->Bn m' cs=Bn m cs
 | [],_=>rfl
 | c::cs,h=>by
  simp only[Bn];have e:ct m' c=ct m c:=by
   cases c<;>first | rfl | exact h _ (by simp[AV.namesL,AV.names])
  rw[e,nq λk hk=>h k (by simp[AV.namesL,hk])]
def jy(P:Program)(m:Nat->Option Blk)(t:TypeId)(p v:RV): Option Core:=match p,v.1 with
 | (.ptr nm g i c,some (.var cs)),.agg ds=>match Bn m ds,sizeT P t with
  | some ns,some k=>if k=ds.length/\c+ds.length<=cs.length then
    some {need:=[1=g,i=0]++ns,val:=.val undef,upd:=[(nm,.var (cs.take c++ds++cs.drop (c+ds.length)))]} else none
  | _,_=>none
 | _,_=>none
theorem Aw{S:Base}{σ:Sig}{a:Act}{w:World}{D:Nat->Prop}{E:Nat->Ent}(h:aH S σ a w D E){t:TypeId}{p v:RV}{c:Core}{vp u:Value}
  (hbp:p.2=ct σ.m p.1) (hc:jy S.P σ.m t p v=some c) (hn:∀q∈c.need,q)
  (hp:p.1.rel S.P ⟨w,D,σ.m,E⟩ vp) (hv:v.1.rel S.P ⟨w,D,σ.m,E⟩ u):
  c.new=none/\c.val=.val undef/\∃w',(Instr.storeAt t vp u).run S.P w=.ok () w'/\∃D E,aH S ⟨σ.T,upM σ.m c.upd,σ.sv⟩ a w' D E:=by
 unfold jy at hc;split at hc
 case h_2=>cases hc
 rename_i _ nm g i c0 cs ds hv1;split at hc
 case h_2=>cases hc
 rename_i ns k hone hsz;split at hc
 case isFalse=>cases hc
 rename_i hk;obtain⟨hk,hfit⟩:=hk;cases hc;rw[hv1]at hv;obtain⟨us,rfl,g2⟩:=hv;have hm:σ.m nm=some (.var cs):=hbp.symm;have g3:=HA (C:=⟨w,D,σ.m,E⟩) hone (λq hq=>hn q (by simp[hq])) g2;have e1:1=g:=hn _ (by simp);have e2:i=0:=hn _ (by simp);subst e2;obtain⟨_,hnil,ev⟩:=(hp _ hm).2 e1;have hnil':(E nm).isNil=false:=hnil;have ev':vp=.pointer (some ⟨(E nm).b,c0,none⟩):=by rw[ev,yR,wY]
 obtain⟨_,cur,el,r1,r2⟩:=h.bl nm _ hm;have hl1:=AV.relL_length g2;have hl2:=AV.relL_length r2;have hcur:c0+us.length<=cur.size:=by
  have hf:=hfit;rw[hl1,hl2,vI]at hf;exact hf
 have hrun:=ff (P:=S.P) (t:=t) (o:=c0) (u:=.agg us.toArray) r1 (by rw[hsz,hk,hl1]) rfl hcur g3;refine⟨rfl,rfl,w.setRow (E nm).b (cur.toList.take c0++us++cur.toList.drop (c0+us.length)).toArray,by rw[ev'];exact hrun,?_⟩;have hes:(Blk.var cs).es=(Blk.var (cs.take c0++ds++cs.drop (c0+ds.length))).es:=by
  simp only[Blk.es,qG,qI,vY];omega
 refine aH.stored h hm hnil' hes rfl (cur.toList.take c0++us++cur.toList.drop (c0+us.length)).toArray λC' L N hw=>?_
 refine⟨hnil',(cur.toList.take c0++us++cur.toList.drop (c0+us.length)).toArray,el,by rw[hw];exact qDp w _ cur _ el _ r1,?_⟩;exact yc (AV.relL_mono L (λk _=>N k) r2) (AV.relL_mono L (λk _=>N k) g2) c0 (by omega)
theorem sd{P:Program}{m m':Nat->Option Blk}{t:TypeId}{p v:RV}(h:∀k∈v.1.names,m' k=m k): jy P m' t p v=jy P m t p v:=by
 unfold jy;split
 .rename_i ds hv;rw[hv]at h;rw[nq (m:=m) (m':=m') (λk hk=>h k (by simpa[AV.names]using hk))]
 .rfl
def aEG: AV->Bool
 | .fn _ _=>true
 | _=>false
def aBV: AV->Bool
 | .fn _ _=>true
 | .ip _ _=>true
 | .ips _=>true
 | .yld _=>true
 | _=>false
def Gw(P:Program)(mt:Bool)(nx:Nat)(elem:TypeId)(p:RV): Option Core:=match p.1 with
 | .av ty xs=>match rx P elem ty with
  | some n=>if mt=true then(if 0<n/\n<=1000000 then some {need:=[Dj xs=n],val:=.ptr nx n 0 0,upd:=[(nx,.buf elem ty xs [])],new:=some nx} else none)
   else some {val:=.ia ty xs}
  | none=>none
 | a=>if mt=false/\aBV a=true then some {val:=.ipv a} else none
theorem Ks{S:Base}{σ:Sig}{a:Act}{w:World}{D:Nat->Prop}{E:Nat->Ent}(h:aH S σ a w D E){mt:Bool}{nx:Nat}{elem:TypeId}{p:RV}{c:Core}{v:Value}
  (hc:Gw S.P mt nx elem p=some c) (hn:∀q∈c.need,q) (hu:∀k,c.new=some k->Unm k σ) (hp:p.1.rel S.P ⟨w,D,σ.m,E⟩ v):
  ∃r w',(Instr.box elem v).run S.P w=.ok r w'/\Outcome S ⟨σ.T,upM σ.m c.upd,σ.sv⟩ a c.val r w':=by
 have run:∀us:Lv,v.cells=us.toArray->(Instr.box elem v).run S.P w=.ok (.pointer (some ⟨w.heap.size,0,none⟩)) (w.alloc (.cells us.toArray elem)):=by
  intro us hus;simp[Instr.box,newVar,newRow,hus]
 have cellAt:∀(us:Lv),cJ (w.alloc (.cells us.toArray elem)) w.heap.size 0 us:=λus j u hj=>by
  rw[wY];show(w.alloc _).cell? ⟨w.heap.size,j,none⟩=some u;rw[kC];simpa using hj
 unfold Gw at hc;split at hc
 .rename_i ty xs hp1;rw[hp1]at hp;obtain⟨us,rfl,g⟩:=hp;have hlen:=g.1;split at hc
  case h_2=>cases hc
  rename_i n hn1;split at hc
  .split at hc
   case isFalse=>cases hc
   rename_i hk;obtain⟨k0,k1⟩:=hk;cases hc;have e3:xs.length=n:=hn _ (by simp);subst e3;have e4:upE E nx (⟨w.heap.size,xs.length,false,noR⟩:Ent) nx=⟨w.heap.size,xs.length,false,noR⟩:=by simp[upE]
   refine⟨_,_,run us rfl,D,upE E nx ⟨w.heap.size,xs.length,false,noR⟩,h.newBlk (hu nx rfl) (kB w _) (λ_=>⟨rfl,by rw[zO];simp⟩)
    ⟨us,⟨hlen,.inr ⟨w.heap.size,xs.length,us.toArray,?_,wU _,?_,qJ _,?_,?_,?_⟩⟩,?_⟩,λb hb=>?_⟩
   .simp[Ent.handle]
   .show(w.heap.push _)[w.heap.size]?=_;simp
   .unfold maxLen;omega
   .rw[<- vI];exact hlen
   .show us.take (xs.length*ty.sz)=us;rw[<- hlen,xC]
   .exact lL (sQ (λ_ g=>g) (λb hb=>yV w _ b (h.dlt b hb)) g)
   .replace hb:upM σ.m [(nx,.buf elem ty xs [])] nx=some b:=hb;rw[cO,if_pos rfl]at hb;cases hb;refine⟨qJ _,λ_=>⟨k0,?_,?_⟩⟩
    .show(upE E nx _ nx).isNil=false;rw[e4]
    .show _=Value.pointer (some ⟨(upE E nx _ nx).b,_,none⟩);rw[e4];simp
  .cases hc;refine⟨_,_,run us rfl,λb=>D b\/b=w.heap.size,E,h.newData _,w.heap.size,0,rfl,some ⟨w.heap.size,0,none⟩,xs.length,rfl,qJ _,(λh=>by cases h),(λad had _=>by cases had;rfl),λi y hy=>?_⟩;refine⟨_,_,rfl,.inr rfl,?_,al (λb hb=>.inl hb) (λb hb=>yV w _ b (h.dlt b hb)) (g.2 i y hy)⟩;intro j u hj;rw[vM]at hj;split at hj
   .rw[qY]at hj;have:=cellAt us (i*ty.sz+j) u hj;rw[wY]at this;show(w.alloc _).cell? ⟨w.heap.size,0+i*ty.sz+j,none⟩=some u;rw[wY];exact this
   .cases hj
 .split at hc
  case isFalse=>cases hc
  rename_i hk;obtain⟨_,hf⟩:=hk;cases hc;have hcells:v.cells=#[v]:=by
   cases hq:p.1<;>rw[hq]at hf<;>first | cases hf | skip
   all_goals rw[hq]at hp
   .obtain⟨_,_,_,rfl,_⟩:=hp;rfl
   .obtain⟨us,rfl,_⟩:=hp;rfl
   .obtain⟨_,_,_,rfl,_⟩:=hp;rfl
   .have hp:v=_:=hp;subst hp;rfl
  refine⟨_,_,run [v] hcells,λb=>D b\/b=w.heap.size,E,h.newData _,w.heap.size,0,v,rfl,.inr rfl,?_,?_⟩
  .show(w.alloc _).cell? ⟨w.heap.size,0,none⟩=some v;rw[kC];rfl
  .refine AV.rel_mono (C:=⟨w,D,σ.m,E⟩) (C':=⟨w.alloc (.cells [v].toArray elem),λb=>D b\/b=w.heap.size,σ.m,E⟩) ⟨λb hb=>.inl hb,λb hb=>yV w _ b (h.dlt b hb)⟩ (λnm _ b' hb'=>⟨b',hb',rfl,qJ _,λ_=>rfl⟩) hp
def pX(P:Program)(m:Nat->Option Blk)(mt:Bool)(elem:TypeId)(p:AV): Option Core:=match p with
 | .agg cs=>if mt=false/\I2 P elem=none then match Bn m cs with
  | some ns=>some {need:=ns,val:=.ips cs}
  | none=>none
  else none
 | .ptr nm 1 0 0=>if mt=false then match m nm with
  | some (.var _)=>some {val:=.ipv (.ptr nm 1 0 0)}
  | _=>none
  else none
 | _=>none
theorem Kr{S:Base}{σ:Sig}{a:Act}{w:World}{D:Nat->Prop}{E:Nat->Ent}(h:aH S σ a w D E){mt:Bool}{elem:TypeId}{p:AV}{c:Core}{v:Value}
  (hc:pX S.P σ.m mt elem p=some c) (hp:p.rel S.P ⟨w,D,σ.m,E⟩ v):
  ∃r w',(Instr.box elem v).run S.P w=.ok r w'/\Outcome S ⟨σ.T,upM σ.m c.upd,σ.sv⟩ a c.val r w':=by
 have key:∀(us:Lv) (cs:List AV) (x:AV),v.cells=us.toArray->AV.relL S.P ⟨w,D,σ.m,E⟩ cs us->(∀C b,C.D b->cJ C.w b 0 us->AV.relL S.P C cs us->x.rel S.P C (.pointer (some ⟨b,0,none⟩)))->
   ∃r w',(Instr.box elem v).run S.P w=.ok r w'/\Outcome S ⟨σ.T,upM σ.m [],σ.sv⟩ a x r w':=by
  intro us cs x hus g hx;have run:(Instr.box elem v).run S.P w=.ok (.pointer (some ⟨w.heap.size,0,none⟩)) (w.alloc (.cells us.toArray elem)):=by
   simp[Instr.box,newVar,newRow,hus]
  refine⟨_,_,run,λb=>D b\/b=w.heap.size,E,h.newData _,hx _ _ (.inr rfl) ?_ ?_⟩
  .intro j u hj;rw[wY];show(w.alloc _).cell? ⟨w.heap.size,j,none⟩=some u;rw[kC];simpa using hj
  .exact AV.relL_mono (C:=⟨w,D,σ.m,E⟩) (C':=⟨w.alloc (.cells us.toArray elem),λb=>D b\/b=w.heap.size,σ.m,E⟩) ⟨λb hb=>.inl hb,λb hb=>yV w _ b (h.dlt b hb)⟩ (λnm _ b' hb'=>⟨b',hb',rfl,qJ _,λ_=>rfl⟩) g
 unfold pX at hc;split at hc
 .rename_i cs;split at hc
  case isFalse=>cases hc
  split at hc
  case h_2=>cases hc
  cases hc;obtain⟨us,rfl,g⟩:=hp;exact key us cs (.ips cs) rfl g λC b h1 h2 h3=>⟨b,0,us,rfl,h1,h2,h3⟩
 .rename_i nm;split at hc
  case isFalse=>cases hc
  split at hc
  case h_2=>cases hc
  rename_i bl hm;cases hc;obtain⟨_,_,hv⟩:=(hp _ hm).2 rfl;refine key [v] [.ptr nm 1 0 0] _ (by rw[hv];rfl) ⟨v,[],rfl,hp,rfl⟩ λC b h1 h2 h3=>⟨b,0,v,rfl,h1,h2 0 v rfl,?_⟩
  obtain⟨u,us',e,g,_⟩:=h3;cases e;exact g
 .cases hc
theorem zR{P:Program}{m m':Nat->Option Blk}{mt:Bool}{elem:TypeId}{p:AV}(h:∀k∈p.names,m' k=m k): pX P m' mt elem p=pX P m mt elem p:=by
 unfold pX;split
 .rw[nq (m:=m) (m':=m') λk hk=>h k (by simpa[AV.names]using hk)]
 .rw[h _ (by simp[AV.names])]
 .rfl
def y4(P:Program)(t:TypeId)(x i:AV): Option Core:=match P.underlying t,i with
 | some (.array n e),.dat (.int _) i=>match x with
  | .av ty xs=>if sizeT P e=some ty.sz then match fM P e with
    | some true=>some {need:=[Dl 0 i,Dn i (Dx n),Dj xs=n],val:=.agg (cellsOf ty (Du xs (Dc i) ty.dflt))}
    | some false=>if ty.sz=1 then some {need:=[Dl 0 i,Dn i (Dx n),Dj xs=n],val:=.dat ty (Du xs (Dc i) ty.dflt)} else none
    | none=>none
   else match rx P e ty with
    | some m=>some {need:=[Dl 0 i,Dn i (Dx n),Dj xs=Em n m],val:=.av ty (Fh xs (Em (Dc i) m) m)}
    | none=>none
  | .agg cs=>if sizeT P e=some 1/\fM P e=some false/\cs.length=n then some {need:=[Dl 0 i,Dn i (Dx n)],val:=.sel i cs} else none
  | _=>none
 | _,_=>none
theorem gZ{P:Program}{w:World}{t e:TypeId}{n:Nat}{k:IntKind}{i:Int}{cs:Array Value}{sz:Nat}(hu:P.underlying t=some (.array n e))(hs:sizeT P e=some sz)(h0:0<=i)(h1:i<n):
  (Instr.index t (.agg cs) (.int k i)).run P w=(part e cs (i.toNat*sz)).run P w:=by
 simp[Instr.index,asIntOf,vF hu,h0,h1,bA hs w]
theorem qh{P:Program}{w:World}{e:TypeId}{sz off:Nat}{cs:Array Value}(ha:fM P e=some true)(hs:sizeT P e=some sz): (part e cs off).run P w=.ok (.agg (cs.extract off (off+sz))) w:=by
 simp[part,jB ha w,bA hs w]
theorem cT{P:Program}{w:World}{e:TypeId}{off:Nat}{cs:Array Value}{v:Value}(ha:fM P e=some false)(hv:cs[off]?=some v): (part e cs off).run P w=.ok v w:=by
 simp[part,jB ha w,hv]
theorem JF{P:Program}{e:TypeId}{m:Nat}{e':TypeId}(h:P.underlying e=some (.array m e')): fM P e=some true:=by
 unfold fM;rw[h]
theorem FN{P:Program}{C:Ctx}{w:World}{t:TypeId}{x i:AV}{c:Core}{v vi:Value}(hc:y4 P t x i=some c)(hn:∀q∈c.need,q)
  (hx:x.rel P C v) (hi:i.rel P C vi):∃r,(Instr.index t v vi).run P w=.ok r w/\c.val.rel P C r/\c.upd=[]/\c.new=none:=by
 unfold y4 at hc;split at hc
 case h_2=>cases hc
 rename_i n e k i0 hu;simp only[AV.rel,ah,qR,vP]at hi;subst hi;obtain⟨i,rfl⟩:∃j:Int,(j:(Ty.int k).den)=i0:=⟨i0,rfl⟩;split at hc
 .rename_i ty xs;obtain⟨us,rfl,g1,g2⟩:=hx;split at hc
  .rename_i hs;have elem:0<=i->i<(n:Int)->xs.length=n->ah C.w C.D ty (xs.getD i.toNat ty.dflt) ((us.drop (i.toNat*ty.sz)).take ty.sz):=λh0 h1 h2=>g2 i.toNat _ (getElem?_getD (by omega))
   split at hc
   .rename_i ha;cases hc;have h0:0<=i:=hn _ (by simp);have h1:i<(n:Int):=hn _ (by simp);have h2:xs.length=n:=hn _ (by simp);refine⟨_,by rw[gZ hu hs h0 h1,qh ha hs],⟨(us.drop (i.toNat*ty.sz)).take ty.sz,?_,b7 (elem h0 h1 h2)⟩,rfl,rfl⟩
    congr 1
    apply yB;simp[List.take_drop,qAs]
   .rename_i ha;split at hc
    case isFalse=>cases hc
    rename_i h1z;cases hc;have h0:0<=i:=hn _ (by simp);have h1:i<(n:Int):=hn _ (by simp);have h2:xs.length=n:=hn _ (by simp);have hr:=elem h0 h1 h2;have hlen:=(aS hr).trans h1z;obtain⟨u,hu1⟩:=xW.1 hlen;rw[hu1]at hr;refine⟨u,?_,hr,rfl,rfl⟩;rw[gZ hu hs h0 h1];refine cT ha ?_;have:((us.drop (i.toNat*ty.sz)).take ty.sz)[0]?=some u:=by rw[hu1];rfl
    rw[vM,if_pos (Ty.sz_pos ty),qY]at this;simpa using this
   .cases hc
  .split at hc
   .rename_i m hm;cases hc;obtain⟨⟨m',e',hue⟩,hs⟩:=nJ hm;have h0:0<=i:=hn _ (by simp);have h1:i<(n:Int):=hn _ (by simp);have h2:xs.length=n*m:=hn _ (by simp);have hin:i.toNat*m+m<=xs.length:=by
     rw[h2];have:=vU m (show i.toNat+1<=n by omega);rw[zG,zT]at this;exact this
    refine⟨_,by rw[gZ hu hs h0 h1,qh (JF hue) hs],⟨(us.drop (i.toNat*(m*ty.sz))).take (m*ty.sz),?_,?_,λq y hy=>?_⟩,rfl,rfl⟩
    .congr 1
     apply yB;simp[List.take_drop,qAs]
    .have e1:i.toNat*(m*ty.sz)=i.toNat*m*ty.sz:=(qDu _ _ _).symm;have e2:=vU ty.sz hin;rw[zG]at e2;simp only[Fh,Em,Dc,qI,vY];rw[g1,e1,yY (by omega),yY (by omega)]
    .have hy':(List.take m (xs.drop (i.toNat*m)))[q]?=some y:=hy;rw[vM]at hy';split at hy'
     case isFalse=>cases hy'
     rename_i hq;rw[qY]at hy';have hr:=g2 _ y hy';have e1:(i.toNat*m+q)*ty.sz=i.toNat*(m*ty.sz)+q*ty.sz:=by rw[zG,qDu]
     rw[e1,<- yG]at hr;have e2:((us.drop (i.toNat*(m*ty.sz))).take (m*ty.sz)).drop (q*ty.sz)=((us.drop (i.toNat*(m*ty.sz))).drop (q*ty.sz)).take (m*ty.sz-q*ty.sz):=qCn;rw[e2,qCm];have e3:ty.sz<=m*ty.sz-q*ty.sz:=by
      have:=vU ty.sz (show q+1<=m from hq);rw[zG,zT]at this;omega
     rw[yY e3];exact hr
   .cases hc
 .rename_i cs;split at hc
  case isFalse=>cases hc
  rename_i hk;obtain⟨hs,ha,hl⟩:=hk;cases hc;have h0:0<=i:=hn _ (by simp);have h1:i<(n:Int):=hn _ (by simp);obtain⟨us,rfl,g⟩:=hx;have hlen:=AV.relL_length g;have hlt:i.toNat<us.length:=by omega
  refine⟨us[i.toNat],?_,⟨us,g,qB hlt⟩,rfl,rfl⟩;rw[gZ hu hs h0 h1,yI];exact cT ha (by simp[hlt])
 .cases hc
def Uh(P:Program)(t:TypeId): Bool:=match P.underlying t with | some (.int .u8)=>true | _=>false
theorem HQ{P:Program}{t:TypeId}(h:Uh P t=true): P.underlying t=some (.int .u8):=by
 unfold Uh at h;split at h
 .assumption
 .cases h
def Pq(P:Program)(s d:TypeId)(a:AV): Option Core:=match a with
 | .dat .str x=>match P.underlying s,cN P d with
  | some .string,some e=>if Uh P e=true then some {val:=.dat (.sl (.int .u8)) (Fq x)} else none
  | _,_=>none
 | .dat (.sl (.int .u8)) xs=>match cN P s,P.underlying d with
  | some e,some .string=>if Uh P e=true then some {val:=.dat .str (Gp xs)} else none
  | _,_=>none
 | _=>none
theorem Po{S:Base}{σ:Sig}{a:Act}{w:World}{D:Nat->Prop}{E:Nat->Ent}(h:aH S σ a w D E){s d:TypeId}{x:AV}{c:Core}{v:Value}
  (hc:Pq S.P s d x=some c) (hx:x.rel S.P ⟨w,D,σ.m,E⟩ v):
  ∃r w',(convert s d v).run S.P w=.ok r w'/\Outcome S ⟨σ.T,upM σ.m c.upd,σ.sv⟩ a c.val r w':=by
 unfold Pq at hc;split at hc
 .rename_i x;simp only[AV.rel,ah,qR,vP]at hx;subst hx;split at hc
  case h_2=>cases hc
  rename_i e hs hd;split at hc
  case isFalse=>cases hc
  rename_i he;cases hc;have he':=HQ he;have hsz:=Go.Lib.bytesWorld_size w e x;have hbel:Below w.heap.size w (Go.Lib.bytesWorld w e x):=⟨by simp[Go.Lib.bytesWorld,World.freeze,World.alloc,World.drew,-World.alloc_eq,-World.drew_eq],by simp[Go.Lib.bytesWorld,World.freeze,World.alloc,World.drew,-World.alloc_eq,-World.drew_eq],
   by simp[Go.Lib.bytesWorld,World.freeze,World.alloc,World.drew,-World.alloc_eq,-World.drew_eq],by rw[hsz];omega,λk hk=>Go.Lib.bytesWorld_at_old w e x k hk⟩
  have hlen:(Fq x).length=x.size:=by
   show(List.map _ x.data.toList).length=x.data.size;rw[vW,vI]
  refine⟨_,_,Go.Lib.run_convert_string_bytes (P:=S.P) w s d e x hs (cq hd) he',λb=>D b\/b=w.heap.size,E,?_,some ⟨w.heap.size,0,none⟩,grownCap w x.size 0 e,?_,?_,(λh=>by cases h),(λad had _=>by cases had;rfl),λi y hy=>?_⟩
  .refine h.world hbel (λb=>⟨λhb=>?_,λhb=>?_⟩) (λb hb=>?_)
   .rcases hb with g | g
    .exact .inl g
    .exact .inr ⟨⟨by omega,by rw[hsz];omega⟩,.inr g⟩
   .rcases hb with g | g
    .exact .inl g
    .exact g.2
   .rcases hb with g | g
    .have:=h.dlt b g;rw[hsz];omega
    .rw[hsz];omega
  .rw[hlen]
  .rw[hlen];exact grownCap_ge w _ 0 e
  .have hi:i<x.size:=by have:=(qF.1 hy).1;rwa [hlen]at this
   refine⟨_,[.int .u8 y],rfl,.inr rfl,λj u hj=>?_,rfl⟩;cases j with
   | succ j=>simp at hj
   | zero=>
    simp only[qAh,vZ]at hj;subst hj;show(Go.Lib.bytesWorld w e x).cell? ⟨w.heap.size,0+i*1+0,none⟩=_;rw[show 0+i*1+0=i by omega,Go.Lib.bytesWorld_cell w e x i hi];have hy':(List.map (λb:UInt8=>(b.toNat:Int)) x.data.toList)[i]?=some y:=hy;rw[qP]at hy';cases hq:x.data.toList[i]? with
    | none=>rw[hq]at hy';cases hy'
    | some b=>
     rw[hq]at hy';simp only[zL,vZ]at hy';rw[<- hy'];simp[List.getD,hq]
 .rename_i xs;split at hc
  case h_2=>cases hc
  rename_i e hs hd;split at hc
  case isFalse=>cases hc
  rename_i he;cases hc;have he':=HQ he;obtain⟨ao,cap,h1,_,_,h4,h5⟩:=hx;simp only[qR,vP]at h1;subst h1;refine⟨.string (strOfNums xs),w,?_,D,E,h,rfl⟩;cases xs with
  | nil=>
   rw[run_convert_bytes_string w s d e ao _ cap (cq hs) he' hd];cases ao with
   | none=>simp[Conv.bytesToString];rfl
   | some ad=>
    have hl:(loadCells ad 0).run S.P w=.ok #[] w:=by
     have:=qCp (P:=S.P) w ad [] (λj v hj=>by simp at hj);simpa using this
    rw[yO,run_bytesToString w ad 0 cap [] (by simpa using hl)];rfl
  | cons y ys=>
   obtain⟨ad,ue,g1,_,_,_⟩:=h5 0 y rfl;subst g1;have hspot:=h4 ad rfl (by simp);obtain⟨bl,off,sp⟩:=ad;simp only at hspot;subst hspot;refine run_convert_bytes_arg w s e (cq hs) he' bl off _ cap (y::ys) rfl (λi hi=>?_) d hd;obtain⟨a2,ue2,q1,_,q3,q4⟩:=h5 i _ (qB hi);cases q1;simp only[ah]at q4;subst q4;have:=q3 0 _ rfl;simp only[yU,Ty.sz,yI]at this;rw[this];simp[List.getD,qB hi]
 .cases hc
def jI(P:Program): List Field->List AV->Nat->List AV->Option Bool
 | [],_,_,_=>some true
 | f::fs,cs,off,ds=>if f.name ≠ "_" /\ f.offset=off then match P.underlying f.type,cs,ds with
   | some (.int _),.dat (.int k1) x::cs,.dat (.int k2) y::ds=>if k1=k2 then(match jI P fs cs (off+1) ds with | some r=>some (Dk (Ea x y) r) | none=>none)else none
   | some .string,.dat .str x::cs,.dat .str y::ds=>match jI P fs cs (off+1) ds with | some r=>some (Dk (Fv x y) r) | none=>none
   | some .bool,.dat .bool x::cs,.dat .bool y::ds=>match jI P fs cs (off+1) ds with | some r=>some (Dk (Ey x y) r) | none=>none
   | _,_,_=>none
  else none
def OU(P:Program)(op:BinOp)(t:TypeId)(a b:AV): Option Core:=match a,b,P.underlying t with
 | .agg cs,.agg ds,some (.struct fs)=>if P.stoodInHeld t=false/\P.eqGuardType P.depth t=false then match jI P fs.toList cs 0 ds,op with
   | some r,.eql=>some {val:=.dat .bool r}
   | some r,.neq=>some {val:=.dat .bool (Di r)}
   | _,_=>none
  else none
 | _,_,_=>none
theorem gy{P:Program}{C:Ctx}{w:World}{d:Nat}{X Y:Array Value}: ∀{fs:List Field} {cs ds:List AV} {off:Nat} {r:Bool} {us vs:Lv},jI P fs cs off ds=some r->
  AV.relL P C cs us->AV.relL P C ds vs->X.toList.drop off=us->Y.toList.drop off=vs->(Op.eqFields (d+1) X Y fs).run P w=.ok r w
 | [],_,_,_,_,_,_,h,_,_,_,_=>by cases h;simp[Op.eqFields]
 | f::fs,cs,ds,off,r,us,vs,h,h1,h2,h3,h4=>by
  unfold jI at h;split at h
  case isFalse=>cases h
  rename_i hf;obtain⟨hf1,hf2⟩:=hf;have at_:∀{Z:Array Value} {z:Value} {zs:Lv},Z.toList.drop off=z::zs->Z[f.offset]?=some z/\Z.toList.drop (off+1)=zs:=λ{Z z zs} e=>by
   constructor
   .have:(Z.toList.drop off)[0]?=some z:=by rw[e];rfl
    rw[qY]at this;rw[hf2];simpa using this
   .rw[<- yG,e];rfl
  split at h
  .rename_i k k1 x cs k2 y ds hu;split at h
   case isFalse=>cases h
   rename_i hk;subst hk;split at h
   case h_2=>cases h
   rename_i r' hr;cases h;obtain⟨u,us',e1,q1,q2⟩:=h1;obtain⟨v,vs',e2,q3,q4⟩:=h2;simp only[AV.rel,ah,qR,vP]at q1 q3;subst q1 q3;obtain⟨x1,x2⟩:=at_ (h3.trans e1);obtain⟨y1,y2⟩:=at_ (h4.trans e2);have ih:=gy (w:=w) (d:=d) hr q2 q4 x2 y2;have ha:fM P f.type=some false:=by unfold fM;rw[hu]
   rw[Op.eqFields,if_pos hf1];simp only[wB,cT ha x1,cT ha y1,vS,run_equalIn_int w d f.type k1 k x y hu];by_cases hxy:(x==y)=true
   .simp only[hxy,zZ,vT,yQ,ih,Dk,Ea,zQ]
   .simp only[kT]at hxy;simp[hxy,Dk,Ea]
  .rename_i x cs y ds hu;split at h
   case h_2=>cases h
   rename_i r' hr;cases h;obtain⟨u,us',e1,q1,q2⟩:=h1;obtain⟨v,vs',e2,q3,q4⟩:=h2;simp only[AV.rel,ah,qR,vP]at q1 q3;subst q1 q3;obtain⟨x1,x2⟩:=at_ (h3.trans e1);obtain⟨y1,y2⟩:=at_ (h4.trans e2);have ih:=gy (w:=w) (d:=d) hr q2 q4 x2 y2;have ha:fM P f.type=some false:=by unfold fM;rw[hu]
   rw[Op.eqFields,if_pos hf1];simp only[wB,cT ha x1,cT ha y1,vS,run_equalIn_string w d f.type x y hu];by_cases hxy:(x.toList==y.toList)=true
   .simp only[hxy,zZ,vT,yQ,ih,Dk,Fv,zQ]
   .simp only[kT]at hxy;simp[hxy,Dk,Fv]
  .rename_i x cs y ds hu;split at h
   case h_2=>cases h
   rename_i r' hr;cases h;obtain⟨u,us',e1,q1,q2⟩:=h1;obtain⟨v,vs',e2,q3,q4⟩:=h2;simp only[AV.rel,ah,qR,vP]at q1 q3;subst q1 q3;obtain⟨x1,x2⟩:=at_ (h3.trans e1);obtain⟨y1,y2⟩:=at_ (h4.trans e2);have ih:=gy (w:=w) (d:=d) hr q2 q4 x2 y2;have ha:fM P f.type=some false:=by unfold fM;rw[hu]
   rw[Op.eqFields,if_pos hf1];simp only[wB,cT ha x1,cT ha y1,vS,run_equalIn_bool' w d f.type x y hu];by_cases hxy:(x==y)=true
   .simp only[hxy,zZ,vT,yQ,ih,Dk,Ey,zQ]
   .simp only[kT]at hxy;simp[hxy,Dk,Ey]
  .cases h
theorem OT{P:Program}{C:Ctx}{w:World}{op:BinOp}{t:TypeId}{x y:Operand}{a b:AV}{u v:Value}{c:Core}(h:OU P op t a b=some c)
  (ha:a.rel P C u) (hb:b.rel P C v):∃r,(do eqGuard op t x y u v;binOp op t u v:Sem Value).run P w=.ok r w/\c.val.rel P C r/\c.upd=[]/\c.new=none:=by
 unfold OU at h;split at h
 case h_2=>cases h
 rename_i cs ds fs hu;split at h
 case isFalse=>cases h
 rename_i hk;obtain⟨k1,k2⟩:=hk;obtain⟨us,rfl,g1⟩:=ha;obtain⟨vs,rfl,g2⟩:=hb;have hf:P.fieldsOf t=fs:=by unfold Program.fieldsOf;rw[hu]
 have hu':P.underlying t=some (.struct (P.fieldsOf t)):=by rw[hf];exact hu
 split at h
 .rename_i r hr;cases h;have hq:=gy (w:=w) (d:=9998) (X:=us.toArray) (Y:=vs.toArray) hr g1 g2 rfl rfl;refine⟨.bool r,?_,rfl,rfl,rfl⟩;rw[wB,run_eqGuard_agg w _ t x y _ _ k2,vS,run_eql_struct,run_equalIn_struct w 9999 t _ _ hu' k1,hf,hq];rfl
 .rename_i r hr;cases h;have hq:=gy (w:=w) (d:=9998) (X:=us.toArray) (Y:=vs.toArray) hr g1 g2 rfl rfl;refine⟨.bool (!r),?_,rfl,rfl,rfl⟩;rw[wB,run_eqGuard_agg w _ t x y _ _ k2,vS,run_neq_struct,run_equalIn_struct w 9999 t _ _ hu' k1,hf,hq];rfl
 .cases h
end Go.Eng
