/- PeH1 PeH2 PeH2b PeH3 PeH4 PeH5 PeH6 PeH7 PeH8 PeH8b PeH8c PeH8d PeH8e PeH8f PeH8g -/
import Derived.Orders
import Derived.Below
import Derived.Laws.Sem
import Derived.Laws.World
import Derived.Laws.OwnMore
import Derived.Laws.AppendOwn
import Derived.Deep.MidRow
import Derived.IntWalk
import Derived.Laws.BytesArg
import Derived.Laws.StructEq
import Derived.Lib.ConvBytes
set_option linter.all false
namespace Go.Eng
open Go.RowKit
def zoo{p:Prop}(h:p:=by omega):p:=h
def Z{p:Prop}(h:p:=by omega):p:=h
abbrev Li:=List Int
abbrev Lj:=List (List Int)
abbrev Lv:=List Value
abbrev qA:=@List.getD_eq_getElem?_getD
abbrev qB:=@List.getElem?_eq_getElem
abbrev qC:=@Bool.and_eq_true
abbrev qE:=@decide_eq_true_eq
abbrev qF:=@List.length_append
abbrev qG:=@List.getElem?_eq_some_iff
abbrev qH:=@Int.le_refl
abbrev qI:=@Int.natCast_nonneg
abbrev qJ:=@List.mem_append
abbrev qK:=@Option.getD_some
abbrev qL:=@List.length_singleton
abbrev qM:=@Nat.le_refl
abbrev qO:=@List.take_of_length_le
abbrev qP:=@List.length_take
abbrev qQ:=@List.all_eq_true
abbrev qR:=@Int.toNat_natCast
abbrev qU:=@decide_eq_true
abbrev qV:=@Array.getD_eq_getD_getElem?
abbrev qW:=@List.mem_range
abbrev qX:=@List.getElem?_map
abbrev qY:=@Int.toNat_of_nonneg
abbrev qZ:=@Nat.lt_of_lt_of_le
abbrev vC:=@List.length_range
abbrev vF:=@decide_eq_false
abbrev vG:=@List.length_map
abbrev vH:=@List.cons.injEq
abbrev vI:=@List.mem_singleton
abbrev vJ:=@List.getElem?_append_right
abbrev vK:=@List.mem_map
abbrev vM:=@List.getElem?_drop
abbrev vN:=@run_underlying
abbrev vO:=@List.append_assoc
abbrev vP:=@List.getElem?_range
abbrev vS:=@List.getElem?_append_left
abbrev vT:=@of_decide_eq_true
abbrev vU:=@Array.length_toList
abbrev vV:=@Array.getElem?_eq_some_iff
abbrev vW:=@and_true
abbrev vX:=@List.getElem?_take
abbrev vY:=@List.eq_nil_of_length_eq_zero
abbrev vZ:=@Result.andThen_ok
abbrev wB:=@List.append_nil
abbrev wE:=@decide_eq_false_iff_not
abbrev wF:=@List.mem_cons_self
abbrev wG:=@Bool.false_eq_true
abbrev wH:=@Nat.mul_le_mul_right
abbrev wJ:=@Nat.le_trans
abbrev wL:=@List.getElem_mem
abbrev wM:=@List.length_drop
abbrev wO:=@List.length_cons
abbrev wQ:=@Option.some.injEq
abbrev wS:=@List.length_replicate
abbrev wU:=@Nat.zero_le
abbrev wV:=@Sem.run_bind
abbrev wW:=@List.take_add_one
abbrev wX:=@List.mem_iff_getElem
abbrev wY:=@List.getElem?_replicate
abbrev wZ:=@Option.some.inj
abbrev zA:=@List.mem_cons_of_mem
abbrev zB:=@List.isEmpty_iff
abbrev zD:=@List.getElem?_eq_none
abbrev zH:=@List.mem_cons
abbrev zJ:=@Bool.and_false
abbrev zK:=@List.map_congr_left
abbrev zO:=@List.map_cons
abbrev zQ:=@Nat.zero_add
abbrev zS:=@List.range_succ
abbrev zT:=@Nat.lt_or_ge
abbrev zU:=@List.length_filter_le
abbrev zV:=@Bool.true_and
abbrev zW:=@Array.getElem?_setIfInBounds
abbrev zX:=@Nat.add_mul
abbrev zY:=@Option.map_some
abbrev zZ:=@List.map_append
abbrev yA:=@List.mem_of_getElem?
abbrev yB:=@Array.getElem?_eq_getElem
abbrev yC:=@Bool.not_eq_true'
abbrev yD:=@true_and
abbrev yE:=@List.drop_of_length_le
abbrev yF:=@Value.slice.injEq
abbrev yG:=@World.size_alloc
abbrev yH:=@Bool.or_eq_true
abbrev yI:=@List.mem_filter
abbrev yJ:=@List.length_set
abbrev yK:=@List.getElem?_set
abbrev yL:=@Bool.not_true
abbrev yM:=@Nat.one_mul
abbrev yN:=@Sem.run_pure
abbrev yO:=@List.filter_append
abbrev yP:=@Array.getElem?_toList
abbrev yQ:=@List.take_length
abbrev yR:=@List.filter_cons
abbrev yS:=@congrArg
abbrev yU:=@Array.ext'
abbrev yV:=@List.pairwise_cons
abbrev yX:=@Bool.not_false
abbrev yY:=@Array.getElem?_replicate
abbrev yZ:=@List.Pairwise.nil
abbrev xA:=@List.drop_drop
abbrev xB:=@Int.emod_lt_of_pos
abbrev xC:=@Bool.eq_iff_iff
abbrev xE:=@beq_self_eq_true
abbrev xG:=@Nat.mul_one
abbrev xH:=@List.mem_flatMap
abbrev xI:=@List.any_eq_true
abbrev xJ:=@Bool.not_eq_true
abbrev xK:=@List.take_append_of_le_length
abbrev xM:=@List.ext_getElem?
abbrev xO:=@Nat.le_of_eq
abbrev xQ:=@Addr.add_mid
abbrev xR:=@List.length_nil
abbrev xU:=@Bool.true_eq_false
abbrev xW:=@if_false
abbrev xX:=@Nat.zero_mul
abbrev xY:=@Nat.lt_irrefl
abbrev xZ:=@Nat.add_zero
abbrev kC:=@heap_alloc_old
abbrev kD:=@Bool.eq_false_iff
abbrev kF:=@Nat.min_eq_left
abbrev kG:=@List.foldl_cons
abbrev kH:=@Int.emod_nonneg
abbrev kJ:=@List.take_append_drop
abbrev kK:=@of_decide_eq_false
abbrev kL:=@implies_true
abbrev kM:=@Bool.and_true
abbrev kN:=@beq_iff_eq
abbrev kP:=@Int.mul_le_mul
abbrev kQ:=@ge_iff_le
abbrev kR:=@List.nil_append
abbrev kS:=@Array.getElem?_append_right
abbrev kT:=@if_true
abbrev kU:=@List.length_eq_one_iff
abbrev kV:=@Bool.false_or
abbrev kW:=@Array.getElem?_append_left
abbrev kX:=@World.cell?_alloc_new
abbrev kY:=@List.mem_iff_getElem?
abbrev kZ:=@List.getElem?_toArray
abbrev gB:=@Bool.not_eq_false'
abbrev gG:=@Bool.false_and
abbrev gI:=@List.getLastD_eq_getLast?
abbrev gJ:=@forall_const
abbrev gK:=@decide_false
abbrev gQ:=@List.filter_nil
abbrev gU:=@List.eq_of_mem_replicate
abbrev gV:=@List.all_append
abbrev gW:=@Int.mul_le_mul_of_nonneg_right
abbrev gX:=@List.getLast?_eq_some_getLast
abbrev gY:=@List.drop_append_of_le_length
abbrev gZ:=@Int.tmod_eq_emod
abbrev jA:=@Array.empty_append
abbrev qAa:=@List.find?_cons
abbrev qAb:=@Nat.add_assoc
abbrev qAc:=@List.all_cons
abbrev qAd:=@Addr.mk.injEq
abbrev qAe:=@List.size_toArray
abbrev qAf:=@List.pairwise_map
abbrev qAg:=@List.foldl_append
abbrev qAh:=@List.flatMap_cons
abbrev qAi:=@List.any_eq_false
abbrev qAj:=@List.all_eq_false
abbrev qAk:=@List.mem_of_mem_take
abbrev qAm:=@Int.mul_nonneg
abbrev qAn:=@imp_self
abbrev qAp:=@Option.isSome_iff_exists
abbrev qAq:=@Array.all_eq_true_iff_forall_mem
abbrev qAr:=@beq_eq_false_iff_ne
abbrev qAs:=@List.flatMap_append
abbrev qAt:=@List.pairwise_singleton
abbrev qAu:=@List.getElem?_cons_zero
abbrev qAv:=@false_implies
abbrev qAw:=@Bool.or_false
abbrev qAx:=@Bool.and_self
abbrev qAy:=@cond_true
abbrev qAz:=@cond_false
abbrev qBa:=@Option.toList_some
abbrev qBb:=@List.getElem_range
abbrev qBc:=@decide_true
abbrev qBd:=@List.filter_eq_nil_iff
abbrev qBe:=@List.flatten_cons
abbrev qBf:=@eq_self
abbrev qBg:=@Nat.sub_self
abbrev qBh:=@Nat.add_comm
abbrev qBi:=@List.filterMap_append
abbrev qBj:=@List.contains_iff_mem
abbrev qBk:=@Bool.or_self
abbrev qBm:=@decide_eq_decide
abbrev qBn:=@List.range_eq_range'
abbrev qBp:=@List.range'_succ
abbrev qBq:=@List.getElem_map
abbrev qBr:=@List.getElem?_set_ne
abbrev qBs:=@List.ext_getElem
abbrev qBt:=@Bool.or_eq_false_iff
abbrev qBu:=@Array.toList_map
abbrev qBv:=@List.replicate_succ
abbrev qBw:=@List.any_append
abbrev qBx:=@List.map_nil
abbrev qBy:=@List.find?_eq_none
abbrev qBz:=@List.drop_left
abbrev qCa:=@Int.eq_ofNat_of_zero_le
abbrev qCb:=@Decidable.not_not
abbrev qCc:=@Option.map_eq_some_iff
abbrev qCd:=@List.getElem?_set_self
abbrev qCe:=@List.append_eq_nil_iff
abbrev qCf:=@Prod.mk.injEq
abbrev qCg:=@Nat.succ_le_succ
abbrev qCh:=@List.range'_zero
abbrev qCi:=@and_assoc
abbrev qCj:=@List.set_append_right
abbrev qCk:=@List.mem_of_mem_head?
abbrev qCm:=@List.find?_some
abbrev qCn:=@Int.le_trans
abbrev qCp:=@List.length_pos_iff
abbrev qCq:=@List.take_zero
abbrev qCr:=@List.take_take
abbrev qCs:=@List.drop_take
abbrev qCt:=@run_loadCells_list
abbrev qCu:=@List.map_singleton
abbrev qCv:=@false_imp_iff
abbrev qCw:=@List.any_cons
abbrev qCx:=@Int.tmod_eq_emod_of_nonneg
abbrev qCy:=@Int.fdiv_eq_ediv_of_nonneg
abbrev qCz:=@World.ownsRow_nil
abbrev qDa:=@Option.bind_assoc
abbrev qDb:=@Nat.lt_trichotomy
abbrev qDc:=@List.getElem_take
abbrev qDd:=@List.filter_congr
abbrev qDe:=@Array.isEmpty_iff
abbrev qDf:=@bne_iff_ne
abbrev qDg:=@List.filterMap_eq_nil_iff
abbrev qDh:=@Int.eq_of_mul_eq_mul_left
abbrev qDi:=@Array.mapM_eq_mapM_toList
abbrev qDj:=@List.take_append
abbrev qDk:=@List.length_filterMap_le
abbrev qDm:=@List.flatMap_nil
abbrev qDn:=@List.drop_append
abbrev qDp:=@Int.mul_tdiv_cancel_left
abbrev qDq:=@Int.add_zero
abbrev qDr:=@Option.bind_eq_some_iff
abbrev qDs:=@Int.dvd_of_emod_eq_zero
abbrev qDt:=@Value.int.injEq
abbrev qDu:=@List.foldr_cons
abbrev qDv:=@Int.natCast_mul
abbrev qDw:=@setRow_heap
abbrev qDx:=@cell_of_row
abbrev qDy:=@run_append_own
abbrev qDz:=@run_append_nil
abbrev qEa:=@List.take_left
abbrev qEb:=@List.mapM_cons
abbrev qEc:=@List.drop_zero
abbrev qEd:=@Nat.mul_assoc
abbrev Eb(x y:Int):Bool:=x==y
abbrev Dw(x y:Int):Bool:=x != y
abbrev Dn(x y:Int):Bool:=decide (x<y)
abbrev Ef(x y:Int):Bool:=decide (x<=y)
abbrev Eh(x y:Int):Bool:=decide (x>y)
abbrev Ed(x y:Int):Bool:=decide (x≥y)
abbrev Ez(x y:Bool):Bool:=x==y
abbrev Fz(x y:ByteArray):Bool:=x.toList==y.toList
abbrev Gm(x y:ByteArray):Bool:=Op.bytesLess x.toList y.toList
abbrev Fv(s:ByteArray)(i:Int):Int:=((s.data.getD i.toNat 0).toNat:Int)
abbrev Du{α:Type}(xs:List α)(i:Nat)(d:α):α:=xs.getD i d
abbrev Em{α:Type}(xs:List α)(i:Nat)(x:α):List α:=xs.set i x
abbrev Ee{α:Type}(xs ys:List α):List α:=xs++ys
abbrev Fg{α:Type}(xs:List α)(l:Int):List α:=xs.drop l.toNat
abbrev Fj{α:Type}(xs:List α)(l h:Int):List α:=(xs.take h.toNat).drop l.toNat
abbrev Ep(k:IntKind)(x:Int):Int:=k.wrap x
abbrev Et{α:Type}(n:Int)(x:α):List α:=List.replicate n.toNat x
abbrev Dc(i:Int):Nat:=i.toNat
abbrev Gj(s:ByteArray)(l:Int):ByteArray:=s.extract l.toNat s.size
abbrev Gh(s:ByteArray)(l h:Int):ByteArray:=s.extract l.toNat h.toNat
abbrev Ew(x y:Int):Int:=max x y
abbrev Ey(x y:Int):Int:=min x y
abbrev Gi(x y:Int):Int:=x.fdiv (2 ^ y.toNat)
abbrev Gn(x y:Int):Int:=x*2 ^ y.toNat
abbrev Gl{α:Type}(xs ys:List α):List α:=ys.take xs.length++xs.drop ys.length
abbrev En(j k:Nat)(i:Int):Nat:=j+i.toNat*k
abbrev Dq(x y:Int):Int:=x+y
abbrev Di(x y:Int):Int:=x-y
abbrev Ei(x y:Int):Int:=x*y
abbrev Gf(x y:Int):Int:=x.tdiv y
abbrev Fp(x y:Int):Int:=x.tmod y
abbrev Fh(x:Int):Int:=-x
abbrev Es(x y:Int):Prop:=x≠y
abbrev Dl(x y:Int):Prop:=x<=y
abbrev Dp(x y:Int):Prop:=x<y
abbrev Dy(x y:Nat):Prop:=x<=y
abbrev Dx(x y:Nat):Prop:=x<y
abbrev Ec(x y:Nat):Nat:=x+y
abbrev Ej(x y:Nat):Nat:=x*y
abbrev Ea(x:Nat):Int:=(x:Int)
abbrev Dk{α:Type}(xs:List α):Nat:=xs.length
abbrev Df{α:Type}(xs:List α):Int:=(xs.length:Int)
abbrev Eo(s:ByteArray):Int:=(s.size:Int)
abbrev Dj(x:Bool):Bool:=!x
abbrev Dh(x y:Bool):Bool:=x&&y
abbrev Eu(x y:Bool):Bool:=x||y
abbrev Dt(α:Type):List α:=[]
abbrev Dz{α:Type}(c:Bool)(x y:α):α:=bif c then x else y
abbrev Fe{α:Type}(xs:List α)(o n:Nat):List α:=(xs.drop o).take n
abbrev Fb{α:Type}(xs:List (List α)):Prop:=∀r∈xs,r=[]
abbrev Fq(s:ByteArray):Li:=s.data.toList.map λb=>(b.toNat:Int)
abbrev Gp(xs:Li):ByteArray:=strOfNums xs
inductive Ty where
 |int (k:IntKind)
 |bool
 |str
 |sl (e:Ty)
 |pair (a b:Ty)
 deriving DecidableEq
@[reducible] def Ty.den:Ty->Type
 |.int _=>Int|.bool=>Bool|.str=>ByteArray|.sl e=>List e.den|.pair a b=>a.den×b.den
def Ty.dflt:(t:Ty)->t.den|.int _=>(0:Int)|.bool=>false|.str=>ByteArray.empty|.sl _=>[]|.pair a b=>(a.dflt,b.dflt)
def Ty.sz:Ty->Nat|.pair a b=>a.sz+b.sz|_=>1
def zA9:(t:Ty)->0<t.sz|.int _|.bool|.str|.sl _=>by simp[Ty.sz]|.pair a b=>by have:=zA9 a;simp only[Ty.sz];omega
abbrev cX(w:World)(b off:Nat)(us:Lv):Prop:=w.rangeAt b off us
def ag(w:World)(D:Nat->Prop):(t:Ty)->t.den->Lv->Prop
 |.int k,x,us=>us=[.int k x]|.bool,b,us=>us=[.bool b]|.str,s,us=>us=[.string s]|.sl e,xs,us=>∃(ao:Option Addr) (cap:Nat),us=[.slice ao (List.length xs) cap]/\List.length xs<=cap/\(ao=none->cap=0)/\
   (∀a,ao=some a->0<List.length xs->a.spot=none)/\
   ∀(i:Nat) (y:e.den),(xs:List e.den)[i]?=some y->∃(a:Addr) (ue:Lv),ao=some a/\D a.block/\cX w a.block (a.off+i*e.sz) ue/\ag w D e y ue
 |.pair a b,x,us=>∃u1 u2,us=u1++u2/\ag w D a x.1 u1/\ag w D b x.2 u2
variable {D:Nat->Prop}
def aY{w:World}:∀{t:Ty}{x:t.den}{us:Lv},ag w D t x us->us.length=t.sz
 |.int _,_,_,h=>by simp only[ag]at h;subst h;rfl|.bool,_,_,h=>by simp only[ag]at h;subst h;rfl|.str,_,_,h=>by simp only[ag]at h;subst h;rfl|.sl _,_,_,h=>by obtain⟨_,_,h,_⟩:=h;subst h;rfl
 |.pair a b,_,_,h=>by
  obtain⟨i,g,h,f,e⟩:=h;subst h;simp[Ty.sz,aY f,aY e]
def cell?_same {w w':World}{b o:Nat} (h:w'.heap[b]?=w.heap[b]?):w'.cell? ⟨b,o,none⟩=w.cell? ⟨b,o,none⟩:=by
 simp only[World.cell?,h]
def cX.same{w w':World}{b off:Nat}{us:Lv}(h:w'.heap[b]?=w.heap[b]?)(f:cX w b off us):cX w' b off us:=
 λj u e=>(cell?_same h).trans (f j u e)
def ax{w w':World}{D D':Nat->Prop}(f:∀b,D b->D' b)(hw:∀b,D b->w'.heap[b]?=w.heap[b]?):
  ∀{t:Ty}{x:t.den}{us:Lv},ag w D t x us->ag w' D' t x us
 |.int _,_,_,h=>h|.bool,_,_,h=>h|.str,_,_,h=>h|.sl e,xs,us,h=>by
  obtain⟨L,cap,j,g,G,A,z⟩:=h;refine⟨L,cap,j,g,G,A,λi y v=>?_⟩;obtain⟨a,ue,g1,g2,g3,g4⟩:=z i y v;exact⟨a,ue,g1,f _ g2,g3.same (hw _ g2),ax f hw g4⟩
 |.pair a b,_,_,h=>by
  obtain⟨u,r,h,j,g⟩:=h;exact⟨u,r,h,ax f hw j,ax f hw g⟩
def iV(w w':World)(b:Nat):Prop:=w.heap.size<=b/\b<w'.heap.size
def M9(w:World)(D:Nat->Prop)(r:Ty)(y:r.den)(e:Ending)(w':World):Prop:=
 ∃v,e=.returned v/\Below w.heap.size w w'/\ag w' (λb=>D b\/iV w w' b) r y [v]
def goes(P:Program)(f:FuncId):Bool:=match P.funcs[f]? with
 |some fn=>fn.body.isSome&&fn.name != "runtime.NumGoroutine"
 |none=>false
inductive AV where
 |top
 |dat (t:Ty) (x:t.den)
 |agg (cs:List AV)
 |tup (vs:List AV)
 |val (v:Value)
 |buf (nm n:Nat)
 |ptr (nm g i c:Nat)
 |ip (t:Ty) (x:t.den)
 |fn (f:FuncId) (caps:List AV)
 |clo1 (a r:Ty) (pre:a.den->Prop) (g:a.den->r.den)
 |clo2 (a b r:Ty) (pre:a.den->b.den->Prop) (g:a.den->b.den->r.den)
 |ifc (t:TypeId) (v:AV)
 |grd (g:Bool) (v:AV)
 |ipv (v:AV)
 |ips (cs:List AV)
 |slv (cs:List AV)
 |ia (t:Ty) (xs:List t.den)
 |yld (l:Nat)
 |view (nm n:Nat)
 |av (t:Ty) (xs:List t.den)
 |sel (i:Int) (cs:List AV)
 |row (nm g i k:Nat)
 |rptr (nm g i k j:Nat)
 |pin (u:Value) (v:AV)
inductive Blk where
 |var (cs:List AV)
 |buf (el:TypeId) (t:Ty) (xs:List t.den) (ov:List (Nat×AV))
 |mat (el eli:TypeId) (e:Ty) (xss:List (List e.den)) (ov:List (Nat×AV))
def Blk.len:Blk->Nat|.var _=>1|.buf _ _ xs _=>xs.length|.mat _ _ _ xss _=>xss.length
def Blk.es:Blk->Nat|.var cs=>cs.length|.buf _ t _ _=>t.sz|.mat _ _ _ _ _=>1
structure Ent where
 b:Nat
 cap:Nat
 isNil:Bool
 rb:Nat->Nat×Nat
def noR:Nat->Nat×Nat:=λ_=>(0,0)
def Ent.handle(e:Ent)(n:Nat):Value:=if e.isNil then .slice none 0 0 else .slice (some ⟨e.b,0,none⟩) n e.cap
structure Ctx where
 w:World
 D:Nat->Prop
 m:Nat->Option Blk
 E:Nat->Ent
def tr(w:World)(D:Nat->Prop)(t:Ty)(xs:List t.den)(us:Lv):Prop:=
 us.length=xs.length*t.sz/\∀(i:Nat) (y:t.den),xs[i]?=some y->ag w D t y ((us.drop (i*t.sz)).take t.sz)
mutual
def AV.rel(P:Program)(C:Ctx):AV->Value->Prop
 |.top,_=>True|.dat t x,v=>ag C.w C.D t x [v]|.agg cs,v=>∃us:Lv,v=.agg us.toArray/\zA1 P C cs us|.tup vs,v=>∃us:Lv,v=.tuple us.toArray/\zA1 P C vs us|.val u,v=>v=u|.buf nm n,v=>∀b,C.m nm=some b->n<=b.len/\(b.len=n->v=(C.E nm).handle n)|.ptr nm g i c,v=>∀b,C.m nm=some b->g<=b.len/\(b.len=g->i<g/\(C.E nm).isNil=false/\v=.pointer (some ⟨(C.E nm).b,i*b.es+c,none⟩))|.ip t x,v=>∃b off us,v=.pointer (some ⟨b,off,none⟩)/\C.D b/\cX C.w b off us/\ag C.w C.D t x us|.fn f caps,v=>∃us:Lv,v=.func (.func f) #[] us.toArray/\zA1 P C caps us|.clo1 a r pre g,v=>∃(f:FuncId) (caps:Array Value),v=.func (.func f) #[] caps/\goes P f=true/\
   ∀(w':World) (D':Nat->Prop),(∀b,C.D b->D' b)->(∀b,D' b->b<w'.heap.size)->(∀b,C.D b->w'.heap[b]?=C.w.heap[b]?)->
    ∀x u,pre x->ag w' D' a x [u]->Calls P f (#[u]++caps) w' (M9 w' D' r (g x))
 |.clo2 a b r pre g,v=>∃(f:FuncId) (caps:Array Value),v=.func (.func f) #[] caps/\goes P f=true/\
   ∀(w':World) (D':Nat->Prop),(∀b,C.D b->D' b)->(∀b,D' b->b<w'.heap.size)->(∀b,C.D b->w'.heap[b]?=C.w.heap[b]?)->
    ∀x y u v,pre x y->ag w' D' a x [u]->ag w' D' b y [v]->Calls P f (#[u,v]++caps) w' (M9 w' D' r (g x y))
 |.ifc t a,v=>∃u,v=.iface t u/\AV.rel P C a u|.grd g a,v=>(g=true->AV.rel P C a v)/\(g=false->v=undef)|.ipv a,v=>∃b off u,v=.pointer (some ⟨b,off,none⟩)/\C.D b/\C.w.cell? ⟨b,off,none⟩=some u/\AV.rel P C a u|.ips cs,v=>∃b off us,v=.pointer (some ⟨b,off,none⟩)/\C.D b/\cX C.w b off us/\zA1 P C cs us|.slv cs,v=>∃b off us,v=.slice (some ⟨b,off,none⟩) cs.length cs.length/\C.D b/\cX C.w b off us/\zA1 P C cs us|.ia t xs,v=>∃b off,v=.pointer (some ⟨b,off,none⟩)/\ag C.w C.D (.sl t) xs [.slice (some ⟨b,off,none⟩) (List.length xs) (List.length xs)]|.yld l,v=>v=.func (.yield l) #[] #[]|.view nm n,v=>∀b,C.m nm=some b->n<=b.len/\(b.len=n->(C.E nm).isNil=false/\∃c,n<=c/\v=.slice (some ⟨(C.E nm).b,0,none⟩) n c)|.av t xs,v=>∃us:Lv,v=.agg us.toArray/\tr C.w C.D t xs us|.sel i cs,v=>∃us:Lv,zA1 P C cs us/\us[i.toNat]?=some v|.row nm g i k,v=>∀b,C.m nm=some b->g<=b.len/\(b.len=g->∃ao cap,v=.slice ao k cap/\(0<k->ao=some ⟨((C.E nm).rb i).1,0,none⟩))|.rptr nm g i k j,v=>∀b,C.m nm=some b->g<=b.len/\(b.len=g->j<k/\v=.pointer (some ⟨((C.E nm).rb i).1,j,none⟩))|.pin u a,v=>v=u/\AV.rel P C a v
def zA1(P:Program)(C:Ctx):List AV->Lv->Prop|[],us=>us=[]|a::aa,us=>∃u us',us=u::us'/\AV.rel P C a u/\zA1 P C aa us'
end
mutual
def AV.names:AV->List Nat|.buf nm _=>[nm]|.view nm _=>[nm]|.ptr nm _ _ _=>[nm]|.agg cs=>zA2 cs|.tup cs=>zA2 cs|.fn _ cs=>zA2 cs|.ifc _ a=>a.names|.grd _ a=>a.names|.ipv a=>a.names|.ips cs=>zA2 cs|.slv cs=>zA2 cs|.sel _ cs=>zA2 cs|.row nm _ _ _=>[nm]|.rptr nm _ _ _ _=>[nm]|.pin _ a=>a.names|_=>[]
def zA2:List AV->List Nat|[]=>[]|a::aa=>a.names++zA2 aa
end
def Blk.names:Blk->List Nat|.var cs=>zA2 cs|.buf _ _ _ ov=>zA2 (ov.map (·.2))|.mat _ _ _ _ ov=>zA2 (ov.map (·.2))
def pn(C C':Ctx)(nm:Nat):Prop:=
 ∀b',C'.m nm=some b'->∃b,C.m nm=some b/\b.es=b'.es/\b.len<=b'.len/\(b.len=b'.len->C'.E nm=C.E nm)
structure Later(C C':Ctx):Prop where
 D:∀b,C.D b->C'.D b
 w:∀b,C.D b->C'.w.heap[b]?=C.w.heap[b]?
mutual
def zA5{P:Program}{C C':Ctx}(L:Later C C'):∀{a:AV}{v:Value},(∀T∈a.names,pn C C' T)->a.rel P C v->a.rel P C' v
 |.top,_,_,_=>trivial|.dat _ _,_,_,h=>ax L.D L.w h|.agg cs,_,z,h=>by
  obtain⟨us,G,A⟩:=h;exact⟨us,G,zA4 L (by simpa[AV.names]using z) A⟩
 |.tup cs,_,z,h=>by
  obtain⟨us,G,A⟩:=h;exact⟨us,G,zA4 L (by simpa[AV.names]using z) A⟩
 |.val _,_,_,h=>h|.buf T n,_,z,h=>by
  intro b' O;obtain⟨b,hb,_,V,X⟩:=z T (by simp[AV.names]) b' O;obtain⟨g1,g2⟩:=h b hb;refine⟨wJ g1 V,λe=>?_⟩;have e1:b.len=n:=zoo;rw[X zoo];exact g2 e1
 |.ptr T g i c,_,z,h=>by
  intro b' O;obtain⟨b,hb,hes,V,X⟩:=z T (by simp[AV.names]) b' O;obtain⟨g1,g2⟩:=h b hb;refine⟨wJ g1 V,λe=>?_⟩;have e1:b.len=g:=zoo;rw[X zoo,<- hes];exact g2 e1
 |.ip t x,_,_,h=>by
  obtain⟨b,off,us,G,A,h3,h4⟩:=h;exact⟨b,off,us,G,L.D _ A,h3.same (L.w _ A),ax L.D L.w h4⟩
 |.fn f caps,_,z,h=>by
  obtain⟨us,G,A⟩:=h;exact⟨us,G,zA4 L (by simpa[AV.names]using z) A⟩
 |.clo1 a r pre g,_,_,h=>by
  obtain⟨f,caps,G,h0,A⟩:=h;exact⟨f,caps,G,h0,λw' D' g1 g2 g3=>A w' D' (λb hb=>g1 b (L.D b hb)) g2 (λb hb=>(g3 b (L.D b hb)).trans (L.w b hb))⟩
 |.clo2 a b r pre g,_,_,h=>by
  obtain⟨f,caps,G,h0,A⟩:=h;exact⟨f,caps,G,h0,λw' D' g1 g2 g3=>A w' D' (λb hb=>g1 b (L.D b hb)) g2 (λb hb=>(g3 b (L.D b hb)).trans (L.w b hb))⟩
 |.ifc t a,_,z,h=>by
  obtain⟨u,G,A⟩:=h;exact⟨u,G,zA5 L (by simpa[AV.names]using z) A⟩
 |.grd g a,_,z,h=>⟨λhg=>zA5 L (by simpa[AV.names]using z) (h.1 hg),h.2⟩|.ipv a,_,z,h=>by
  obtain⟨b,off,u,G,A,h3,h5⟩:=h;exact⟨b,off,u,G,L.D _ A,(cell?_same (L.w _ A)).trans h3,zA5 L (by simpa[AV.names]using z) h5⟩
 |.ips cs,_,z,h|.slv cs,_,z,h=>by
  obtain⟨b,off,us,G,A,h3,h5⟩:=h;exact⟨b,off,us,G,L.D _ A,h3.same (L.w _ A),zA4 L (by simpa[AV.names]using z) h5⟩
 |.ia t xs,_,_,h=>by
  obtain⟨b,off,G,A⟩:=h;exact⟨b,off,G,ax L.D L.w A⟩
 |.yld _,_,_,h=>h|.view T n,_,z,h=>by
  intro b' O;obtain⟨b,hb,_,V,X⟩:=z T (by simp[AV.names]) b' O;obtain⟨g1,g2⟩:=h b hb;refine⟨wJ g1 V,λe=>?_⟩;have e1:b.len=n:=zoo;rw[X zoo];exact g2 e1
 |.av _ _,_,_,h=>by
  obtain⟨us,G,A,h3⟩:=h;exact⟨us,G,A,λi y hy=>ax L.D L.w (h3 i y hy)⟩
 |.sel i cs,_,z,h=>by
  obtain⟨us,G,A⟩:=h;exact⟨us,zA4 L (by simpa[AV.names]using z) G,A⟩
 |.row T g i k,_,z,h=>by
  intro b' O;obtain⟨b,hb,_,V,X⟩:=z T (by simp[AV.names]) b' O;obtain⟨g1,g2⟩:=h b hb;refine⟨wJ g1 V,λe=>?_⟩;rw[X zoo];exact g2 zoo
 |.rptr T g i k j,_,z,h=>by
  intro b' O;obtain⟨b,hb,_,V,X⟩:=z T (by simp[AV.names]) b' O;obtain⟨g1,g2⟩:=h b hb;refine⟨wJ g1 V,λe=>?_⟩;rw[X zoo];exact g2 zoo
 |.pin u a,_,z,h=>⟨h.1,zA5 L (by simpa[AV.names]using z) h.2⟩
def zA4{P:Program}{C C':Ctx}(L:Later C C'):∀{aa:List AV}{us:Lv},(∀b∈zA2 aa,pn C C' b)->zA1 P C aa us->zA1 P C' aa us
 |[],_,_,h=>h|a::aa,_,f,h=>by
  obtain⟨u,e,j,i,g⟩:=h;simp only[zA2,qJ]at f;exact⟨u,e,j,zA5 L (λb h=>f b (.inl h)) i,zA4 L (λb h=>f b (.inr h)) g⟩
end
def zA3{P:Program}{C:Ctx}:∀{aa:List AV}{us:Lv},zA1 P C aa us->aa.length=us.length
 |[],_,h=>by simp only[zA1]at h;subst h;rfl|a::aa,_,h=>by
  obtain⟨u,b,f,_,e⟩:=h;subst f;simp[zA3 e]
def zA6{P:Program}{C:Ctx}:∀{aa:List AV}{us:Lv},zA1 P C aa us->∀{i:Nat}{a:AV},aa[i]?=some a->∃u,us[i]?=some u/\a.rel P C u
 |[],_,_,i,a,h=>by simp at h|a::aa,_,h,i,j,hi=>by
  obtain⟨u,b,g,f,e⟩:=h;subst g;cases i with
  |zero=>simp at hi;subst hi;exact⟨u,rfl,f⟩|succ i=>simpa using zA6 e (by simpa using hi)
def zB3{P:Program}{C:Ctx}:∀{aa:List AV}{us:Lv},aa.length=us.length->(∀(i:Nat) (a:AV) (u:Value),aa[i]?=some a->us[i]?=some u->a.rel P C u)->zA1 P C aa us|[],[],_,_=>rfl|a::aa,u::us,e,h=>⟨u,us,rfl,h 0 a u rfl rfl,zB3 (by simpa using e) (λi j b g f=>h (i+1) j b (by simpa using g) (by simpa using f))⟩
def zA8{P:Program}{C:Ctx}{aa bs:List AV}{us vs:Lv}(f:zA1 P C aa us)(h:zA1 P C bs vs):zA1 P C (aa++bs) (us++vs):=by
 induction aa generalizing us with
 |nil=>simp only[zA1]at f;subst f;exact h|cons a aa g=>
  obtain⟨u,b,e,g1,g2⟩:=f;subst e;exact⟨u,b++vs,rfl,g1,g g2⟩
def zC5{P:Program}{C:Ctx}{aa bs:List AV}{us:Lv}(h:zA1 P C (aa++bs) us):∃b f,us=b++f/\zA1 P C aa b/\zA1 P C bs f:=by
 induction aa generalizing us with
 |nil=>exact⟨[],us,rfl,rfl,h⟩|cons a aa i=>
  obtain⟨u,g,e,g1,g2⟩:=h;obtain⟨b,f,j,g3,g4⟩:=i g2;subst j;exact⟨u::b,f,e,⟨u,b,rfl,g1,g3⟩,g4⟩
def zB2{P:Program}{C:Ctx}{aa:List AV}{us:Lv}(h:zA1 P C aa us)(n:Nat):zA1 P C (aa.drop n) (us.drop n):=by
 refine zB3 (by rw[wM,wM,zA3 h]) λi a u e b=>?_;rw[vM]at e b;obtain⟨j,g,f⟩:=zA6 h e;rw[g]at b;cases b;exact f
def zC4{P:Program}{C:Ctx}{aa:List AV}{us:Lv}(h:zA1 P C aa us)(n:Nat):zA1 P C (aa.take n) (us.take n):=by
 refine zB3 (by rw[qP,qP,zA3 h]) λi a u e b=>?_;rw[vX]at e b;split at e;rename_i f;rw[if_pos f]at b;obtain⟨r,j,g⟩:=zA6 h e;rw[j]at b;cases b;exact g;cases e
def cellsOf:(t:Ty)->t.den->List AV|.pair a b,x=>cellsOf a x.1++cellsOf b x.2|.int k,x=>[.dat (.int k) x]|.bool,x=>[.dat .bool x]|.str,x=>[.dat .str x]|.sl e,x=>[.dat (.sl e) x]
def jw:∀(t:Ty) (x:t.den),zA2 (cellsOf t x)=[]
 |.pair a b,x=>by
  have app:∀(l k:List AV),zA2 (l++k)=zA2 l++zA2 k:=by
   intro l k;induction l with
   |nil=>rfl|cons a l e=>simp[zA2,e]
  simp only[cellsOf,app,jw a,jw b];rfl
 |.int _,_|.bool,_|.str,_|.sl _,_=>by simp[cellsOf,zA2,AV.names]
variable {P:Program}{C:Ctx}
def cy:∀{t:Ty}{x:t.den}{us:Lv},ag C.w C.D t x us->zA1 P C (cellsOf t x) us
 |.pair a b,x,us,h=>by
  obtain⟨j,i,h,g,f⟩:=h;subst h;exact zA8 (cy g) (cy f)
 |.int k,x,us,h=>by
  have e:=aY h;obtain⟨u,rfl⟩:∃u,us=[u]:=kU.1 e;exact⟨u,[],rfl,h,rfl⟩
 |.bool,x,us,h=>by
  have e:=aY h;obtain⟨u,rfl⟩:∃u,us=[u]:=kU.1 e;exact⟨u,[],rfl,h,rfl⟩
 |.str,x,us,h=>by
  have e:=aY h;obtain⟨u,rfl⟩:∃u,us=[u]:=kU.1 e;exact⟨u,[],rfl,h,rfl⟩
 |.sl _,x,us,h=>by
  have e:=aY h;obtain⟨u,rfl⟩:∃u,us=[u]:=kU.1 e;exact⟨u,[],rfl,h,rfl⟩
def Ia{w:World}{e:Ty}{xs:List e.den}{f:Addr}{cap:Nat}(h:ag w D (.sl e) xs [.slice (some f) (List.length xs) cap])(c:Nat)(i:List.length xs<=c):
  ag w D (.sl e) xs [.slice (some f) (List.length xs) c]:=by
 obtain⟨x,g,b,v,u,r,j⟩:=h;simp only[vH,yF,vW,yD]at b;obtain⟨b,_⟩:=b;subst b;exact⟨some f,c,rfl,i,(λh=>by cases h),r,j⟩
def bw(w:World)(D:Nat->Prop)(e:Ty):ag w D (.sl e) [] [.slice none 0 0]:=
 ⟨none,0,rfl,qM _,λ_=>rfl,λ_ h=>(by cases h),λi y h=>(by rw[List.getElem?_nil]at h;cases h)⟩
def AV.aa:AV->(t:Ty)->Option t.den|.dat t' x,t=>if h:t'=t then some (h▸x)else none|.val (.slice none 0 0),.sl _=>some []|_,_=>none
def zB8{P:Program}{C:Ctx}{a:AV}{t:Ty}{x:t.den}{v:Value}(h:a.aa t=some x)(b:a.rel P C v):ag C.w C.D t x [v]:=by
 unfold AV.aa at h;split at h;split at h;rename_i e;subst e;cases h;exact b;cases h;cases h;simp only[AV.rel]at b;subst b;exact bw _ _ _;cases h
def cU:(t:Ty)->List AV->Option (t.den×List AV)
 |.pair a b,cs=>match cU a cs with
  |some (x,cs)=>match cU b cs with
   |some (y,cs)=>some ((x,y),cs)|none=>none
  |none=>none
 |.int k,c::cs=>(c.aa (.int k)).map λx=>(x,cs)|.bool,c::cs=>(c.aa .bool).map λx=>(x,cs)|.str,c::cs=>(c.aa .str).map λx=>(x,cs)|.sl e,c::cs=>(c.aa (.sl e)).map λx=>(x,cs)|.int _,[]|.bool,[]|.str,[]|.sl _,[]=>none
def mo{t:Ty}{c:AV}{cs rest:List AV}{x:t.den}{us:Lv}
  (h:((c.aa t).map λx=>(x,cs))=some (x,rest)) (j:zA1 P C (c::cs) us):
  ∃i g,us=i++g/\ag C.w C.D t x i/\zA1 P C rest g:=by
 cases f:c.aa t with
 |none=>rw[f]at h;cases h
 |some y=>
  rw[f]at h;cases h;obtain⟨u,b,e,g1,g2⟩:=j;subst e;exact⟨[u],b,rfl,zB8 f g1,g2⟩
def cH:∀{t:Ty}{cs rest:List AV}{x:t.den}{us:Lv},cU t cs=some (x,rest)->zA1 P C cs us->
  ∃g i,us=g++i/\ag C.w C.D t x g/\zA1 P C rest i
 |.pair a b,cs,rest,x,us,h,f=>by
  simp only[cU]at h;split at h;rename_i x1 A v;split at h;rename_i x2 z u;cases h;obtain⟨g,i,e,g1,g2⟩:=cH v f;obtain⟨j,r,y,g3,g4⟩:=cH u g2;subst e y;exact⟨g++j,r,by simp,⟨g,j,rfl,g1,g3⟩,g4⟩;cases h;cases h
 |.int k,c::cs,rest,x,us,h,f=>by simp only[cU]at h;exact mo h f|.bool,c::cs,rest,x,us,h,f=>by simp only[cU]at h;exact mo h f|.str,c::cs,rest,x,us,h,f=>by simp only[cU]at h;exact mo h f|.sl e,c::cs,rest,x,us,h,f=>by simp only[cU]at h;exact mo h f|.int _,[],_,_,_,h,_=>by simp[cU]at h|.bool,[],_,_,_,h,_=>by simp[cU]at h|.str,[],_,_,_,h,_=>by simp[cU]at h|.sl _,[],_,_,_,h,_=>by simp[cU]at h
end Go.Eng
namespace Go.Eng
open Go.RowKit
def ct(P:Program)(C:Ctx)(t:Ty)(xs:List t.den)(ov:List (Nat×AV))(raw:Lv):Prop:=
 ∀(i:Nat) (y:t.den),xs[i]?=some y->match ov.lookup i with|none=>ag C.w C.D t y ((raw.drop (i*t.sz)).take t.sz)|some a=>t.sz=1/\∃u,raw[i]?=some u/\u.oneCell'=true/\a.rel P C u
def J9(P:Program)(base:Nat)(C:Ctx)(e:Ent)(eli:TypeId)(t:Ty)(i:Nat)(row:List t.den)(u:Value):Prop:=
 ∃ao cap r2,u=.slice ao row.length cap/\(ao=none->cap=0)/\(0<row.length->ao=some ⟨(e.rb i).1,0,none⟩/\C.w.ownsRow base eli 1 u row.length r2/\ct P C t row [] r2)
def aAx(P:Program)(base:Nat)(C:Ctx)(e:Ent)(eli:TypeId)(t:Ty)(xss:List (List t.den))(ov:List (Nat×AV))(raw:Lv):Prop:=
 ∀(i:Nat) (row:List t.den),xss[i]?=some row->∃u,raw[i]?=some u/\match ov.lookup i with|none=>J9 P base C e eli t i row u|some a=>u.oneCell'=true/\a.rel P C u
def cB(m:Nat->Option Blk)(E:Nat->Ent)(nm i b:Nat):Prop:=∃(el eli:TypeId) (t:Ty) (xss:List (List t.den)) (ov:List (Nat×AV)) (row:List t.den),
 m nm=some (.mat el eli t xss ov)/\ov.lookup i=none/\xss[i]?=some row/\0<row.length/\b=((E nm).rb i).1
structure fU(lo:Nat)(O:Nat->Prop)(m:Nat->Option Blk)(E:Nat->Ent)(n:Nat)(D:Nat->Prop):Prop where
 own:∀nm i b,cB m E nm i b->(lo<=b\/O b)/\b<n/\¬D b
 ent:∀nm i b,cB m E nm i b->∀nm' blk,m nm'=some blk->(E nm').isNil=false->(E nm').b≠b
 inj:∀nm i b nm' j,cB m E nm i b->cB m E nm' j b->nm=nm'/\i=j
def fe(P:Program)(base:Nat)(C:Ctx)(e:Ent):Blk->Prop|.var cs=>e.isNil=false/\∃us el,C.w.heap[e.b]?=some (.cells us el (0,0))/\zA1 P C cs us.toList|.buf el t xs ov=>∃raw,C.w.ownsRow base el t.sz (e.handle xs.length) xs.length raw/\ct P C t xs ov raw|.mat el eli t xss ov=>t.sz=1/\∃raw,C.w.ownsRow base el 1 (e.handle xss.length) xss.length raw/\aAx P base C e eli t xss ov raw
structure Sig where
 T:Nat->AV
 m:Nat->Option Blk
 sv:List AV
structure Base where
 P:Program
 w0:World
 D0:Nat->Prop
 N:Nat
 O:Nat->Prop
 G:List (Nat×AV)
 sv:Lv
 rd:Option Nat
 nod:Bool
 gd:List Deferred:=[]
def Marks(nod:Bool)(base:Nat)(D:Nat->Prop)(w:World)(gd ds:List Deferred):Prop:=
 ((nod=true->ds=gd)/\(∃ms,ds=ms++gd)/\ds.Pairwise λd e=>d.target≠e.target)/\∀d∈ds,(d∈gd/\∀k,d.target≠.collected k)\/∃k,d={target:=.collected k,args:=#[]}/\base<=k/\D k/\w.heap[k]?=some (.deferred (some []))
structure Chg(O:Nat->Prop)(w w':World):Prop where
 os:w'.os=w.os
 tape:w'.tape=w.tape
 output:w'.output=w.output
 size:w.heap.size<=w'.heap.size
 block:∀k,k<w.heap.size->¬O k->w'.heap[k]?=w.heap[k]?
def Chg.refl(O:Nat->Prop)(w:World):Chg O w w:=⟨rfl,rfl,rfl,qM _,λ_ _ _=>rfl⟩
def Chg.step{O:Nat->Prop}{a b c:World}(h:Chg O a b)(r:c.os=b.os)(i:c.tape=b.tape)(g:c.output=b.output)(j:b.heap.size<=c.heap.size)
  (hb:∀k,k<a.heap.size->¬O k->c.heap[k]?=b.heap[k]?):Chg O a c:=
 ⟨r.trans h.os,i.trans h.tape,g.trans h.output,wJ h.size j,λk f e=>(hb k f e).trans (h.block k f e)⟩
def Chg.below{O:Nat->Prop}{a b c:World}(h:Chg O a b)(k:Below b.heap.size b c):Chg O a c:=
 h.step k.os k.tape k.output k.size λi hi _=>k.block i (qZ hi h.size)
def me(P:Program)(C:Ctx)(G:List (Nat×AV)):Prop:=∀p∈G,p.2.names=[]/\p.2.rel P C (.pointer (some ⟨p.1,0,none⟩))
def me.mono{P:Program}{C C':Ctx}{G:List (Nat×AV)}(L:Later C C')(h:me P C G):me P C' G:=λp b=>
 ⟨(h p b).1,zA5 L (λe hm=>by rw[(h p b).1]at hm;cases hm) (h p b).2⟩
structure aQ(S:Base)(σ:Sig)(a:Act)(w:World)(D:Nat->Prop)(E:Nat->Ent):Prop where
 sz:a.tmps.size=S.N
 df:Marks S.nod S.w0.heap.size D w S.gd a.defers
 tm:∀t,(σ.T t).rel S.P ⟨w,D,σ.m,E⟩ (a.tmps.getD t undef)
 bl:∀nm b,σ.m nm=some b->fe S.P 0 ⟨w,D,σ.m,E⟩ (E nm) b
 own:∀nm b,σ.m nm=some b->(E nm).isNil=false->(S.w0.heap.size<=(E nm).b\/S.O (E nm).b)/\(E nm).b<w.heap.size/\¬D (E nm).b
 inj:∀nm nm' b b',σ.m nm=some b->σ.m nm'=some b'->(E nm).isNil=false->(E nm').isNil=false->(E nm).b=(E nm').b->nm=nm'
 low:Chg S.O S.w0 w
 dlt:∀b,D b->b<w.heap.size
 dlo:∀b,S.D0 b->D b
 dhi:∀b,D b->S.D0 b\/S.w0.heap.size<=b\/S.O b
 gl:me S.P ⟨w,D,σ.m,E⟩ S.G
 svr:zA1 S.P ⟨w,D,σ.m,E⟩ σ.sv S.sv
 pv:fU S.w0.heap.size S.O σ.m E w.heap.size D
def Sim(S:Base)(σ:Sig)(a:Act)(w:World):Prop:=∃D E,aQ S σ a w D E
def upT(T:Nat->AV)(d:Option Tmp)(v:AV):Nat->AV:=λt=>if some t=d then v else T t
def upM(m:Nat->Option Blk)(u:List (Nat×Blk)):Nat->Option Blk:=λnm=>match u.lookup nm with|some b=>some b|none=>m nm
def Unm(nm:Nat)(σ:Sig):Prop:=σ.m nm=none/\(∀t,nm∉(σ.T t).names)/\(∀nm' b,σ.m nm'=some b->nm∉b.names)/\nm∉zA2 σ.sv
variable {ov:List (Nat×AV)}
def NV{i:Nat}{a:AV}(e:ov.lookup i=some a){f:Nat}(h:f∈a.names):f∈zA2 (ov.map (·.2)):=by
 induction ov with
 |nil=>simp at e|cons p ov g=>
  obtain⟨j,b⟩:=p;simp only[List.lookup]at e;simp only[zO,zA2,qJ];split at e;cases e;exact .inl h;exact .inr (g e)
def bv{P:Program}{C C':Ctx}(L:Later C C'){t:Ty}{xs:List t.den}{raw:Lv}
  (j:∀b∈zA2 (ov.map (·.2)),pn C C' b) (h:ct P C t xs ov raw):ct P C' t xs ov raw:=by
 intro i y f;have g:=h i y f;cases e:ov.lookup i with
 |none=>rw[e]at g;exact ax L.D L.w g|some a=>
  rw[e]at g;obtain⟨g1,u,g2,g4,g3⟩:=g;exact⟨g1,u,g2,g4,zA5 L (λb h=>j b (NV e h)) g3⟩
def rowsOf(e:Ent)(b:Blk)(i k:Nat):Prop:=∃(el eli:TypeId) (t:Ty) (xss:List (List t.den)) (ov:List (Nat×AV)) (row:List t.den),
 b=.mat el eli t xss ov/\ov.lookup i=none/\xss[i]?=some row/\0<row.length/\k=(e.rb i).1
def aR{m:Nat->Option Blk}{E:Nat->Ent}{f i k:Nat}:cB m E f i k↔∃b,m f=some b/\rowsOf (E f) b i k:=by
 constructor;rintro⟨el,e,t,xss,ov,row,h,g⟩;exact⟨_,h,el,e,t,xss,ov,row,rfl,g⟩;rintro⟨b,h,el,e,t,xss,ov,row,rfl,g⟩;exact⟨el,e,t,xss,ov,row,h,g⟩
def gn{w w':World}{base:Nat}{el:TypeId}{sz n:Nat}{v:Value}{raw:Lv}(i:∀g f c,v=.slice (some ⟨g,0,none⟩) f c->w'.heap[g]?=w.heap[g]?)
  (h:w.ownsRow base el sz v n raw):w'.ownsRow base el sz v n raw:=by
 refine⟨h.1,?_⟩;rcases h.2 with h|⟨g,cap,b,e,u,j,r⟩;exact .inl h;exact .inr ⟨g,cap,b,e,u,(i g n cap e).trans j,r⟩
def Js{e:Ent}{n g i c:Nat}(h:e.handle n=.slice (some ⟨g,0,none⟩) i c):e.isNil=false/\g=e.b:=by
 unfold Ent.handle at h;cases f:e.isNil with
 |true=>rw[f]at h;cases h
 |false=>
  rw[f]at h;simp at h;exact⟨rfl,h.1.symm⟩
def fe.mono{P:Program}{base:Nat}{C C':Ctx}(L:Later C C'){e:Ent}{b:Blk}(G:∀y∈b.names,pn C C' y)
  (hw:e.isNil=false->C'.w.heap[e.b]?=C.w.heap[e.b]?) (hr:∀i k,rowsOf e b i k->C'.w.heap[k]?=C.w.heap[k]?) (h:fe P base C e b):fe P base C' e b:=by
 cases b with
 |var cs=>
  obtain⟨A,us,el,j,v⟩:=h;exact⟨A,us,el,(hw A).trans j,zA4 L G v⟩
 |buf el t xs ov=>
  obtain⟨raw,j,v⟩:=h;refine⟨raw,⟨j.1,?_⟩,bv L G v⟩;rcases j.2 with h|⟨g,cap,T,f,hg,hh,r⟩;exact .inl h;refine .inr ⟨g,cap,T,f,hg,?_,r⟩;unfold Ent.handle at f;split at f;cases f;rename_i hi;simp only[yF,wQ,qAd,vW,yD]at f;rw[<- f.1];rw[hw (by simpa using hi),f.1];exact hh
 |mat el O t xss ov=>
  obtain⟨A,raw,j,v⟩:=h;refine⟨A,raw,?_,λi row hi=>?_⟩;refine gn (λg' n' c h=>?_) j;obtain⟨x,rfl⟩:=Js h;exact hw x;obtain⟨u,g1,g2⟩:=v i row hi;refine⟨u,g1,?_⟩;cases z:ov.lookup i with
  |some a=>
   rw[z]at g2;exact⟨g2.1,zA5 L (λy h=>G y (NV z h)) g2.2⟩
  |none=>
   rw[z]at g2;obtain⟨ao,cap,r2,x,q0,q2⟩:=g2;refine⟨ao,cap,r2,x,q0,λX=>?_⟩;obtain⟨V,k2,k3⟩:=q2 X;refine⟨V,gn (λg' n' c h=>?_) k2,bv L (λy h=>by cases h) k3⟩;rw[x,V]at h;simp at h;rw[<- h.1];exact hr i _ ⟨el,O,t,xss,ov,row,rfl,z,hi,X,rfl⟩
def aQ.put{S:Base}{σ:Sig}{a:Act}{w:World}{D:Nat->Prop}{E:Nat->Ent}(h:aQ S σ a w D E){d:Option Tmp}{v:Value}{x:AV}
  (hd:∀t,d=some t->t<S.N) (g:x.rel S.P ⟨w,D,σ.m,E⟩ v):aQ S ⟨upT σ.T d x,σ.m,σ.sv⟩ (a.put d v) w D E:=by
 cases d with
 |none=>exact⟨h.sz,h.df,λt=>by simpa[upT,Act.put]using h.tm t,h.bl,h.own,h.inj,h.low,h.dlt,h.dlo,h.dhi,h.gl,h.svr,h.pv⟩|some d=>
  refine⟨by simpa[Act.put]using h.sz,h.df,λt=>?_,h.bl,h.own,h.inj,h.low,h.dlt,h.dlo,h.dhi,h.gl,h.svr,h.pv⟩;have b:d<a.tmps.size:=by rw[h.sz];exact hd d rfl
  by_cases e:t=d;subst e;have f:(a.tmps.setIfInBounds t v).getD t undef=v:=by simp[Array.getD,b]
  simp only[upT,kT,Act.put];rw[f];exact g;have:(a.tmps.setIfInBounds d v).getD t undef=a.tmps.getD t undef:=by
   simp only[qV,zW];rw[if_neg (λh=>e h.symm)]
  simp only[upT,wQ,e,xW,Act.put];rw[this];exact h.tm t
def Outcome(S:Base)(σ:Sig)(a:Act)(x:AV)(v:Value)(w:World):Prop:=
 ∃D E,aQ S σ a w D E/\x.rel S.P ⟨w,D,σ.m,E⟩ v
def aQ.go{S:Base}{σ:Sig}{a:Act}{w w':World}{D D':Nat->Prop}{E E':Nat->Ent}{m':Nat->Option Blk}(h:aQ S σ a w D E)
  (L:Later ⟨w,D,σ.m,E⟩ ⟨w',D',m',E'⟩)
  (y:∀e,pn ⟨w,D,σ.m,E⟩ ⟨w',D',m',E'⟩ e\/Unm e σ)
  (hb:∀e b,m' e=some b->(σ.m e=some b/\E' e=E e/\((E e).isNil=false->w'.heap[(E e).b]?=w.heap[(E e).b]?)/\∀i k,rowsOf (E e) b i k->w'.heap[k]?=w.heap[k]?)\/fe S.P 0 ⟨w',D',m',E'⟩ (E' e) b)
  (x:∀e b,m' e=some b->(E' e).isNil=false->(S.w0.heap.size<=(E' e).b\/S.O (E' e).b)/\(E' e).b<w'.heap.size/\¬D' (E' e).b)
  (hi:∀e f b V,m' e=some b->m' f=some V->(E' e).isNil=false->(E' f).isNil=false->(E' e).b=(E' f).b->e=f)
  (z:Chg S.O S.w0 w') (G:∀b,D' b->b<w'.heap.size) (A:∀b,D' b->D b\/S.w0.heap.size<=b\/S.O b) (v:fU S.w0.heap.size S.O m' E' w'.heap.size D'):
  aQ S ⟨σ.T,m',σ.sv⟩ a w' D' E':=by
 have r:∀(l:List Nat),(∀e∈l,Unm e σ->False)->∀e∈l,pn ⟨w,D,σ.m,E⟩ ⟨w',D',m',E'⟩ e:=
  λl j e hm=>(y e).resolve_right (j e hm)
 refine⟨h.sz,⟨h.df.1,λd hd=>?_⟩,λt=>?_,λe b hm=>?_,x,hi,z,G,λb hb=>L.D b (h.dlo b hb),λb hb=>?_,h.gl.mono L,zA4 L (r _ (λe hm j=>j.2.2.2 hm)) h.svr,v⟩;rcases h.df.2 d hd with g|⟨k,g1,g2,g3,g4⟩;exact .inl g;exact .inr ⟨k,g1,g2,L.D k g3,(L.w k g3).trans g4⟩;exact zA5 L (r _ (λe hm j=>j.2.1 t hm)) (h.tm t);rcases hb e b hm with⟨g1,g2,g3,g4⟩|g;rw[g2];exact fe.mono L (r _ (λf u j=>j.2.2.1 e b g1 u)) g3 g4 (h.bl e b g1);exact g;rcases A b hb with g|g;exact h.dhi b g;exact .inr g
def fU.step{lo:Nat}{O:Nat->Prop}{m m':Nat->Option Blk}{E E':Nat->Ent}{n G:Nat}{D D':Nat->Prop}(h:fU lo O m E n D)
  (hm:∀f i b,cB m' E' f i b->cB m E f i b) (L:n<=G)
  (V:∀b,D' b->D b\/n<=b\/∃f r,m f=some r/\(E f).isNil=false/\b=(E f).b)
  (T:∀f r,m' f=some r->(E' f).isNil=false->n<=(E' f).b\/∃g u,m g=some u/\(E g).isNil=false/\(E' f).b=(E g).b):fU lo O m' E' G D':=by
 refine⟨λf i b hb=>?_,λf i b hb v r A hi e=>?_,λf i b v j h1 X=>h.inj f i b v j (hm _ _ _ h1) (hm _ _ _ X)⟩;obtain⟨g1,g2,g3⟩:=h.own f i b (hm _ _ _ hb);refine⟨g1,qZ g2 L,λhd=>?_⟩;rcases V b hd with q|q|⟨g,r,z,y,x⟩;exact g3 q;omega;exact h.ent f i b (hm _ _ _ hb) g r z y x.symm;obtain⟨g1,g2,g3⟩:=h.own f i b (hm _ _ _ hb);rcases T v r A hi with q|⟨g,u,z,y,x⟩;omega;exact h.ent f i b (hm _ _ _ hb) g u z y (x.symm.trans e)
def fU.lt{lo:Nat}{O:Nat->Prop}{m:Nat->Option Blk}{E:Nat->Ent}{n:Nat}{D:Nat->Prop}(h:fU lo O m E n D){e i k:Nat}{b:Blk}(hm:m e=some b)(f:rowsOf (E e) b i k):k<n:=
 (h.own e i k (aR.2 ⟨b,hm,f⟩)).2.1
def aQ.world{S:Base}{σ:Sig}{a:Act}{w w':World}{D D':Nat->Prop}{E:Nat->Ent}(h:aQ S σ a w D E)
  (hw:Below w.heap.size w w') (f:∀b,D' b↔D b\/(iV w w' b/\D' b)) (v:∀b,D' b->b<w'.heap.size):aQ S σ a w' D' E:=by
 have r:=h.low.size;refine h.go (m':=σ.m) ⟨λb hb=>(f b).2 (.inl hb),λb hb=>hw.block b (h.dlt b hb)⟩ (λe=>.inl λb hb=>⟨b,hb,rfl,qM _,λ_=>rfl⟩)
  (λe b hm=>.inl ⟨hm,rfl,λhi=>hw.block _ (h.own e b hm hi).2.1,λi k u=>hw.block _ (h.pv.lt hm u)⟩) (λe b hm hi=>?_) h.inj (h.low.below hw) v (λb hb=>?_)
  (h.pv.step (λ_ _ _ g=>g) hw.size (λb hb=>((f b).1 hb).imp id λg=>.inl g.1.1) λe j hm hi=>.inr ⟨e,j,hm,hi,rfl⟩)
 obtain⟨g1,g2,g3⟩:=h.own e b hm hi;refine⟨g1,qZ g2 hw.size,λhd=>?_⟩;rcases(f _).1 hd with g|g;exact g3 g;exact xY _ (qZ g2 g.1.1);rcases(f b).1 hb with g|g;exact .inl g;exact .inr (.inl (wJ r g.1.1))
end Go.Eng
namespace Go.Eng
open Go.RowKit
def G8(e e':Ent):Prop:=e.isNil=e'.isNil/\(e.isNil=false->e.b=e'.b/\e.cap=e'.cap)
def G8.handle{e b:Ent}(h:G8 e b)(n:Nat):e.handle n=b.handle n:=by
 unfold Ent.handle;rw[<- h.1];cases f:e.isNil with
 |true=>rfl|false=>obtain⟨g1,g2⟩:=h.2 f;simp[g1,g2]
def X1{e g:Ent}{n:Nat}(h:e.handle n=g.handle n):G8 e g:=by
 unfold Ent.handle at h;cases f:e.isNil<;>cases b:g.isNil<;>simp[f,b]at h;exact⟨f.trans b.symm,λ_=>h⟩;exact⟨f.trans b.symm,λe=>by rw[f]at e;cases e⟩
mutual
def AV.simple:AV->Bool|.agg cs=>zA7 cs|.tup cs=>zA7 cs|.fn _ cs=>zA7 cs|.ifc _ a=>a.simple|.grd _ a=>a.simple|.ipv a=>a.simple|.ips cs=>zA7 cs|.slv cs=>zA7 cs|.sel _ cs=>zA7 cs|.row _ _ _ _=>false|.rptr _ _ _ _ _=>false|.pin _ a=>a.simple|_=>true
def zA7:List AV->Bool|[]=>true|a::aa=>a.simple&&zA7 aa
end
def Blk.simple:Blk->Bool|.var cs=>zA7 cs|.buf _ _ _ ov=>zA7 (ov.map (·.2))|.mat _ _ _ _ _=>false
mutual
def zB7{P:Program}{w:World}{D:Nat->Prop}{m:Nat->Option Blk}{E E':Nat->Ent}{s:Bool}(L:∀z b,m z=some b->G8 (E z) (E' z)/\(s=true->(E z).rb=(E' z).rb)):∀{a:AV}{v:Value},(s=false->a.simple=true)->a.rel P ⟨w,D,m,E⟩ v->a.rel P ⟨w,D,m,E'⟩ v
 |.top,_,_,_=>trivial|.dat _ _,_,_,h=>h|.agg cs,_,y,h=>by obtain⟨us,G,A⟩:=h;exact⟨us,G,zB6 L (by simpa[AV.simple]using y) A⟩
 |.tup cs,_,y,h=>by obtain⟨us,G,A⟩:=h;exact⟨us,G,zB6 L (by simpa[AV.simple]using y) A⟩
 |.val _,_,_,h=>h|.buf z n,v,_,h=>λb hb=>by
  obtain⟨g1,g2⟩:=h b hb;exact⟨g1,λe=>(g2 e).trans ((L z b hb).1.handle n)⟩
 |.ptr z g i c,v,_,h=>λb hb=>by
  obtain⟨g1,g2⟩:=h b hb;refine⟨g1,λe=>?_⟩;obtain⟨T,O,q3⟩:=g2 e;obtain⟨X,V⟩:=(L z b hb).1;refine⟨T,X.symm.trans O,?_⟩;show v=.pointer (some ⟨(E' z).b,_,none⟩);rw[<- (V O).1];exact q3
 |.ip t x,_,_,h=>h|.fn f caps,_,y,h=>by obtain⟨us,G,A⟩:=h;exact⟨us,G,zB6 L (by simpa[AV.simple]using y) A⟩
 |.clo1 a r pre g,_,_,h=>h|.clo2 a b r pre g,_,_,h=>h|.ifc t a,_,y,h=>by obtain⟨u,G,A⟩:=h;exact⟨u,G,zB7 L (by simpa[AV.simple]using y) A⟩
 |.grd g a,_,y,h=>⟨λhg=>zB7 L (by simpa[AV.simple]using y) (h.1 hg),h.2⟩|.ipv a,_,y,h=>by
  obtain⟨b,off,u,G,A,h3,h5⟩:=h;exact⟨b,off,u,G,A,h3,zB7 L (by simpa[AV.simple]using y) h5⟩
 |.ips cs,_,y,h|.slv cs,_,y,h=>by
  obtain⟨b,off,us,G,A,h3,h5⟩:=h;exact⟨b,off,us,G,A,h3,zB6 L (by simpa[AV.simple]using y) h5⟩
 |.ia t xs,_,_,h=>h|.yld _,_,_,h=>h|.view z n,v,_,h=>λb hb=>by
  obtain⟨g1,g2⟩:=h b hb;refine⟨g1,λe=>?_⟩;obtain⟨T,c,O,q3⟩:=g2 e;obtain⟨X,V⟩:=(L z b hb).1;refine⟨X.symm.trans T,c,O,?_⟩;show v=.slice (some ⟨(E' z).b,0,none⟩) n c;rw[<- (V T).1];exact q3
 |.av _ _,_,_,h=>h|.sel i cs,_,y,h=>by
  obtain⟨us,G,A⟩:=h;exact⟨us,zB6 L (by simpa[AV.simple]using y) G,A⟩
 |.row z g i k,v,y,h=>λb hb=>by
  cases s with
  |false=>exact absurd (y rfl) (by simp[AV.simple])|true=>
   obtain⟨g1,g2⟩:=h b hb;refine⟨g1,λe=>?_⟩;have:=(L z b hb).2 rfl;show ∃ao cap,v=.slice ao k cap/\(0<k->ao=some ⟨((E' z).rb i).1,0,none⟩);rw[<- this];exact g2 e
 |.rptr z g i k j,v,y,h=>λb hb=>by
  cases s with
  |false=>exact absurd (y rfl) (by simp[AV.simple])|true=>
   obtain⟨g1,g2⟩:=h b hb;refine⟨g1,λe=>?_⟩;have:=(L z b hb).2 rfl;show j<k/\v=.pointer (some ⟨((E' z).rb i).1,j,none⟩);rw[<- this];exact g2 e
 |.pin u a,_,y,h=>⟨h.1,zB7 L (by simpa[AV.simple]using y) h.2⟩
def zB6{P:Program}{w:World}{D:Nat->Prop}{m:Nat->Option Blk}{E E':Nat->Ent}{s:Bool}(L:∀e b,m e=some b->G8 (E e) (E' e)/\(s=true->(E e).rb=(E' e).rb)):∀{aa:List AV}{us:Lv},(s=false->zA7 aa=true)->zA1 P ⟨w,D,m,E⟩ aa us->zA1 P ⟨w,D,m,E'⟩ aa us
 |[],_,_,h=>h|a::aa,_,i,h=>by
  obtain⟨u,f,v,r,j⟩:=h;exact⟨u,f,v,zB7 L (λg=>(by have:=i g;simp[zA7]at this;exact this.1)) r,zB6 L (λg=>(by have:=i g;simp[zA7]at this;exact this.2)) j⟩
end
def Ur{ov:List (Nat×AV)}(h:zA7 (ov.map (·.2))=true){i:Nat}{a:AV}(b:ov.lookup i=some a):a.simple=true:=by
 induction ov with
 |nil=>cases b
 |cons p ov e=>
  simp only[zO,zA7,qC]at h;obtain⟨k,v⟩:=p;simp only[List.lookup]at b;split at b;cases b;exact h.1;exact e h.2 b
def fe.ent{P:Program}{base:Nat}{w:World}{D:Nat->Prop}{m:Nat->Option Blk}{E E':Nat->Ent}{s:Bool}(L:∀j b,m j=some b->G8 (E j) (E' j)/\(s=true->(E j).rb=(E' j).rb)){e G:Ent}(r:G8 e G/\(s=true->e.rb=G.rb)){b:Blk}
  (A:s=false->b.simple=true) (h:fe P base ⟨w,D,m,E⟩ e b):fe P base ⟨w,D,m,E'⟩ G b:=by
 cases b with
 |var cs=>
  obtain⟨z,us,el,x,v⟩:=h;exact⟨r.1.1.symm.trans z,us,el,by rw[<- (r.1.2 z).1];exact x,zB6 L (by simpa[Blk.simple]using A) v⟩
 |buf el t xs ov=>
  obtain⟨raw,x,v⟩:=h;refine⟨raw,by rw[<- r.1.handle];exact x,λi y hy=>?_⟩;have g:=v i y hy;cases f:ov.lookup i with
  |none=>rw[f]at g;exact g|some a=>
   rw[f]at g;obtain⟨g1,u,g2,g4,g3⟩:=g;exact⟨g1,u,g2,g4,zB7 L (λq=>Ur (by simpa[Blk.simple]using A q) f) g3⟩
 |mat el eli t xss ov=>
  cases s with
  |false=>exact absurd (A rfl) (by simp[Blk.simple])|true=>
   obtain⟨z,raw,x,v⟩:=h;refine⟨z,raw,by rw[<- r.1.handle];exact x,λi row hi=>?_⟩;obtain⟨u,g1,g2⟩:=v i row hi;refine⟨u,g1,?_⟩;cases f:ov.lookup i with
   |some a=>
    rw[f]at g2;exact⟨g2.1,zB7 L (λq=>by cases q) g2.2⟩
   |none=>
    rw[f]at g2;obtain⟨ao,cap,O,V,X,T⟩:=g2;exact⟨ao,cap,O,V,X,λhp=>by rw[<- r.2 rfl];exact T hp⟩
mutual
def lR:AV->AV|.buf _ _=>.top|.view _ _=>.top|.ptr _ _ _ _=>.top|.row _ _ _ _=>.top|.rptr _ _ _ _ _=>.top|.slv _=>.top|.agg cs=>.agg (uU cs)|.tup cs=>.tup (uU cs)|.fn f cs=>.fn f (uU cs)|.ipv a=>.ipv (lR a)|.ips cs=>.ips (uU cs)|.ifc t a=>.ifc t (lR a)|.grd g a=>.grd g (lR a)|.sel i cs=>.sel i (uU cs)|.pin u a=>.pin u (lR a)|a=>a
def uU:List AV->List AV|[]=>[]|a::aa=>lR a::uU aa
end
mutual
def zB5{P:Program}{C:Ctx}:∀{a:AV}{v:Value},a.rel P C v->(lR a).rel P C v
 |.top,_,h=>h|.dat _ _,_,h=>h|.agg cs,_,h=>by obtain⟨us,j,e⟩:=h;exact⟨us,j,zB1 e⟩
 |.tup cs,_,h=>by obtain⟨us,j,e⟩:=h;exact⟨us,j,zB1 e⟩
 |.val _,_,h=>h|.buf _ _,_,_=>trivial|.view _ _,_,_=>trivial|.ptr _ _ _ _,_,_=>trivial|.row _ _ _ _,_,_=>trivial|.rptr _ _ _ _ _,_,_=>trivial|.slv _,_,_=>trivial|.ip _ _,_,h=>h|.fn f caps,_,h=>by obtain⟨us,j,e⟩:=h;exact⟨us,j,zB1 e⟩
 |.clo1 _ _ _ _,_,h=>h|.clo2 _ _ _ _ _,_,h=>h|.ifc t a,_,h=>by obtain⟨u,j,e⟩:=h;exact⟨u,j,zB5 e⟩
 |.grd g a,_,h=>⟨λy=>zB5 (h.1 y),h.2⟩|.ipv a,_,h=>by obtain⟨b,off,u,j,e,x,r⟩:=h;exact⟨b,off,u,j,e,x,zB5 r⟩
 |.ips cs,_,h=>by obtain⟨b,off,us,j,e,x,r⟩:=h;exact⟨b,off,us,j,e,x,zB1 r⟩
 |.ia _ _,_,h=>h|.yld _,_,h=>h|.av _ _,_,h=>h|.sel i cs,_,h=>by obtain⟨us,j,e⟩:=h;exact⟨us,zB1 j,e⟩
 |.pin u a,_,h=>⟨h.1,zB5 h.2⟩
def zB1{P:Program}{C:Ctx}:∀{aa:List AV}{us:Lv},zA1 P C aa us->zA1 P C (uU aa) us
 |[],_,h=>h|a::aa,_,h=>by
  obtain⟨u,b,g,f,e⟩:=h;exact⟨u,b,g,zB5 f,zB1 e⟩
end
mutual
def gb:∀(a:AV),(lR a).names=[]|.top|.dat _ _|.val _|.buf _ _|.view _ _|.ptr _ _ _ _|.row _ _ _ _|.rptr _ _ _ _ _|.ip _ _|.clo1 _ _ _ _|.clo2 _ _ _ _ _|.ia _ _|.yld _|.av _ _|.slv _=>rfl|.agg cs=>by simp only[lR,AV.names,fu]|.tup cs=>by simp only[lR,AV.names,fu]|.fn _ cs=>by simp only[lR,AV.names,fu]|.ifc _ a=>by simp only[lR,AV.names,gb]|.grd _ a=>by simp only[lR,AV.names,gb]|.ipv a=>by simp only[lR,AV.names,gb]|.ips cs=>by simp only[lR,AV.names,fu]|.sel _ cs=>by simp only[lR,AV.names,fu]|.pin _ a=>by simp only[lR,AV.names,gb]
def fu:∀(aa:List AV),zA2 (uU aa)=[]|[]=>rfl|a::aa=>by simp only[uU,zA2,gb,fu,wB]
end
mutual
def aCp(nx:Nat):AV->AV|.buf _ n=>.buf nx n|.view _ n=>.view nx n|.ptr _ g i c=>.ptr nx g i c|.agg cs=>.agg (aCo nx cs)|.tup cs=>.tup (aCo nx cs)|.fn f cs=>.fn f (aCo nx cs)|.ifc t a=>.ifc t (aCp nx a)|.grd g a=>.grd g (aCp nx a)|.ipv a=>.ipv (aCp nx a)|.ips cs=>.ips (aCo nx cs)|.slv _=>.top|.sel i cs=>.sel i (aCo nx cs)|.row _ g i k=>.row nx g i k|.rptr _ g i k j=>.rptr nx g i k j|.pin u a=>.pin u (aCp nx a)|a=>a
def aCo(nx:Nat):List AV->List AV|[]=>[]|a::aa=>aCp nx a::aCo nx aa
end
mutual
def zC3{P:Program}{w:World}{D:Nat->Prop}{m m':Nat->Option Blk}{E E':Nat->Ent}{k nx:Nat}(hm:m' nx=m k)(z:E' nx=E k):∀{a:AV}{v:Value},(∀x∈a.names,x=k)->a.rel P ⟨w,D,m,E⟩ v->(aCp nx a).rel P ⟨w,D,m',E'⟩ v
 |.top,_,_,_=>trivial|.slv _,_,_,_=>trivial|.dat _ _,_,_,h=>h|.agg cs,_,y,h=>by obtain⟨us,G,A⟩:=h;exact⟨us,G,zC1 hm z (by simpa[AV.names]using y) A⟩
 |.tup cs,_,y,h=>by obtain⟨us,G,A⟩:=h;exact⟨us,G,zC1 hm z (by simpa[AV.names]using y) A⟩
 |.val _,_,_,h=>h|.buf L n,v,y,h=>λb hb=>by
  have e:=y L (by simp[AV.names]);subst e;have O:m L=some b:=hm.symm.trans hb;obtain⟨g1,g2⟩:=h b O;refine⟨g1,λe=>?_⟩;show v=(E' nx).handle n;rw[z];exact g2 e
 |.view L n,v,y,h=>λb hb=>by
  have e:=y L (by simp[AV.names]);subst e;have O:m L=some b:=hm.symm.trans hb;obtain⟨g1,g2⟩:=h b O;refine⟨g1,λe=>?_⟩;show(E' nx).isNil=false/\∃c,n<=c/\v=.slice (some ⟨(E' nx).b,0,none⟩) n c;rw[z];exact g2 e
 |.ptr L g i c,v,y,h=>λb hb=>by
  have e:=y L (by simp[AV.names]);subst e;have O:m L=some b:=hm.symm.trans hb;obtain⟨g1,g2⟩:=h b O;refine⟨g1,λe=>?_⟩;show i<g/\(E' nx).isNil=false/\v=.pointer (some ⟨(E' nx).b,i*b.es+c,none⟩);rw[z];exact g2 e
 |.ip t x,_,_,h=>h|.fn f caps,_,y,h=>by obtain⟨us,G,A⟩:=h;exact⟨us,G,zC1 hm z (by simpa[AV.names]using y) A⟩
 |.clo1 a r pre g,_,_,h=>h|.clo2 a b r pre g,_,_,h=>h|.ifc t a,_,y,h=>by obtain⟨u,G,A⟩:=h;exact⟨u,G,zC3 hm z (by simpa[AV.names]using y) A⟩
 |.grd g a,_,y,h=>⟨λhg=>zC3 hm z (by simpa[AV.names]using y) (h.1 hg),h.2⟩|.ipv a,_,y,h=>by
  obtain⟨b,off,u,G,A,X,V⟩:=h;exact⟨b,off,u,G,A,X,zC3 hm z (by simpa[AV.names]using y) V⟩
 |.ips cs,_,y,h=>by
  obtain⟨b,off,us,G,A,X,V⟩:=h;exact⟨b,off,us,G,A,X,zC1 hm z (by simpa[AV.names]using y) V⟩
 |.ia t xs,_,_,h=>h|.yld _,_,_,h=>h|.av _ _,_,_,h=>h|.sel i cs,_,y,h=>by
  obtain⟨us,G,A⟩:=h;exact⟨us,zC1 hm z (by simpa[AV.names]using y) G,A⟩
 |.row L g i T,v,y,h=>λb hb=>by
  have e:=y L (by simp[AV.names]);subst e;have:=h b (hm.symm.trans hb);refine⟨this.1,λe=>?_⟩;show ∃ao cap,v=.slice ao T cap/\(0<T->ao=some ⟨((E' nx).rb i).1,0,none⟩);rw[z];exact this.2 e
 |.rptr L g i T j,v,y,h=>λb hb=>by
  have e:=y L (by simp[AV.names]);subst e;have:=h b (hm.symm.trans hb);refine⟨this.1,λe=>?_⟩;show j<T/\v=.pointer (some ⟨((E' nx).rb i).1,j,none⟩);rw[z];exact this.2 e
 |.pin u a,_,y,h=>⟨h.1,zC3 hm z (by simpa[AV.names]using y) h.2⟩
def zC1{P:Program}{w:World}{D:Nat->Prop}{m m':Nat->Option Blk}{E E':Nat->Ent}{k nx:Nat}(hm:m' nx=m k)(g:E' nx=E k):∀{aa:List AV}{us:Lv},(∀x∈zA2 aa,x=k)->zA1 P ⟨w,D,m,E⟩ aa us->zA1 P ⟨w,D,m',E'⟩ (aCo nx aa) us
 |[],_,_,h=>h|a::aa,_,f,h=>by
  obtain⟨u,b,r,j,i⟩:=h;simp only[zA2,qJ]at f;exact⟨u,b,r,zC3 hm g (λx e=>f x (.inl e)) j,zC1 hm g (λx e=>f x (.inr e)) i⟩
end
structure Core where
 need:List Prop:=[]
 val:AV
 upd:List (Nat×Blk):=[]
 new:Option Nat:=none
def It:Value->AV|.int k n=>.dat (.int k) n|.bool b=>.dat .bool b|.string s=>.dat .str s|v=>.val v
variable {C:Ctx}{P:Program}
def Is(v:Value):(It v).rel P C v:=by
 cases v<;>simp[It,AV.rel,ag]
def inR:IntKind->Int->Prop|.i8,n=>-128<=n/\n<=127|.i16,n=>-32768<=n/\n<=32767|.i32,n=>-2147483648<=n/\n<=2147483647|.i64,n=>-9223372036854775808<=n/\n<=9223372036854775807|.u8,n=>0<=n/\n<=255|.u16,n=>0<=n/\n<=65535|.u32,n=>0<=n/\n<=4294967295|.u64,n=>0<=n/\n<=18446744073709551615
variable {k:IntKind}
def gR{n:Int}(h:inR k n):k.wrap n=n:=by
 cases k;exact IntWalk.i8_in n h;exact IntWalk.i16_in n h;exact IntWalk.i32_in n h;exact IntWalk.i64_in n h;exact IntWalk.u8_in n h;exact IntWalk.u16_in n h;exact IntWalk.u32_in n h;exact IntWalk.u64_in n h
def aIE(op:BinOp)(k:IntKind)(x y:Int):Option Core:=
 match op with
 |.add=>some {need:=[inR k (x+y)],val:=.dat (.int k) (x+y)}|.sub=>some {need:=[inR k (x-y)],val:=.dat (.int k) (x-y)}|.mul=>some {need:=[inR k (x*y)],val:=.dat (.int k) (x*y)}|.quo=>some {need:=[y≠0,inR k (x.tdiv y)],val:=.dat (.int k) (x.tdiv y)}|.rem=>some {need:=[y≠0],val:=.dat (.int k) (x.tmod y)}|.eql=>some {val:=.dat .bool (Eb x y)}|.neq=>some {val:=.dat .bool (Dw x y)}|.lss=>some {val:=.dat .bool (Dn x y)}|.leq=>some {val:=.dat .bool (Ef x y)}|.gtr=>some {val:=.dat .bool (Eh x y)}|.geq=>some {val:=.dat .bool (Ed x y)}|_=>none
def aIb(op:BinOp)(x y:ByteArray):Option Core:=
 match op with
 |.eql=>some {val:=.dat .bool (Fz x y)}|.neq=>some {val:=.dat .bool (!(Fz x y))}|.lss=>some {val:=.dat .bool (Gm x y)}|.leq=>some {val:=.dat .bool (Gm x y||Fz x y)}|.gtr=>some {val:=.dat .bool (!(Gm x y||Fz x y))}|.geq=>some {val:=.dat .bool (!Gm x y)}|.add=>some {need:=[((x.size+y.size:Nat):Int)<=9223372036854775807],val:=.dat .str (x++y)}|_=>none
def U7(P:Program)(t:TypeId):Bool:=match P.underlying t with|some .bool=>true|_=>false
def shE(op:BinOp)(k:IntKind)(x y:Int):Option Core:=
 match op with
 |.shr=>some {need:=[0<=y,Dc y<=k.bits],val:=.dat (.int k) (Gi x y)}|.shl=>some {need:=[0<=y,Dc y<=k.bits,inR k (Gn x y)],val:=.dat (.int k) (Gn x y)}|_=>none
def aIS(P:Program)(op:BinOp)(xT:TypeId):AV->AV->Option Core
 |.dat (.int k) x,.dat (.int k') y=>match shE op k x y with
  |some c=>some c|none=>if k=k' then aIE op k x y else none
 |.dat .str x,.dat .str y=>aIb op x y|.dat .bool x,.dat .bool y=>if U7 P xT then match op with
  |.eql=>some {val:=.dat .bool (Ez x y)}|.neq=>some {val:=.dat .bool (!(Ez x y))}|_=>none else none
 |_,_=>none
variable {t:TypeId}
def lZ{x y:Int}:binOp .add t (.int k x) (.int k y)=Op.intArith .add k x y/\binOp .sub t (.int k x) (.int k y)=Op.intArith .sub k x y/\binOp .mul t (.int k x) (.int k y)=Op.intArith .mul k x y:=
 ⟨if_neg (λh=>h rfl),if_neg (λh=>h rfl),if_neg (λh=>h rfl)⟩
def Wa{x y:Int}:binOp .quo t (.int k x) (.int k y)=Op.intDiv .quo k x y/\binOp .rem t (.int k x) (.int k y)=Op.intDiv .rem k x y:=
 ⟨if_neg (λh=>h rfl),if_neg (λh=>h rfl)⟩
def G5{x y:Int}:binOp .eql t (.int k x) (.int k y)=Op.intCmp .eql x y/\binOp .neq t (.int k x) (.int k y)=Op.intCmp .neq x y/\binOp .lss t (.int k x) (.int k y)=Op.intCmp .lss x y:=
 ⟨if_neg (λh=>h rfl),if_neg (λh=>h rfl),if_neg (λh=>h rfl)⟩
def G4{x y:Int}:binOp .leq t (.int k x) (.int k y)=Op.intCmp .leq x y/\binOp .gtr t (.int k x) (.int k y)=Op.intCmp .gtr x y/\binOp .geq t (.int k x) (.int k y)=Op.intCmp .geq x y:=
 ⟨if_neg (λh=>h rfl),if_neg (λh=>h rfl),if_neg (λh=>h rfl)⟩
variable {c:Core}{op:BinOp}{w:World}
def Ye{x y:Int}(h:aIE op k x y=some c)(f:∀p∈c.need,p):
  ∃v,(binOp op t (.int k x) (.int k y)).run P w=.ok v w/\c.val.rel P C v/\c.upd=[]:=by
 have R:∀n,(AV.dat (.int k) n).rel P C (.int k n):=λn=>rfl;have B:∀b,(AV.dat .bool b).rel P C (.bool b):=λb=>rfl;unfold aIE at h;cases op<;>simp only[reduceCtorEq]at h<;>cases h;case add=>
  have e:inR k (x+y):=f _ (by simp);exact⟨.int k (x+y),by(rw[lZ.1];simp only[Op.intArith,gR e];rfl),R _,rfl⟩
 case sub=>
  have e:inR k (x-y):=f _ (by simp);exact⟨.int k (x-y),by(rw[lZ.2.1];simp only[Op.intArith,gR e];rfl),R _,rfl⟩
 case mul=>
  have e:inR k (x*y):=f _ (by simp);exact⟨.int k (x*y),by(rw[lZ.2.2];simp only[Op.intArith,gR e];rfl),R _,rfl⟩
 case quo=>
  have e:y≠0:=f _ (by simp);have g:inR k (x.tdiv y):=f _ (by simp);exact⟨.int k (x.tdiv y),by(rw[Wa.1];simp only[Op.intDiv,if_neg e,gR g];rfl),R _,rfl⟩
 case rem=>
  have e:y≠0:=f _ (by simp);exact⟨.int k (x.tmod y),by(rw[Wa.2];simp only[Op.intDiv,if_neg e];rfl),R _,rfl⟩
 case eql=>exact⟨.bool (x==y),by(rw[G5.1];rfl),B _,rfl⟩
 case neq=>exact⟨.bool (x != y),by(rw[G5.2.1];rfl),B _,rfl⟩
 case lss=>exact⟨.bool (decide (x<y)),by(rw[G5.2.2];rfl),B _,rfl⟩
 case leq=>exact⟨.bool (decide (x<=y)),by(rw[G4.1];rfl),B _,rfl⟩
 case gtr=>exact⟨.bool (decide (x>y)),by(rw[G4.2.1];rfl),B _,rfl⟩
 case geq=>exact⟨.bool (decide (x≥y)),by(rw[G4.2.2];rfl),B _,rfl⟩
def aCk{k k':IntKind}{x y:Int}(h:shE op k x y=some c)(b:∀p∈c.need,p):
  ∃v,(binOp op t (.int k x) (.int k' y)).run P w=.ok v w/\c.val.rel P C v/\c.upd=[]:=by
 unfold shE at h;split at h;cases h;have g:0<=y:=b _ (by simp);have e:y.toNat<=k.bits:=b _ (by simp);refine⟨.int k (x.fdiv (2 ^ y.toNat)),?_,rfl,rfl⟩;show(Op.shift .shr k x k' y).run P w=_;simp only[Op.shift,if_neg (show ¬y<0 by omega),kF e];rfl;cases h;have g:0<=y:=b _ (by simp);have e:y.toNat<=k.bits:=b _ (by simp);have f:inR k (x*2 ^ y.toNat):=b _ (by simp);refine⟨.int k (x*2 ^ y.toNat),?_,rfl,rfl⟩;show(Op.shift .shl k x k' y).run P w=_;simp only[Op.shift,if_neg (show ¬y<0 by omega),kF e,gR f];rfl;cases h
def Yd{x y:ByteArray}(h:aIb op x y=some c)(e:∀p∈c.need,p):
  ∃v,(binOp op t (.string x) (.string y)).run P w=.ok v w/\c.val.rel P C v/\c.upd=[]:=by
 have B:∀b,(AV.dat .bool b).rel P C (.bool b):=λb=>rfl;unfold aIb at h;cases op<;>simp only[reduceCtorEq]at h<;>cases h;case add=>
  have g:((x.size+y.size:Nat):Int)<=9223372036854775807:=e _ (by simp);have f:¬((x.size+y.size:Nat):Int)>IntKind.i64.max:=by
   have:IntKind.i64.max=9223372036854775807:=by decide
   omega
  exact⟨.string (x++y),by(show(Op.stringOp .add x y).run P w=_;simp only[Op.stringOp,if_neg f];rfl),rfl,rfl⟩
 all_goals exact⟨_,rfl,B _,rfl⟩
def fi(op:BinOp)(t:TypeId)(x y:Operand)(k k':IntKind)(a b:Int):(eqGuard op t x y (.int k a) (.int k' b)).run P w=.ok () w:=by
 unfold eqGuard;cases op<;>simp
def wo(op:BinOp)(t:TypeId)(x y:Operand)(a b:ByteArray):(eqGuard op t x y (.string a) (.string b)).run P w=.ok () w:=by
 unfold eqGuard;cases op<;>simp
def mK(op:BinOp)(t:TypeId)(x y:Operand)(a b:Bool):(eqGuard op t x y (.bool a) (.bool b)).run P w=.ok () w:=by
 unfold eqGuard;cases op<;>simp
def run_equalIn_bool(d:Nat)(e:P.underlying t=some .bool)(a b:Bool):(Op.equalIn (d+1) t (.bool a) (.bool b)).run P w=.ok (a==b) w:=by
 simp[Op.equalIn,vN e]
def run_equal_bool(e:P.underlying t=some .bool)(a b:Bool):(Op.equal t (.bool a) (.bool b)).run P w=.ok (a==b) w:=
 run_equalIn_bool 9999 e a b
def run_eql_bool(e:P.underlying t=some .bool)(a b:Bool):(binOp .eql t (.bool a) (.bool b)).run P w=.ok (.bool (a==b)) w:=by
 show(do pure (Value.bool (<- Op.equal t (.bool a) (.bool b))):Sem Value).run P w=_;rw[wV,run_equal_bool e];rfl
def run_neq_bool(e:P.underlying t=some .bool)(a b:Bool):(binOp .neq t (.bool a) (.bool b)).run P w=.ok (.bool (!(a==b))) w:=by
 show(do pure (Value.bool (!(<- Op.equal t (.bool a) (.bool b)))):Sem Value).run P w=_;rw[wV,run_equal_bool e];rfl
def Yf{x y:Operand}{a b:AV}{u v:Value}(h:aIS P op t a b=some c)(j:∀p∈c.need,p)
  (e:a.rel P C u) (hb:b.rel P C v):
  ∃r,(do eqGuard op t x y u v;binOp op t u v).run P w=.ok r w/\c.val.rel P C r/\c.upd=[]:=by
 unfold aIS at h;split at h;split at h;rename_i i;cases h;simp only[AV.rel,ag,vH,vW]at e hb;subst e hb;rename_i k O k' L _;obtain⟨r,g,f⟩:=aCk (C:=C) (w:=w) (P:=P) (k':=k') (t:=t) i j;exact⟨r,by simp[fi,g],f⟩;split at h;rename_i G;subst G;simp only[AV.rel,ag,vH,vW]at e hb;subst e hb;obtain⟨r,g,f⟩:=Ye (C:=C) (w:=w) (P:=P) (t:=t) h j;exact⟨r,by simp[fi,g],f⟩;cases h;simp only[AV.rel,ag,vH,vW]at e hb;subst e hb;obtain⟨r,g,f⟩:=Yd (C:=C) (w:=w) (P:=P) (t:=t) h j;exact⟨r,by simp[wo,g],f⟩;split at h;rename_i z;simp only[AV.rel,ag,vH,vW]at e hb;subst e hb;have A:P.underlying t=some .bool:=by
  unfold U7 at z;split at z;assumption;cases z
 split at h;cases h;exact⟨.bool (_==_),by rw[wV,mK,vZ,run_eql_bool A],rfl,rfl⟩;cases h;exact⟨.bool (!(_==_)),by rw[wV,mK,vZ,run_neq_bool A],rfl,rfl⟩;cases h;cases h;cases h
def unE(op:UnOp):AV->Option Core
 |.dat .bool b=>match op with|.not=>some {val:=.dat .bool (!b)}|_=>none
 |.dat (.int k) n=>match op with|.neg=>some {need:=[inR k (-n)],val:=.dat (.int k) (-n)}|_=>none
 |_=>none
def aCj{op:UnOp}{a:AV}{u:Value}(h:unE op a=some c)(e:∀p∈c.need,p)(b:a.rel P C u):
  ∃r,(Op.unary op u).run P w=.ok r w/\c.val.rel P C r/\c.upd=[]:=by
 unfold unE at h;split at h;simp only[AV.rel,ag,vH,vW]at b;subst b;split at h;cases h;exact⟨.bool _,rfl,rfl,rfl⟩;cases h;simp only[AV.rel,ag,vH,vW]at b;subst b;split at h;rename_i k n _;cases h;have f:inR k (-n):=e _ (by simp);exact⟨.int k (-n),by(show(Op.intArith .sub k 0 n).run P w=_;simp only[Op.intArith,Int.zero_sub,gR f];rfl),rfl,rfl⟩;cases h;cases h
def aDh(P:Program)(src dst:TypeId):AV->Option Core
 |.dat (.int _) n=>match P.underlying src,P.underlying dst with
  |some _,some (.int k)=>some {need:=[inR k n],val:=.dat (.int k) n}|_,_=>none
 |_=>none
def TS{src dst:TypeId}{a:AV}{u:Value}(h:aDh P src dst a=some c)(f:∀p∈c.need,p)(b:a.rel P C u):
  ∃r,(convert src dst u).run P w=.ok r w/\c.val.rel P C r/\c.upd=[]:=by
 unfold aDh at h;split at h;simp only[AV.rel,ag,vH,vW]at b;subst b;split at h;rename_i n _ _ d k e hd;cases h;have g:inR k n:=f _ (by simp);refine⟨.int k n,?_,rfl,rfl⟩;cases d<;>simp[convert,vN e,vN hd,Conv.intToInt,gR g];cases h;cases h
def nq(isMax:Bool)(k:IntKind):Int->List AV->Option Int
 |x,[]=>some x|x,a::r=>match a with
  |.dat (.int k') y=>if k=k' then nq isMax k (if isMax then Ew x y else Ey x y) r else none|_=>none
def E8{P:Program}{C:Ctx}{w:World}(f:Bool)(k:IntKind):∀(vs:List AV) (us:Lv) (x y:Int),nq f k x vs=some y->zA1 P C vs us->
  (us.foldlM (if f then Builtin.max2 else Builtin.min2) (.int k x)).run P w=.ok (.int k y) w
 |[],us,x,y,h,i=>by
  simp only[nq]at h;cases h;simp only[zA1]at i;subst i;rfl
 |a::vs,us,x,y,h,i=>by
  simp only[nq]at h;split at h;rename_i k' z;split at h;rename_i r;subst r;obtain⟨u,j,e,g1,g2⟩:=i;simp only[AV.rel,ag,vH,vW]at g1;subst e g1;have g:=E8 (w:=w) f k vs j _ y h g2;cases f;have:(if(z:Int)<x then(z:Int)else x)=min x z:=(λ(a b:Int)=>(by omega:(if b<a then b else a)=min a b)) x z;simp only[List.foldlM_cons,wV,wG,xW,Builtin.min2,yN,vZ]at g ⊢;rw[this];exact g;have:(if(z:Int)>x then(z:Int)else x)=max x z:=(λ(a b:Int)=>(by omega:(if b>a then b else a)=max a b)) x z;simp only[List.foldlM_cons,wV,kT,Builtin.max2,yN,vZ]at g ⊢;rw[this];exact g;cases h;cases h
end Go.Eng
namespace Go.Eng
open Go.RowKit
abbrev RV:=AV×Option Blk
def cL(m:Nat->Option Blk):AV->Option Blk|.buf nm _=>m nm|.view nm _=>m nm|.ptr nm _ _ _=>m nm|.row nm _ _ _=>m nm|.rptr nm _ _ _ _=>m nm|_=>none
def iy(P:Program)(t:TypeId):Option Bool:=match P.underlying t with|some (.struct _)=>some true|some (.array _ _)=>some true|some _=>some false|none=>none
def sizeT(P:Program)(t:TypeId):Option Nat:=(P.info? t).map (·.size)
variable {P:Program}{t:TypeId}
def lF{b:Bool}(h:iy P t=some b)(w:World):(isAgg t).run P w=.ok b w:=by
 unfold iy at h;unfold isAgg;cases e:P.underlying t with
 |none=>rw[e]at h;cases h
 |some d=>
  rw[e]at h;rw[wV,vN e w];cases d<;>simp_all
def bK{n:Nat}(h:sizeT P t=some n)(w:World):(sizeOf t).run P w=.ok n w:=by
 unfold sizeT at h;cases hi:P.info? t with
 |none=>rw[hi]at h;cases h
 |some i=>
  rw[hi]at h;cases h;simp[sizeOf,typeInfo,hi]
def behind:AV->Option Blk->Option (List Prop×List AV)|.ip t x,_=>some ([],cellsOf t x)|.ipv x,_=>some ([],[x])|.ips cs,_=>some ([],cs)|.ptr _ g i c,some (.var cs)=>some ([1=g,i=0],cs.drop c)|.ptr _ g i c,some (.buf _ t xs [])=>some ([xs.length=g],(cellsOf t (Du xs i t.dflt)).drop c)|.ptr _ g i 0,some (.buf _ t xs ((j,v)::_))=>if t.sz=1 then some ([xs.length=g,i=j],[v])else none|_,_=>none
variable {S:Base}{D:Nat->Prop}{a:Act}{w:World}{E:Nat->Ent}{v:Value}{σ:Sig}
def EC(h:aQ S σ a w D E){p:AV}{b:Option Blk}{ns:List Prop}{cs:List AV}
  (hb:b=cL σ.m p) (y:behind p b=some (ns,cs)) (hn:∀q∈ns,q) (V:p.rel S.P ⟨w,D,σ.m,E⟩ v):
  ∃bl off us,v=.pointer (some ⟨bl,off,none⟩)/\cX w bl off us/\zA1 S.P ⟨w,D,σ.m,E⟩ cs us:=by
 unfold behind at y;split at y;cases y;obtain⟨bl,off,us,r,z,h3,h4⟩:=V;exact⟨bl,off,us,r,h3,cy h4⟩;cases y;obtain⟨bl,off,u,r,z,h3,h4⟩:=V;exact⟨bl,off,[u],r,λj q x=>by
  cases j with
  |zero=>simp at x;subst x;exact h3|succ j=>simp at x,u,[],rfl,h4,rfl⟩
 cases y;obtain⟨bl,off,us,r,z,h3,h4⟩:=V;exact⟨bl,off,us,r,h3,h4⟩;rename_i f g i c cs;cases y;have hm:σ.m f=some (.var cs):=hb.symm;obtain⟨g1,g2⟩:=V _ hm;have A:1=g:=hn _ (by simp);have e2:i=0:=hn _ (by simp);obtain⟨g3,g4,g5⟩:=g2 A;obtain⟨_,us,el,r,z⟩:=h.bl f _ hm;subst e2;have hl:=zA3 z;refine⟨(E f).b,c,us.toList.drop c,by simpa using g5,?_,?_⟩;intro j u x;rw[vM]at x;have hh:w.heap[(E f).b]?=some (.cells us el (0,0)):=r;rw[qDx w _ _ us el (0,0) hh];simpa using x;have e:cs=cs.take c++cs.drop c:=(kJ c cs).symm;rw[e]at z;obtain⟨u1,u2,A,r1,r2⟩:=zC5 z;have L:=zA3 r1;by_cases hlt:c<=cs.length;have:u1.length=c:=by rw[<- L,qP];omega
 have T:us.toList.drop c=u2:=by rw[A,<- this,qBz]
 rw[T];exact r2;have T:cs.drop c=[]:=yE Z;have e4:us.toList.drop c=[]:=yE Z;rw[T,e4];rfl;rename_i f g i c el t xs;cases y;have hm:σ.m f=some (.buf el t xs []):=hb.symm;obtain⟨g1,g2⟩:=V _ hm;have A:xs.length=g:=hn _ (by simp);obtain⟨g3,g4,g5⟩:=g2 A;obtain⟨raw,r,z⟩:=h.bl f _ hm;have hi:i<xs.length:=Z;have hx:xs[i]?=some (xs.getD i t.dflt):=by rw[qA,qB hi];rfl
 have X:=z i _ hx;simp only[List.lookup]at X;have G:=cy (P:=S.P) (C:=⟨w,D,σ.m,E⟩) X;have hl:=zA3 G;have O:(E f).handle xs.length=.slice (some ⟨(E f).b,0,none⟩) xs.length (E f).cap:=by unfold Ent.handle;rw[g4];rfl
 rw[O]at r;have hsz:(raw.drop (i*t.sz)).take t.sz=(raw.drop (i*t.sz)).take t.sz:=rfl;have hrl:=r.1;have hmul:i*t.sz+t.sz<=xs.length*t.sz:=by
  have:=wH t.sz (show i+1<=xs.length from hi);rw[zX,yM]at this;exact this
 refine⟨(E f).b,i*t.sz+c,((raw.drop (i*t.sz)).take t.sz).drop c,g5,?_,?_⟩;intro j u x;rw[vM,vX]at x;split at x;rename_i hlt;rw[vM]at x;show w.cell? ⟨(E f).b,i*t.sz+c+j,none⟩=some u;have hlt2:i*t.sz+c+j<xs.length*t.sz:=Z;rw[r.cellAt (i*t.sz+c+j) hlt2,<- x,qAb];cases x;have e:cellsOf t (xs.getD i t.dflt)=(cellsOf t (xs.getD i t.dflt)).take c++(cellsOf t (xs.getD i t.dflt)).drop c:=(kJ c _).symm;rw[e]at G;obtain⟨u1,u2,A,r1,r2⟩:=zC5 G;have L:=zA3 r1;by_cases hlt:c<=(cellsOf t (xs.getD i t.dflt)).length;have:u1.length=c:=by rw[<- L,qP];omega
 have T:((raw.drop (i*t.sz)).take t.sz).drop c=u2:=by rw[A,<- this,qBz]
 rw[T];exact r2;have T:(cellsOf t (xs.getD i t.dflt)).drop c=[]:=yE Z;have e4:((raw.drop (i*t.sz)).take t.sz).drop c=[]:=yE Z;rw[T,e4];rfl;rename_i f g i el t xs j av rest;split at y;rename_i ht;cases y;have hm:σ.m f=some (.buf el t xs ((j,av)::rest)):=hb.symm;obtain⟨g1,g2⟩:=V _ hm;have A:xs.length=g:=hn _ (by simp);have e2:i=j:=hn _ (by simp);obtain⟨g3,g4,g5⟩:=g2 A;obtain⟨raw,r,z⟩:=h.bl f _ hm;have hi:i<xs.length:=Z;have hx:xs[i]?=some (xs.getD i t.dflt):=by rw[qA,qB hi];rfl
 have X:=z i _ hx;subst e2;simp only[List.lookup,xE]at X;obtain⟨_,u,hu,_,hru⟩:=X;have O:(E f).handle xs.length=.slice (some ⟨(E f).b,0,none⟩) xs.length (E f).cap:=by unfold Ent.handle;rw[g4];rfl
 rw[O]at r;refine⟨(E f).b,i*t.sz+0,[u],g5,?_,⟨u,[],rfl,hru,rfl⟩⟩;intro k q hk;cases k with
 |zero=>
  simp at hk;subst hk;show w.cell? ⟨(E f).b,i*t.sz+0+0,none⟩=some u;rw[r.cellAt _ (by rw[ht];omega),<- hu,ht];simp
 |succ k=>simp at hk
 cases y;cases y
def YR(P:Program)(t:TypeId)(p:RV):Option Core:=
 match behind p.1 p.2,iy P t,sizeT P t with
 |some (ns,cs),some true,some k=>if k<=cs.length then some {need:=ns,val:=.agg (cs.take k)} else none|some (ns,c::_),some false,_=>some {need:=ns,val:=c}|_,_,_=>none
variable {c:Core}{p:RV}
def Oc(h:aQ S σ a w D E)
  (hb:p.2=cL σ.m p.1) (f:YR S.P t p=some c) (T:∀q∈c.need,q) (O:p.1.rel S.P ⟨w,D,σ.m,E⟩ v):
  ∃r,(Instr.loadAt t v).run S.P w=.ok r w/\c.val.rel S.P ⟨w,D,σ.m,E⟩ r/\c.upd=[]/\c.new=none:=by
 unfold YR at f;split at f;rename_i ns cs k G g h3;split at f;rename_i hk;cases f;obtain⟨bl,off,us,rfl,g1,g2⟩:=EC h hb G T O;have hl:=zA3 g2;have b:cX w bl off (us.take k):=λj u x=>by
  rw[vX]at x;split at x;exact g1 j u x;cases x
 have hu:∃d,S.P.underlying t=some d/\d.isRow=true:=by
  unfold iy at g;cases hd:S.P.underlying t with
  |none=>rw[hd]at g;cases g
  |some d=>exact⟨d,rfl,by rw[hd]at g;cases d<;>simp_all⟩
 obtain⟨d,A,z⟩:=hu;refine⟨.agg (us.take k).toArray,run_loadAt_mid (P:=S.P) w bl off t (us.take k) d b A z ?_,?_,rfl,rfl⟩;have:(us.take k).length=k:=by rw[qP];omega
 rw[this];exact h3;refine⟨us.take k,rfl,?_⟩;have e:cs=cs.take k++cs.drop k:=(kJ k cs).symm;rw[e]at g2;obtain⟨L,u2,e1,i,X⟩:=zC5 g2;have y:=zA3 i;have:L.length=k:=by rw[<- y,qP];omega
 have e3:us.take k=L:=by rw[e1,<- this,qEa]
 rw[e3];exact i;cases f;rename_i ns c' cs' G g;cases f;obtain⟨bl,off,us,rfl,g1,g2⟩:=EC h hb G T O;obtain⟨u,V,e,i,X⟩:=g2;subst e;refine⟨u,?_,i,rfl,rfl⟩;have:=g1 0 u rfl;simp only[xZ]at this;simp[Instr.loadAt,Instr.sureAddr,loadVar,lF g,this];cases f
def qa:(t:Ty)->t.den->Nat->Option AV|.pair a b,x,off=>if off=0 then some (.ip (.pair a b) x)else if a.sz<=off then qa b x.2 (off-a.sz)else none|.int k,x,off=>if off=0 then some (.ip (.int k) x)else none|.bool,x,off=>if off=0 then some (.ip .bool x)else none|.str,x,off=>if off=0 then some (.ip .str x)else none|.sl e,x,off=>if off=0 then some (.ip (.sl e) x)else none
variable {C:Ctx}
def Bq{P:Program}{C:Ctx}:∀{t:Ty}{x:t.den}{off:Nat}{q:AV}{bl o:Nat}{us:Lv},qa t x off=some q->C.D bl->cX C.w bl o us->ag C.w C.D t x us->
  q.rel P C (.pointer (some ⟨bl,o+off,none⟩))
 |.pair a b,x,off,q,bl,o,us,h,i,g,f=>by
  simp only[qa]at h;split at h;rename_i r;subst r;cases h;exact⟨bl,o,us,rfl,i,g,f⟩;split at h;rename_i r G;obtain⟨T,y,e,A,z⟩:=f;have L:=aY A;subst e;have v:cX C.w bl (o+a.sz) y:=λj u O=>by
   have:=g (a.sz+j) u (by rw[vJ Z];rw[L];simpa using O);rw[qAb];exact this
  have:=Bq (P:=P) h i v z;rw[show o+off=o+a.sz+(off-a.sz) by omega];exact this;cases h
 |.int k,x,off,q,bl,o,us,h,i,g,f=>by
  simp only[qa]at h;split at h;rename_i r;subst r;cases h;exact⟨bl,o,us,rfl,i,g,f⟩;cases h
 |.bool,x,off,q,bl,o,us,h,i,g,f=>by
  simp only[qa]at h;split at h;rename_i r;subst r;cases h;exact⟨bl,o,us,rfl,i,g,f⟩;cases h
 |.str,x,off,q,bl,o,us,h,i,g,f=>by
  simp only[qa]at h;split at h;rename_i r;subst r;cases h;exact⟨bl,o,us,rfl,i,g,f⟩;cases h
 |.sl _,x,off,q,bl,o,us,h,i,g,f=>by
  simp only[qa]at h;split at h;rename_i r;subst r;cases h;exact⟨bl,o,us,rfl,i,g,f⟩;cases h
def sQ(P:Program)(s:TypeId)(f:Nat)(p:RV):Option Core:=
 match P.underlying s with
 |some (.struct fs)=>match fs[f]? with
  |some fd=>match sizeT P fd.type with
   |some (_+1)=>match p with
    |(.ip t x,_)=>(qa t x fd.offset).map λq=>{val:=q}|(.ips cs,_)=>some {val:=.ips (cs.drop fd.offset)}|(.ptr nm g i c,some b)=>some {need:=[b.len=g],val:=.ptr nm g i (c+fd.offset)}|_=>none
   |_=>none
  |none=>none
 |_=>none
def Gx(_h:aQ S σ a w D E){s:TypeId}{f:Nat}
  (hb:p.2=cL σ.m p.1) (h:sQ S.P s f p=some c) (hn:∀q∈c.need,q) (A:p.1.rel S.P ⟨w,D,σ.m,E⟩ v):
  ∃r,(Instr.fieldAt s v f).run S.P w=.ok r w/\c.val.rel S.P ⟨w,D,σ.m,E⟩ r/\c.upd=[]/\c.new=none:=by
 unfold sQ at h;split at h;rename_i fs hu;split at h;rename_i fd hf;split at h;rename_i n hs;have y:∀bl o,(Instr.fieldAt s (.pointer (some ⟨bl,o,none⟩)) f).run S.P w=.ok (.pointer (some ⟨bl,o+fd.offset,none⟩)) w:=by
  intro bl o;have h0:=bK hs w;simp[Instr.fieldAt,vN hu,hf,Instr.sureAddr,fieldPlace,h0,xQ]
 split at h;rename_i t x b2;cases z:qa t x fd.offset with
 |none=>rw[z]at h;cases h
 |some q=>
  rw[z]at h;cases h;obtain⟨bl,off,us,rfl,V,T,O⟩:=A;exact⟨_,y bl off,Bq z V T O,rfl,rfl⟩
 rename_i cs b2;cases h;obtain⟨bl,off,us,rfl,V,T,O⟩:=A;refine⟨_,y bl off,⟨bl,off+fd.offset,us.drop fd.offset,rfl,V,λj u X=>?_,zB2 O _⟩,rfl,rfl⟩;rw[vM]at X;rw[qAb];exact T _ u X;rename_i nm g i c0 b;cases h;have hm:σ.m nm=some b:=hb.symm;have G:b.len=g:=hn _ (by simp);obtain⟨g1,g2⟩:=A b hm;obtain⟨g3,g4,rfl⟩:=g2 G;refine⟨_,y _ _,λb' L=>?_,rfl,rfl⟩;have e:b'=b:=wZ (L.symm.trans hm);subst e;exact⟨g1,λ_=>⟨g3,g4,by rw[qAb]⟩⟩;cases h;cases h;cases h;cases h
def db(P:Program)(t:TypeId):Option TypeId:=match P.underlying t with|some (.slice e)=>some e|_=>none
def cI{t e:TypeId}(h:db P t=some e):P.underlying t=some (.slice e):=by
 unfold db at h;split at h;cases h;assumption;cases h
def aIB(ty:Ty)(xs:List ty.den)(i:Int):Core:={need:=[0<=i,i<(xs.length:Int)],val:=.ip ty (Du xs (Dc i) ty.dflt)}
def uS(nm n len:Nat)(i:Int):Core:={need:=[len=n,0<=i,i<(len:Int)],val:=.ptr nm n (Dc i) 0}
def getElem?_getD {α:Type}{xs:List α}{i:Nat}{d:α} (h:i<xs.length):xs[i]?=some (xs.getD i d):=by
 rw[qA,qB h];rfl
def aGS(ty:Ty)(xs:List ty.den)(n:Nat)(i:Int):Core:={need:=[xs.length=n,0<=i,i<(n:Int)],val:=.ip ty (Du xs (Dc i) ty.dflt)}
def U6(nm g j k n len:Nat)(i:Int):Core:={need:=[len=g,0<=i,i<(n:Int),En j k n<=g],val:=.ptr nm g (En j k i) 0}
def zn(P:Program)(t:TypeId)(p:RV)(i:AV):Option Core:=
 match P.underlying t,i with
 |some (.array n e),.dat (.int _) i=>match p with
  |(.ia ty xs,_)=>if sizeT P e=some ty.sz then some (aGS ty xs n i)else none|(.ptr nm g j 0,some (.buf _ ty xs _))=>match sizeT P e with
   |some se=>if se=se/ty.sz*ty.sz/\0<se/ty.sz then some (U6 nm g j (se/ty.sz) n xs.length i)else none|none=>none
  |_=>none
 |_,_=>none
def Y5{j k n g i:Nat}(hi:i<n)(b:0<k)(h:j+n*k<=g):j+i*k<g:=by
 have:(i+1)*k<=n*k:=wH k hi;rw[zX,yM]at this;omega
def Jo(_h:aQ S σ a w D E){i:AV}{v vi:Value}
  (hb:p.2=cL σ.m p.1) (b:zn S.P t p i=some c) (h:∀q∈c.need,q) (hp:p.1.rel S.P ⟨w,D,σ.m,E⟩ v) (hi:i.rel S.P ⟨w,D,σ.m,E⟩ vi):
  ∃r,(Instr.indexAt t v vi).run S.P w=.ok r w/\c.val.rel S.P ⟨w,D,σ.m,E⟩ r/\c.upd=[]/\c.new=none:=by
 unfold zn at b;split at b;case h_2=>cases b
 rename_i n e k i hu;simp only[AV.rel,ag,vH,vW]at hi;subst hi;obtain⟨i,rfl⟩:∃j:Int,j=i:=⟨i,rfl⟩;have run:∀(bl o u:Nat),sizeT S.P e=some u->0<=i->i<(n:Int)->(Instr.indexAt t (.pointer (some ⟨bl,o,none⟩)) (.int k i)).run S.P w=.ok (.pointer (some ⟨bl,o+i.toNat*u,none⟩)) w:=by
  intro bl o u x G A;have O:=bK x w;simp[Instr.indexAt,asIntOf,vN hu,Instr.sureAddr,G,A,O,xQ]
 split at b;rename_i ty xs b2;split at b;case isFalse=>cases b
 rename_i x;cases b;have hl:List.length xs=n:=h _ (by simp[aGS]);have G:(0:Int)<=i:=h _ (by simp[aGS]);have A:i<(n:Int):=h _ (by simp[aGS]);obtain⟨bl,off,rfl,ao,cap,g1,g2,g3,g4,g5⟩:=hp;simp only[vH,yF,vW,yD]at g1;obtain⟨g1,_⟩:=g1;subst g1;have T:i.toNat<List.length xs:=Z;obtain⟨ad,ue,q1,r1,r2,r3⟩:=g5 i.toNat _ (getElem?_getD T);cases q1;exact⟨_,run bl off _ x G A,⟨bl,_,ue,rfl,r1,r2,r3⟩,rfl,rfl⟩;rename_i nm g j el ty xs ov;split at b;case h_2=>cases b
 rename_i u x;split at b;case isFalse=>cases b
 rename_i f;obtain⟨f,z⟩:=f;cases b;obtain⟨L,V⟩:∃L,L=u/ty.sz:=⟨_,rfl⟩;rw[<- V]at f z h ⊢;have y:xs.length=g:=h _ (by simp[U6]);have G:(0:Int)<=i:=h _ (by simp[U6]);have A:i<(n:Int):=h _ (by simp[U6]);have h2:En j L (n:Int)<=g:=h _ (by simp[U6]);have h2:j+n*L<=g:=by simpa[En]using h2
 have hm:σ.m nm=some (.buf el ty xs ov):=hb.symm;obtain⟨g1,g2⟩:=hp _ hm;obtain⟨g3,g4,rfl⟩:=g2 y;refine⟨_,run _ _ u x G A,λb' X=>?_,rfl,rfl⟩;have e:b'=.buf el ty xs ov:=wZ (X.symm.trans hm);subst e;refine⟨g1,λ_=>⟨Y5 (n:=n) Z z h2,g4,?_⟩⟩;simp only[Blk.es,xZ];rw[zX,qEd,<- f];cases b
def sG(P:Program)(t:TypeId)(p:RV)(i:AV):Option Core:=
 match db P t,i with
 |some e,.dat (.int _) i=>match p with
  |(.dat (.sl ty) xs,_)=>if sizeT P e=some ty.sz then
    some (aIB ty xs i)else none
  |(.buf nm n,some (.buf _ ty xs _))=>if sizeT P e=some ty.sz then
    some (uS nm n xs.length i)else none
  |(.view nm n,some (.buf _ ty xs _))=>if sizeT P e=some ty.sz then
    some (uS nm n xs.length i)else none
  |(.slv cs,_)=>if sizeT P e=some 1 then some {need:=[Dl 0 i,Dp i (Ea cs.length)],val:=.ips (cs.drop i.toNat)} else none|_=>none
 |_,_=>zn P t p i
def F7(_h:aQ S σ a w D E){i:AV}{v vi:Value}
  (hb:p.2=cL σ.m p.1) (h:sG S.P t p i=some c) (G:∀q∈c.need,q) (hp:p.1.rel S.P ⟨w,D,σ.m,E⟩ v) (hi:i.rel S.P ⟨w,D,σ.m,E⟩ vi):
  ∃r,(Instr.indexAt t v vi).run S.P w=.ok r w/\c.val.rel S.P ⟨w,D,σ.m,E⟩ r/\c.upd=[]/\c.new=none:=by
 unfold sG at h;split at h;rename_i e k i he;have hu:=cI he;simp only[AV.rel,ag,vH,vW]at hi;subst hi;split at h;rename_i ty xs b2;split at h;rename_i V;cases h;obtain⟨i,rfl⟩:∃j:Int,j=i:=⟨i,rfl⟩;have h0:(0:Int)<=i:=G _ (by simp[aIB]);have O:i<(List.length xs:Int):=G _ (by simp[aIB]);obtain⟨ao,cap,g1,g2,g3,g4,g5⟩:=hp;simp only[vH,vW]at g1;subst g1;have hlt:i.toNat<List.length xs:=Z;obtain⟨T,ue,rfl,r1,r2,r3⟩:=g5 i.toNat _ (getElem?_getD hlt);have A:=g4 T rfl Z;have hadd:T.add (i.toNat*ty.sz)=⟨T.block,T.off+i.toNat*ty.sz,none⟩:=by
  cases T with|mk b o s=>simp only at A;subst A;exact xQ b o _
 refine⟨.pointer (some ⟨T.block,T.off+i.toNat*ty.sz,none⟩),?_,⟨T.block,_,ue,rfl,r1,r2,r3⟩,rfl,rfl⟩;have x:=bK V w;simp[Instr.indexAt,asIntOf,vN hu,h0,O,x,hadd];cases h;rename_i y n el ty xs ov;split at h;rename_i V;cases h;obtain⟨i,rfl⟩:∃j:Int,j=i:=⟨i,rfl⟩;have f:List.length xs=n:=G _ (by simp[uS]);have h0:(0:Int)<=i:=G _ (by simp[uS]);have O:i<(List.length xs:Int):=G _ (by simp[uS]);have hm:σ.m y=some (.buf el ty xs ov):=hb.symm;obtain⟨g1,g2⟩:=hp _ hm;have e2:=g2 f;have x:=bK V w;have z:(E y).isNil=false:=by
  cases hq:(E y).isNil with
  |false=>rfl|true=>
   obtain⟨raw,r1,r2⟩:=_h.bl y _ hm;have e3:(E y).handle xs.length=.slice none 0 0:=by unfold Ent.handle;rw[hq];rfl
   rw[e3]at r1;rcases r1.2 with⟨_,hz⟩|⟨g,cap,cur,hv,_⟩;have hz':List.length xs=0:=hz;rw[hz']at O;omega;cases hv
 have e3:(E y).handle n=.slice (some ⟨(E y).b,0,none⟩) n (E y).cap:=by unfold Ent.handle;rw[z];rfl
 have e4:v=.slice (some ⟨(E y).b,0,none⟩) n (E y).cap:=e2.trans e3;subst e4;have L:i<(n:Int):=by rw[<- f];exact O
 refine⟨.pointer (some ⟨(E y).b,i.toNat*ty.sz,none⟩),?_,λb' X=>?_,rfl,rfl⟩;simp[Instr.indexAt,asIntOf,vN hu,h0,L,x,xQ];have e:b'=.buf el ty xs ov:=wZ (X.symm.trans hm);subst e;exact⟨xO f.symm,λ_=>⟨(by have h9:i<(n:Int):=L;exact(show i.toNat<n by omega)),z,by simp[Blk.es]⟩⟩;cases h;rename_i y n el ty xs ov;split at h;rename_i V;cases h;obtain⟨i,rfl⟩:∃j:Int,j=i:=⟨i,rfl⟩;have f:List.length xs=n:=G _ (by simp[uS]);have h0:(0:Int)<=i:=G _ (by simp[uS]);have O:i<(List.length xs:Int):=G _ (by simp[uS]);have hm:σ.m y=some (.buf el ty xs ov):=hb.symm;obtain⟨g1,g2⟩:=hp _ hm;obtain⟨z,cap,_,e4⟩:=g2 f;have x:=bK V w;subst e4;have L:i<(n:Int):=by rw[<- f];exact O
 refine⟨.pointer (some ⟨(E y).b,i.toNat*ty.sz,none⟩),?_,λb' X=>?_,rfl,rfl⟩;simp[Instr.indexAt,asIntOf,vN hu,h0,L,x,xQ];have e:b'=.buf el ty xs ov:=wZ (X.symm.trans hm);subst e;exact⟨xO f.symm,λ_=>⟨(by have h9:i<(n:Int):=L;exact(show i.toNat<n by omega)),z,by simp[Blk.es]⟩⟩;cases h;rename_i cs b2;split at h;rename_i V;cases h;have h0:(0:Int)<=i:=G _ (by simp);have O:i<((cs.length:Nat):Int):=G _ (by simp);obtain⟨b,off,us,rfl,r1,r2,r3⟩:=hp;have x:=bK V w;refine⟨.pointer (some ⟨b,off+i.toNat,none⟩),?_,⟨b,off+i.toNat,us.drop i.toNat,rfl,r1,λj u hj=>?_,?_⟩,rfl,rfl⟩;simp[Instr.indexAt,asIntOf,vN hu,h0,O,x,xQ];rw[vM]at hj;rw[qAb];exact r2 _ u hj;exact zB2 r3 _;cases h;cases h;exact Jo _h hb h G hp hi
def aIz(P:Program)(t:TypeId)(p:RV):Option Core:=
 match P.underlying t,p with
 |some .string,(.dat .str s,_)=>some {val:=.dat (.int .i64) (s.size:Int)}|some (.slice _),(.dat (.sl _) xs,_)=>some {val:=.dat (.int .i64) (List.length xs:Int)}|some (.slice _),(.buf _ n,some b)=>some {need:=[b.len=n],val:=.dat (.int .i64) (n:Int)}|some (.slice _),(.view _ n,some b)=>some {need:=[b.len=n],val:=.dat (.int .i64) (n:Int)}|some (.slice _),(.val (.slice none 0 0),_)=>some {val:=.dat (.int .i64) 0}|some (.slice _),(.slv cs,_)=>some {val:=.dat (.int .i64) ((cs.length:Nat):Int)}|some (.slice _),(.row _ g _ k,some b)=>some {need:=[b.len=g],val:=.dat (.int .i64) (k:Int)}|some (.array n _),_=>some {val:=.dat (.int .i64) (n:Int)}|_,_=>none
def aCN(h:aQ S σ a w D E){t ty:TypeId}{ts:Array TypeId}(j:ts[0]?=some t)
  (hb:p.2=cL σ.m p.1) (x:aIz S.P t p=some c) (X:∀q∈c.need,q) (y:p.1.rel S.P ⟨w,D,σ.m,E⟩ v):
  ∃r,(Builtin.len_ ts ty #[v]).run S.P w=.ok r w/\c.val.rel S.P ⟨w,D,σ.m,E⟩ r/\c.upd=[]/\c.new=none:=by
 unfold aIz at x;split at x;rename_i s b u;cases x;simp only[AV.rel,ag,vH,vW]at y;subst y;exact⟨_,by simp[Builtin.len_,j,vN u,goInt];try rfl,rfl,rfl,rfl⟩;rename_i e ty xs b u;cases x;obtain⟨L,cap,g1,g2,g3,g4,g5⟩:=y;simp only[vH,vW]at g1;subst g1;exact⟨_,by simp[Builtin.len_,j,vN u,goInt];try rfl,rfl,rfl,rfl⟩;rename_i e G n b u;cases x;have f:b.len=n:=X _ (by simp);have hm:σ.m G=some b:=hb.symm;obtain⟨g1,g2⟩:=y _ hm;have e2:=g2 f;have:∃L cap,v=.slice L n cap:=by
  rw[e2];unfold Ent.handle;split;rename_i V;have z:=h.bl G b hm;cases b with
  |var cs=>exact absurd V (by rw[z.1];simp)|buf el ty xs ov=>
   obtain⟨raw,A,r2⟩:=z;have e3:(E G).handle xs.length=.slice none 0 0:=by unfold Ent.handle;rw[V];rfl
   rw[e3]at A;rcases A.2 with⟨_,O⟩|⟨g,cap,cur,T,_⟩;have:n=0:=by rw[<- f];exact O
   subst this;exact⟨none,0,rfl⟩;cases T
  |mat el eli ty xss ov=>
   obtain⟨_,raw,A,r2⟩:=z;have e3:(E G).handle xss.length=.slice none 0 0:=by unfold Ent.handle;rw[V];rfl
   rw[e3]at A;rcases A.2 with⟨_,O⟩|⟨g,cap,cur,T,_⟩;have:n=0:=by rw[<- f];exact O
   subst this;exact⟨none,0,rfl⟩;cases T
  exact⟨_,_,rfl⟩
 obtain⟨L,cap,rfl⟩:=this;exact⟨_,by simp[Builtin.len_,j,vN u,goInt];try rfl,rfl,rfl,rfl⟩;rename_i e G n b u;cases x;have f:b.len=n:=X _ (by simp);obtain⟨_,cap,_,rfl⟩:=(y _ hb.symm).2 f;exact⟨_,by simp[Builtin.len_,j,vN u,goInt];try rfl,rfl,rfl,rfl⟩;rename_i e b u;cases x;simp only[AV.rel]at y;subst y;exact⟨_,by simp[Builtin.len_,j,vN u,goInt];try rfl,rfl,rfl,rfl⟩;rename_i e cs b u;cases x;obtain⟨b,off,us,rfl,A,r2,r3⟩:=y;exact⟨_,by simp[Builtin.len_,j,vN u,goInt];try rfl,rfl,rfl,rfl⟩;rename_i e G g i k b u;cases x;have f:b.len=g:=X _ (by simp);obtain⟨L,cap,rfl,_⟩:=(y _ hb.symm).2 f;exact⟨_,by simp[Builtin.len_,j,vN u,goInt];try rfl,rfl,rfl,rfl⟩;rename_i n e u;cases x;refine⟨.int .i64 n,?_,rfl,rfl,rfl⟩;cases v<;>simp[Builtin.len_,j,vN u,goInt];cases x
def GG(i:Nat):AV->Option Core
 |.tup vs=>match vs[i]? with|some v=>some {val:=v}|none=>none
 |_=>none
def MM{i:Nat}{p:AV}(b:GG i p=some c)(f:p.rel P C v):
  ∃r,(Instr.extract v i).run P w=.ok r w/\c.val.rel P C r/\c.upd=[]/\c.new=none:=by
 unfold GG at b;split at b;split at b;rename_i vs a e;cases b;obtain⟨us,rfl,j⟩:=f;obtain⟨u,h,g⟩:=zA6 j e;exact⟨u,by simp[Instr.extract,h],g,rfl,rfl⟩;cases b;cases b
def Vw(P:Program)(t:TypeId)(f:Nat):AV->Option Core
 |.agg cs=>match P.underlying t with
  |some (.struct fs)=>match fs[f]? with
   |some fd=>match iy P fd.type,sizeT P fd.type with
    |some true,some k=>if fd.offset+k<=cs.length then some {val:=.agg ((cs.drop fd.offset).take k)} else none|some false,_=>match cs[fd.offset]? with|some v=>some {val:=v}|none=>none
    |_,_=>none
   |none=>none
  |_=>none
 |_=>none
def Vv{f:Nat}{p:AV}(b:Vw P t f p=some c)(x:p.rel P C v):
  ∃r,(Instr.field t v f).run P w=.ok r w/\c.val.rel P C r/\c.upd=[]/\c.new=none:=by
 unfold Vw at b;split at b;rename_i cs;obtain⟨us,rfl,g⟩:=x;split at b;rename_i O h;split at b;rename_i fd i;split at b;rename_i k e G;split at b;rename_i y;cases b;have L:=zA3 g;refine⟨.agg (us.toArray.extract fd.offset (fd.offset+k)),?_,⟨(us.drop fd.offset).take k,?_,zC4 (zB2 g _) _⟩,rfl,rfl⟩;simp[Instr.field,vN h,i,part,lF e,asAgg,bK G];congr 1;apply yU;simp;cases b;rename_i e;split at b;rename_i v j;cases b;obtain⟨u,A,z⟩:=zA6 g j;refine⟨u,?_,z,rfl,rfl⟩;simp[Instr.field,vN h,i,part,lF e,asAgg,A];cases b;cases b;cases b;cases b;cases b
def U5(s:ByteArray)(i:Int):Core:={need:=[0<=i,i<(s.size:Int)],val:=.dat (.int .u8) (Fv s i)}
def Ve(P:Program)(t:TypeId):AV->AV->Option Core
 |.dat .str s,.dat (.int _) i=>match P.underlying t with
  |some .string=>some (U5 s i)|_=>none
 |_,_=>none
def Vd{p i:AV}{v g:Value}(b:Ve P t p i=some c)(u:∀q∈c.need,q)(h:p.rel P C v)(hi:i.rel P C g):
  ∃r,(Instr.index t v g).run P w=.ok r w/\c.val.rel P C r/\c.upd=[]/\c.new=none:=by
 unfold Ve at b;split at b;rename_i s k i;split at b;rename_i x;cases b;simp only[AV.rel,ag,vH,vW]at h hi;subst h hi;obtain⟨i,rfl⟩:∃j:Int,j=i:=⟨i,rfl⟩;obtain⟨s,rfl⟩:∃j:ByteArray,j=s:=⟨s,rfl⟩;have z:(0:Int)<=i:=u _ (by simp[U5]);have G:i<(s.size:Int):=u _ (by simp[U5]);have f:i.toNat<s.size:=Z;refine⟨.int .u8 ((s.data.getD i.toNat 0).toNat:Int),?_,rfl,rfl,rfl⟩;have e:s[i.toNat]?=some (s.data.getD i.toNat 0):=by
  have y:i.toNat<s.data.size:=f;rw[getElem?_pos s i.toNat f];show some (s.data[i.toNat])=_;have A:s.data.getD i.toNat 0=s.data[i.toNat]:=by unfold Array.getD;rw[dif_pos y];rfl
  rw[A]
 simp[Instr.index,asIntOf,vN x,z,e];cases b;cases b
def HL(s:ByteArray)(l:Int)(h:Option Int):Core:=
 match h with
 |none=>{need:=[0<=l,l<=(s.size:Int)],val:=.dat .str (Gj s l)}|some h=>{need:=[0<=l,l<=h,h<=(s.size:Int)],val:=.dat .str (Gh s l h)}
def HM(ty:Ty)(xs:List ty.den)(l:Int)(h:Option Int):Core:=
 match h with
 |none=>{need:=[0<=l,l<=(xs.length:Int)],val:=.dat (.sl ty) (Fg xs l)}|some h=>{need:=[0<=l,l<=h,h<=(xs.length:Int)],val:=.dat (.sl ty) (Fj xs l h)}
def aG0:Option AV->Option (Option Int)|none=>some none|some (.dat (.int _) i)=>some (some i)|_=>none
def By(P:Program)(t:TypeId)(x:AV)(lo hi:Option AV):Option Core:=
 match x,P.underlying t,aG0 lo,aG0 hi with
 |.dat .str s,some .string,some l,some h=>some (HL s (l.getD 0) h)|.dat (.sl ty) xs,some (.slice e),some l,some h=>if sizeT P e=some ty.sz then some (HM ty xs (l.getD 0) h)else none|_,_,_,_=>none
def aGL(P:Program)(C:Ctx):Option AV->Option Value->Prop|none,none=>True|some a,some v=>a.rel P C v|_,_=>False
def vu{a:Option AV}{v:Option Value}{r:Option Int}(h:aG0 a=some r)(b:aGL P C a v):
  (r=none/\v=none)\/∃k i,r=some i/\v=some (.int k i):=by
 cases a with
 |none=>
  cases v with
  |none=>cases h;exact .inl ⟨rfl,rfl⟩
  |some v=>exact b.elim
 |some a=>
  cases v with
  |none=>exact b.elim|some v=>
   unfold aG0 at h;split at h;rename_i e;cases e;rename_i k i e;cases e;cases h;simp only[aGL,AV.rel,ag,vH,vW]at b;subst b;exact .inr ⟨k,i,rfl,rfl⟩;cases h
def run_sliceBound{k:IntKind}{i:Int}{y:Nat}{code:BoundsCode}(e:0<=i)(b:i<=y):(Instr.sliceBound (.int k i) y code).run P w=.ok i.toNat w:=by
 simp[Instr.sliceBound,asIntOf,e,b]
def qh{x:AV}{lo hi:Option AV}{vl vh:Option Value}(L:By P t x lo hi=some c)(g:∀q∈c.need,q)
  (hx:x.rel P C v) (hl:aGL P C lo vl) (hh:aGL P C hi vh):
  ∃r,(Instr.sliceAt t v vl vh none).run P w=.ok r w/\c.val.rel P C r/\c.upd=[]/\c.new=none:=by
 unfold By at L;split at L;rename_i s l h z O T;cases L;simp only[AV.rel,ag,vH,vW]at hx;subst hx;obtain⟨s,rfl⟩:∃j:ByteArray,j=s:=⟨s,rfl⟩;have hsl:∀vl vh,Instr.slice t (.string s) vl vh none=Instr.slice t (.string s) vl vh none:=λ_ _=>rfl;rcases vu T hh with⟨rfl,rfl⟩|⟨kh,f,rfl,rfl⟩<;>rcases vu O hl with⟨rfl,rfl⟩|⟨kl,u,rfl,rfl⟩
 refine⟨_,?_,rfl,rfl,rfl⟩;simp[Instr.sliceAt,vN z,Instr.slice,Instr.sliceBounds,Gj,Gh];have X:0<=u:=g _ (by simp[HL]);have G:u<=(s.size:Int):=g _ (by simp[HL]);refine⟨_,?_,rfl,rfl,rfl⟩;simp[Instr.sliceAt,vN z,Instr.slice,Instr.sliceBounds,Gj,Gh,run_sliceBound X G];have G:(0:Int)<=f:=g _ (by simp[HL]);have h2:f<=(s.size:Int):=g _ (by simp[HL]);refine⟨_,?_,rfl,rfl,rfl⟩;simp[Instr.sliceAt,vN z,Instr.slice,Instr.sliceBounds,Gj,Gh,run_sliceBound G h2];have X:0<=u:=g _ (by simp[HL]);have G:u<=f:=g _ (by simp[HL]);have h2:f<=(s.size:Int):=g _ (by simp[HL]);refine⟨_,?_,rfl,rfl,rfl⟩;have h3:u<=(f.toNat:Int):=Z;simp[Instr.sliceAt,vN z,Instr.slice,Instr.sliceBounds,Gj,Gh,run_sliceBound (show(0:Int)<=f by omega) h2,run_sliceBound X h3];rename_i ty xs e l h z O T;split at L;rename_i hs;cases L;obtain⟨xs,rfl⟩:∃j:List ty.den,j=xs:=⟨xs,rfl⟩;have A:=bK hs w;obtain⟨ao,cap,g1,g2,g3,g4,g5⟩:=hx;simp only[vH,vW]at g1;subst g1;have part:∀(l h:Nat),l<=h->h<=xs.length->
   (AV.dat (.sl ty) ((xs.take h).drop l)).rel P C (.slice (if cap=l then ao else ao.map (·.add (l*ty.sz))) (h-l) (cap-l)):=by
  intro l h hlh hhx;refine⟨_,cap-l,by rw[wM,qP,kF hhx],by rw[wM,qP];omega,?_,?_,?_⟩;intro hno;split at hno;rename_i he;omega;cases ao with
  |none=>have:=g3 rfl;omega|some a=>cases hno
  intro a ha hpos;rw[wM,qP]at hpos;have hp0:0<xs.length:=Z;split at ha;exact g4 a ha hp0;cases ao with
  |none=>cases ha
  |some a0=>
   cases ha;have:=g4 a0 rfl hp0;cases a0 with|mk b o s=>simp only at this;subst this;simp only[xQ]
  intro i y hy;rw[vM,vX]at hy;split at hy;rename_i hlt;obtain⟨a,ue,rfl,r1,r2,r3⟩:=g5 (l+i) y hy;have hlt':=(qG.1 hy).1;have hsp:=g4 a rfl (Nat.lt_of_le_of_lt (wU _) hlt');have hadd:a.add (l*ty.sz)=⟨a.block,a.off+l*ty.sz,none⟩:=by
   cases a with|mk b o s=>simp only at hsp;subst hsp;exact xQ b o _
  refine⟨⟨a.block,a.off+l*ty.sz,none⟩,ue,?_,r1,?_,r3⟩;rw[if_neg Z];simp[hadd];have:a.off+(l+i)*ty.sz=a.off+l*ty.sz+i*ty.sz:=by rw[zX];omega
  rw[<- this];exact r2;cases hy
 rcases vu T hh with⟨rfl,rfl⟩|⟨kh,f,rfl,rfl⟩<;>rcases vu O hl with⟨rfl,rfl⟩|⟨kl,u,rfl,rfl⟩
 have:=part 0 xs.length (wU _) (qM _);rw[yQ]at this;refine⟨_,?_,this,rfl,rfl⟩;simp[Instr.sliceAt,vN z,Instr.slice,Instr.sliceBounds,A];have X:0<=u:=g _ (by simp[HM]);have G:u<=(xs.length:Int):=g _ (by simp[HM]);have:=part u.toNat xs.length Z (qM _);rw[yQ]at this;refine⟨_,?_,this,rfl,rfl⟩;simp[Instr.sliceAt,vN z,Instr.slice,Instr.sliceBounds,A,run_sliceBound X G];have G:(0:Int)<=f:=g _ (by simp[HM]);have h2:f<=(xs.length:Int):=g _ (by simp[HM]);have V:f<=(cap:Int):=Z;have:=part 0 f.toNat (wU _) Z;refine⟨_,?_,this,rfl,rfl⟩;simp[Instr.sliceAt,vN z,Instr.slice,Instr.sliceBounds,A,run_sliceBound G V];have X:0<=u:=g _ (by simp[HM]);have G:u<=f:=g _ (by simp[HM]);have h2:f<=(xs.length:Int):=g _ (by simp[HM]);have V:f<=(cap:Int):=Z;have h3:u<=(f.toNat:Int):=Z;have:=part u.toNat f.toNat Z Z;refine⟨_,?_,this,rfl,rfl⟩;simp[Instr.sliceAt,vN z,Instr.slice,Instr.sliceBounds,A,run_sliceBound (show(0:Int)<=f by omega) V,run_sliceBound X h3];cases L;cases L
end Go.Eng
namespace Go.Eng
open Go.RowKit
def m4:Ty->Ty->Ty|.pair a b,c=>.pair a (m4 b c)|a,c=>.pair a c
def rowOf:List (Option Ty)->Option Ty
 |[]=>none|[a]=>a|a::b::r=>match a,rowOf (b::r)with
  |some a,some c=>some (m4 a c)|_,_=>none
def aHm(P:Program):Nat->TypeId->Option Ty
 |0,_=>none|n+1,t=>match P.underlying t with
  |some (.int k)=>some (.int k)|some .bool=>some .bool|some .string=>some .str|some (.slice e)=>match aHm P n e with|some ty=>some (.sl ty)|none=>none
  |some (.struct fs)=>rowOf (fs.toList.map λf=>aHm P n f.type)|_=>none
def cM:AV->List AV|.agg cs=>cs|v=>[v]
def xk:RV->Option (List Prop)|(.dat t _,_)=>if t.sz=1 then some []else none|(.val u,_)=>if u.oneCell' then some []else none|(.buf _ n,some b)=>some [b.len=n]|(.ptr _ g _ _,some b)=>some [b.len=g]|(.ip _ _,_)=>some []|(.ips _,_)=>some []|(.fn _ _,_)=>some []|(.clo1 _ _ _ _,_)=>some []|(.clo2 _ _ _ _ _,_)=>some []|(.ifc _ _,_)=>some []|_=>none
def zD2(e:Ent)(n:Nat):(e.handle n).oneCell'=true:=by
 unfold Ent.handle;split<;>rfl
def gm{w:World}{D:Nat->Prop}:∀{t:Ty}{x:t.den}{us:Lv},ag w D t x us->∀u∈us,u.oneCell'=true
 |.int _,_,_,h,u,e=>by simp only[ag]at h;subst h;simp at e;subst e;rfl|.bool,_,_,h,u,e=>by simp only[ag]at h;subst h;simp at e;subst e;rfl|.str,_,_,h,u,e=>by simp only[ag]at h;subst h;simp at e;subst e;rfl|.sl _,_,_,h,u,e=>by obtain⟨_,_,h,_⟩:=h;subst h;simp at e;subst e;rfl
 |.pair a b,_,_,h,u,e=>by
  obtain⟨r,j,h,i,f⟩:=h;subst h;rcases qJ.1 e with g|g;exact gm i u g;exact gm f u g
variable {ns:List Prop}{P:Program}{C:Ctx}
def Ut{p:RV}{v:Value}(hb:p.2=none\/p.2=cL C.m p.1)(h:xk p=some ns)(r:∀q∈ns,q)(f:p.1.rel P C v):v.oneCell'=true:=by
 unfold xk at h;split at h;exact gm f v (by simp);rename_i u b;split at h;rename_i x;simp only[AV.rel]at f;subst f;exact x;cases h;rename_i j n b;cases h;have hm:C.m j=some b:=(hb.resolve_left (by simp)).symm;rw[((f b hm).2 (r _ (by simp)))];exact zD2 _ _;rename_i j g i c b;cases h;have hm:C.m j=some b:=(hb.resolve_left (by simp)).symm;obtain⟨_,_,e⟩:=(f b hm).2 (r _ (by simp));rw[e];rfl;obtain⟨_,_,_,e,_⟩:=f;rw[e];rfl;obtain⟨_,_,_,e,_⟩:=f;rw[e];rfl;obtain⟨_,e,_⟩:=f;rw[e];rfl;obtain⟨_,_,e,_⟩:=f;rw[e];rfl;obtain⟨_,_,e,_⟩:=f;rw[e];rfl;obtain⟨_,e,_⟩:=f;rw[e];rfl;cases h
def Yy:List AV->Option (List Prop)
 |[]=>some []|c::cs=>match xk (c,none),Yy cs with
  |some a,some b=>some (a++b)|_,_=>none
def Ip:RV->Option (List Prop)|(.agg cs,_)=>Yy cs|p=>xk p
def NY:∀{cs:List AV}{ns:List Prop}{us:Lv},Yy cs=some ns->(∀q∈ns,q)->zA1 P C cs us->∀u∈us,u.oneCell'=true
 |[],_,us,_,_,f,u,i=>by simp only[zA1]at f;subst f;simp at i|c::cs,ns,us,h,r,f,u,i=>by
  simp only[Yy]at h;split at h;rename_i a b z y;cases h;obtain⟨v,x,e,g1,g2⟩:=f;subst e;rcases zH.1 i with g|g;subst g;exact Ut (.inl rfl) z (λq j=>r q (qJ.2 (.inl j))) g1;exact NY y (λq j=>r q (qJ.2 (.inr j))) g2 u g;cases h
def od{p:RV}{v:Value}(hb:p.2=cL C.m p.1)(h:Ip p=some ns)(j:∀q∈ns,q)(f:p.1.rel P C v):
  ∃us:Lv,v.cells=us.toArray/\zA1 P C (cM p.1) us/\∀u∈us,u.oneCell'=true:=by
 unfold Ip at h;split at h;rename_i cs b;obtain⟨us,e,g⟩:=f;subst e;exact⟨us,rfl,g,NY h j g⟩;rename_i i;have r:=Ut (.inr hb) h j f;refine⟨[v],?_,?_,by simpa using r⟩;cases v<;>first|rfl|cases r
 obtain⟨a,b⟩:=p;cases a<;>first|exact(i _ _ rfl).elim|exact⟨v,[],rfl,f,rfl⟩
def aQ.newData{S:Base}{σ:Sig}{a:Act}{w:World}{D:Nat->Prop}{E:Nat->Ent}(h:aQ S σ a w D E)(o:Obj):
  aQ S σ a (w.alloc o) (λb=>D b\/b=w.heap.size) E:=by
 have e:(w.alloc o).heap.size=w.heap.size+1:=yG w o;refine h.world ⟨rfl,rfl,rfl,by rw[e];omega,λk f=>kC w o k f⟩ (λb=>⟨λhb=>?_,λhb=>?_⟩) (λb hb=>?_);rcases hb with g|g;exact .inl g;exact .inr ⟨⟨Z,by rw[e];omega⟩,.inr g⟩;rcases hb with g|⟨_,g⟩;exact .inl g;exact g;rcases hb with g|g;have:=h.dlt b g;rw[e];omega;rw[e];omega
def upE(E:Nat->Ent)(nm:Nat)(e:Ent):Nat->Ent:=λk=>if k=nm then e else E k
def dc{m:Nat->Option Blk}{f:Nat}{b:Blk}(k:Nat):upM m [(f,b)] k=if k=f then some b else m k:=by
 unfold upM;simp only[List.lookup];by_cases e:k=f;subst e;simp;have:(k==f)=false:=by simpa using e
 simp[this,e]
def aQ.newBlk{S:Base}{σ:Sig}{a:Act}{w w':World}{D:Nat->Prop}{E:Nat->Ent}(h:aQ S σ a w D E){v:Nat}(hu:Unm v σ){b:Blk}{e:Ent}
  (hw:Below w.heap.size w w') (G:e.isNil=false->e.b=w.heap.size/\w.heap.size<w'.heap.size)
  (hb:fe S.P 0 ⟨w',D,upM σ.m [(v,b)],upE E v e⟩ e b) (X:∀i k,rowsOf e b i k->False:=by(intro i k h;obtain⟨_,_,_,_,_,_,h,_⟩:=h;cases h)):
  aQ S ⟨σ.T,upM σ.m [(v,b)],σ.sv⟩ a w' D (upE E v e):=by
 have hs:=h.low.size;have old:∀k u,upM σ.m [(v,b)] k=some u->(k=v/\u=b)\/(k≠v/\σ.m k=some u):=λk u x=>by
  rw[dc]at x;split at x;rename_i A;cases x;exact .inl ⟨A,rfl⟩;rename_i A;exact .inr ⟨A,x⟩
 have j:∀k,k≠v->upE E v e k=E k:=λk x=>by simp[upE,x]
 have z:upE E v e v=e:=by simp[upE]
 refine h.go (m':=upM σ.m [(v,b)]) ⟨λb hb=>hb,λb hb=>hw.block b (h.dlt b hb)⟩ (λk=>?_) (λk u x=>?_) (λk u x hi=>?_) (λk k' b1 b2 x hk' hi y f=>?_)
  (h.low.below hw) (λb hb=>qZ (h.dlt b hb) hw.size) (λb hb=>.inl hb)
  (h.pv.step (λk i r V=>by
   obtain⟨u,g1,g2⟩:=aR.1 V;rcases old k u g1 with⟨rfl,rfl⟩|⟨O,L⟩;rw[z]at g2;exact(X i r g2).elim;rw[j k O]at g2;exact aR.2 ⟨u,L,g2⟩) hw.size (λb hb=>.inl hb) λk u x hi=>by
   rcases old k u x with⟨rfl,rfl⟩|⟨O,L⟩;rw[z]at hi ⊢;exact .inl (xO (G hi).1.symm);rw[j k O]at hi ⊢;exact .inr ⟨k,u,L,hi,rfl⟩)
 by_cases A:k=v;subst A;exact .inr hu;refine .inl λu hb'=>?_;rcases old k u hb' with⟨g,_⟩|⟨_,g⟩;exact(A g).elim;exact⟨u,g,rfl,qM _,λ_=>j k A⟩;rcases old k u x with⟨rfl,rfl⟩|⟨g1,g2⟩;right;rw[z];exact hb;left;exact⟨g2,j k g1,λhi=>hw.block _ (h.own k u g2 hi).2.1,λi r V=>hw.block _ (h.pv.lt g2 V)⟩;rcases old k u x with⟨rfl,rfl⟩|⟨g1,g2⟩;rw[z]at hi ⊢;obtain⟨g3,g4⟩:=G hi;rw[g3];exact⟨.inl hs,g4,λhd=>xY _ (h.dlt _ hd)⟩;rw[j k g1]at hi ⊢;obtain⟨g3,g4,g5⟩:=h.own k u g2 hi;exact⟨g3,qZ g4 hw.size,g5⟩;rcases old k b1 x with⟨rfl,rfl⟩|⟨g1,g2⟩<;>rcases old k' b2 hk' with⟨rfl,rfl⟩|⟨g3,g4⟩
 rfl;rw[z]at hi f;rw[j k' g3]at y f;have:=(h.own k' b2 g4 y).2.1;rw[<- f,(G hi).1]at this;exact(xY _ this).elim;rw[z]at y f;rw[j k g1]at hi f;have:=(h.own k b1 g2 hi).2.1;rw[f,(G y).1]at this;exact(xY _ this).elim;rw[j k g1]at hi f;rw[j k' g3]at y f;exact h.inj k k' b1 b2 g2 g4 hi y f
def aQ.turnBlk{S:Base}{σ:Sig}{a:Act}{w w':World}{D:Nat->Prop}{E:Nat->Ent}(h:aQ S σ a w D E){j:Nat}{G b:Blk}(hm:σ.m j=some G){e:Ent}
  (hes:G.es=b.es) (hlen:G.len<=b.len) (hsame:G.len=b.len->e=E j)
  (hos:w'.os=w.os) (X:w'.tape=w.tape) (hout:w'.output=w.output) (v:w.heap.size<=w'.heap.size)
  (hw:∀k,k<w.heap.size->((E j).isNil=false->k≠(E j).b)->w'.heap[k]?=w.heap[k]?)
  (he:e.isNil=false->(e.b=w.heap.size/\w.heap.size<w'.heap.size)\/((E j).isNil=false/\e.b=(E j).b))
  (hb:fe S.P 0 ⟨w',D,upM σ.m [(j,b)],upE E j e⟩ e b) (hpr:∀i k,rowsOf e b i k->rowsOf (E j) G i k:=by(intro i k h;obtain⟨_,_,_,_,_,_,h,_⟩:=h;cases h)):
  aQ S ⟨σ.T,upM σ.m [(j,b)],σ.sv⟩ a w' D (upE E j e):=by
 have hs:=h.low.size;have old:∀k x,upM σ.m [(j,b)] k=some x->(k=j/\x=b)\/(k≠j/\σ.m k=some x):=λk x y=>by
  rw[dc]at y;split at y;rename_i L;cases y;exact .inl ⟨L,rfl⟩;rename_i L;exact .inr ⟨L,y⟩
 have z:∀k,k≠j->upE E j e k=E k:=λk y=>by simp[upE,y]
 have A:upE E j e j=e:=by simp[upE]
 have hD:∀b,D b->w'.heap[b]?=w.heap[b]?:=λk y=>hw k (h.dlt k y) λhi L=>(h.own j G hm hi).2.2 (L▸y);have hlow:Chg S.O S.w0 w':=h.low.step hos X hout v λk y hno=>hw k (qZ y hs) λhi L=>by
  rcases(h.own j G hm hi).1 with g|g;omega;exact hno (L▸g)
 refine h.go (m':=upM σ.m [(j,b)]) ⟨λb hb=>hb,hD⟩ (λk=>.inl λx hb'=>?_) (λk x y=>?_) (λk x y hi=>?_) (λk k' b1 V y hk' hi f u=>?_)
  hlow (λb hb=>qZ (h.dlt b hb) v) (λb hb=>.inl hb)
  (h.pv.step (λk i r hr=>by
   obtain⟨x,g1,g2⟩:=aR.1 hr;rcases old k x g1 with⟨rfl,rfl⟩|⟨q1,q2⟩;rw[A]at g2;exact aR.2 ⟨G,hm,hpr i r g2⟩;rw[z k q1]at g2;exact aR.2 ⟨x,q2,g2⟩) v (λb hb=>.inl hb) λk x y hi=>by
   rcases old k x y with⟨rfl,rfl⟩|⟨q1,q2⟩;rw[A]at hi ⊢;rcases he hi with⟨q3,_⟩|⟨q3,q4⟩;exact .inl (xO q3.symm);exact .inr ⟨k,G,hm,q3,q4⟩;rw[z k q1]at hi ⊢;exact .inr ⟨k,x,q2,hi,rfl⟩)
 rcases old k x hb' with⟨rfl,rfl⟩|⟨g1,g2⟩;exact⟨G,hm,hes,hlen,λe'=>A.trans (hsame e')⟩;exact⟨x,g2,rfl,qM _,λ_=>z k g1⟩;rcases old k x y with⟨rfl,rfl⟩|⟨g1,g2⟩;right;rw[A];exact hb;left;refine⟨g2,z k g1,λhi=>hw _ (h.own k x g2 hi).2.1 λf L=>g1 (h.inj k j x G g2 hm hi f L),λi r hr=>hw _ (h.pv.lt g2 hr) λf L=>?_⟩;exact h.pv.ent k i r (aR.2 ⟨x,g2,hr⟩) j G hm f L.symm;rcases old k x y with⟨rfl,rfl⟩|⟨g1,g2⟩;rw[A]at hi ⊢;rcases he hi with⟨g3,g4⟩|⟨g3,g4⟩;rw[g3];exact⟨.inl hs,g4,λhd=>xY _ (h.dlt _ hd)⟩;rw[g4];obtain⟨g5,g6,g7⟩:=h.own k G hm g3;exact⟨g5,qZ g6 v,g7⟩;rw[z k g1]at hi ⊢;obtain⟨g3,g4,g5⟩:=h.own k x g2 hi;exact⟨g3,qZ g4 v,g5⟩;have key:∀k' V,k'≠j->σ.m k'=some V->(E k').isNil=false->e.isNil=false->e.b=(E k').b->False:=λk' V g3 g4 f hi u=>by
  rcases he hi with⟨g5,_⟩|⟨g5,g6⟩;have:=(h.own k' V g4 f).2.1;rw[<- u,g5]at this;exact xY _ this;exact g3 (h.inj k' j V G g4 hm f g5 (u.symm.trans g6))
 rcases old k b1 y with⟨rfl,rfl⟩|⟨g1,g2⟩<;>rcases old k' V hk' with⟨rfl,rfl⟩|⟨g3,g4⟩
 rfl;rw[A]at hi u;rw[z k' g3]at f u;exact(key k' V g3 g4 f hi u).elim;rw[A]at f u;rw[z k g1]at hi u;exact(key k b1 g1 g2 hi f u.symm).elim;rw[z k g1]at hi u;rw[z k' g3]at f u;exact h.inj k k' b1 V g2 g4 hi f u
def aQ.turnLater{S:Base}{σ:Sig}{a:Act}{w w':World}{D:Nat->Prop}{E:Nat->Ent}(h:aQ S σ a w D E){g:Nat}{j b:Blk}(hm:σ.m g=some j){e:Ent}
  (v:j.es=b.es) (r:j.len<=b.len) (i:j.len=b.len->e=E g)
  (hw:∀k,k<w.heap.size->((E g).isNil=false->k≠(E g).b)->w'.heap[k]?=w.heap[k]?):
  Later ⟨w,D,σ.m,E⟩ ⟨w',D,upM σ.m [(g,b)],upE E g e⟩/\∀k,pn ⟨w,D,σ.m,E⟩ ⟨w',D,upM σ.m [(g,b)],upE E g e⟩ k:=by
 refine⟨⟨λb hb=>hb,λk x=>hw k (h.dlt k x) λhi u=>(h.own g j hm hi).2.2 (u▸x)⟩,λk y f=>?_⟩;replace f:upM σ.m [(g,b)] k=some y:=f;rw[dc]at f;split at f;rename_i u;subst u;cases f;exact⟨j,hm,v,r,λz=>by show upE E k e k=E k;simp[upE];exact i z⟩;rename_i u;exact⟨y,f,rfl,qM _,λ_=>by show upE E g e k=E k;simp[upE,u]⟩
end Go.Eng
namespace Go.Eng
open Go.RowKit
def Yields(S:Base)(σ':Sig)(a:Act)(x:AV)(r:Result Next):Prop:=
 (∃v w',r=.ok (.value v) w'/\Outcome S σ' a x v w')\/(∃w',r=.ok .skip w'/\Outcome S σ' a x undef w')\/
 (∃f args w',r=.ok (.enter f args) w'/\Calls S.P f args w' λe w''=>∃v,e=.returned v/\Outcome S σ' a x v w'')
def P4(P:Program)(t:TypeId):Option Ty:=match aHm P 12 t with|some ty=>if sizeT P t=some ty.sz then some ty else none|none=>none
variable {P:Program}{t:TypeId}
def Hj{ty:Ty}(h:P4 P t=some ty):sizeT P t=some ty.sz:=by
 unfold P4 at h;split at h;split at h;rename_i b;cases h;exact b;cases h;cases h
def aIR(P:Program)(mt:Bool)(nx:Nat)(elem:TypeId)(p:RV):Option Core:=
 match Ip p with
 |some ns=>match mt,P4 P elem with
  |false,some ty=>match cU ty (cM p.1)with
   |some (x,[])=>some {need:=ns,val:=.ip ty x}|_=>some {need:=ns,val:=.ptr nx 1 0 0,upd:=[(nx,.var (cM p.1))],new:=some nx}
  |_,_=>some {need:=ns,val:=.ptr nx 1 0 0,upd:=[(nx,.var (cM p.1))],new:=some nx}
 |none=>none
variable {S:Base}{D:Nat->Prop}{a:Act}{nx:Nat}{w:World}{E:Nat->Ent}{σ:Sig}
def aAl(h:aQ S σ a w D E)(z:Unm nx σ){cs:List AV}{us:Lv}(el:TypeId)
  (A:zA1 S.P ⟨w,D,σ.m,E⟩ cs us) (j:nx∉zA2 cs):
  Outcome S ⟨σ.T,upM σ.m [(nx,.var cs)],σ.sv⟩ a (.ptr nx 1 0 0) (.pointer (some ⟨w.heap.size,0,none⟩)) (w.alloc (.cells us.toArray el)):=by
 have x:(w.alloc (.cells us.toArray el)).heap.size=w.heap.size+1:=yG _ _;have g:Below w.heap.size w (w.alloc (.cells us.toArray el)):=⟨rfl,rfl,rfl,by rw[x];omega,λk r=>kC w _ k r⟩;have i:Later ⟨w,D,σ.m,E⟩ ⟨w.alloc (.cells us.toArray el),D,upM σ.m [(nx,.var cs)],upE E nx ⟨w.heap.size,0,false,noR⟩⟩:=
  ⟨λb hb=>hb,λb hb=>g.block b (h.dlt b hb)⟩
 refine⟨D,upE E nx ⟨w.heap.size,0,false,noR⟩,h.newBlk z g (λ_=>⟨rfl,by rw[x];omega⟩) ⟨rfl,us.toArray,el,heap_alloc_new w _,?_⟩,λb hb=>?_⟩;refine zA4 i (λk r y f=>?_) (by simpa using A);have u:k≠nx:=λe=>j (e▸r);replace f:upM σ.m [(nx,.var cs)] k=some y:=f;rw[dc,if_neg u]at f;exact⟨y,f,rfl,qM _,λ_=>by show upE E nx _ k=E k;simp[upE,u]⟩;replace hb:upM σ.m [(nx,.var cs)] nx=some b:=hb;rw[dc,if_pos rfl]at hb;cases hb;have v:upE E nx (⟨w.heap.size,0,false,noR⟩:Ent) nx=⟨w.heap.size,0,false,noR⟩:=by simp[upE]
 refine⟨qM _,λ_=>⟨Z,?_,?_⟩⟩;show(upE E nx _ nx).isNil=false;rw[v];show _=Value.pointer (some ⟨(upE E nx _ nx).b,_,_⟩);rw[v];simp
variable {c:Core}{elem:TypeId}
def aDo(h:aQ S σ a w D E){mt:Bool}{p:RV}{v:Value}
  (hb:p.2=cL σ.m p.1) (f:aIR S.P mt nx elem p=some c) (L:∀q∈c.need,q) (X:∀k,c.new=some k->Unm k σ/\k∉zA2 (cM p.1)) (G:p.1.rel S.P ⟨w,D,σ.m,E⟩ v):
  ∃r w',(Instr.box elem v).run S.P w=.ok r w'/\Outcome S ⟨σ.T,upM σ.m c.upd,σ.sv⟩ a c.val r w':=by
 have run:∀us:Lv,v.cells=us.toArray->(Instr.box elem v).run S.P w=.ok (.pointer (some ⟨w.heap.size,0,none⟩)) (w.alloc (.cells us.toArray elem)):=by
  intro us i;simp[Instr.box,newVar,newRow,i]
 have var:∀ns,Ip p=some ns->c={need:=ns,val:=.ptr nx 1 0 0,upd:=[(nx,.var (cM p.1))],new:=some nx}->
   ∃r w',(Instr.box elem v).run S.P w=.ok r w'/\Outcome S ⟨σ.T,upM σ.m c.upd,σ.sv⟩ a c.val r w':=by
  intro ns g f;subst f;obtain⟨us,g1,g2,_⟩:=od hb g L G;obtain⟨z,y⟩:=X nx rfl;exact⟨_,_,run us g1,aAl h z elem g2 y⟩
 unfold aIR at f;split at f;rename_i ns g;split at f;split at f;rename_i x V;cases f;obtain⟨us,g1,g2,_⟩:=od hb g L G;obtain⟨z,y,e,O,A⟩:=cH V g2;simp only[zA1]at A;subst A;simp only[wB]at e;subst e;refine⟨_,_,run _ g1,λb=>D b\/b=w.heap.size,E,h.newData _,w.heap.size,0,us,rfl,.inr rfl,?_,?_⟩;intro j u hj;rw[zQ];show(w.alloc _).cell? ⟨w.heap.size,j,none⟩=some u;rw[kX];simpa using hj;exact ax (λb hb=>.inl hb) (λb hb=>kC w _ b (h.dlt b hb)) O;cases f;exact var _ g rfl;cases f;exact var _ g rfl;cases f
def Wv(P:Program)(nx:Nat)(elem:TypeId):Option Core:=
 match(P.info? elem).bind (·.zero)with
 |some z=>some {val:=.ptr nx 1 0 0,upd:=[(nx,.var (z.cells.toList.map It))],new:=some nx}|none=>none
def tH:∀l:Lv,zA2 (l.map It)=[]
 |[]=>rfl|v::l=>by
  simp only[zO,zA2,tH l,wB];cases v<;>rfl
variable {C:Ctx}
def sk:∀l:Lv,zA1 P C (l.map It) l|[]=>rfl|v::l=>⟨v,l,rfl,Is v,sk l⟩
def Wu(h:aQ S σ a w D E)
  (e:Wv S.P nx elem=some c) (g:∀k,c.new=some k->Unm k σ):
  ∃r w',(Instr.alloc elem true (.tuple #[])).run S.P w=.ok r w'/\Outcome S ⟨σ.T,upM σ.m c.upd,σ.sv⟩ a c.val r w':=by
 unfold Wv at e;split at e;rename_i z b;cases e;cases hi:S.P.info? elem with
 |none=>rw[hi]at b;cases b
 |some i=>
  have f:i.zero=some z:=by rw[hi]at b;exact b
  refine⟨_,w.alloc (.cells z.cells elem),?_,aAl h (g nx rfl) elem (us:=z.cells.toList) (sk _) (by rw[tH];simp)⟩;simp[Instr.alloc,zeroValue,typeInfo,hi,f,newVar,newRow]
 cases e
def Fo{cs new:List AV}{us vs:Lv}(h:zA1 P C cs us)(b:zA1 P C new vs)(c:Nat)(e:c+new.length<=cs.length):
  zA1 P C (cs.take c++new++cs.drop (c+new.length)) (us.take c++vs++us.drop (c+vs.length)):=by
 rw[zA3 b];exact zA8 (zA8 (zC4 h _) b) (zB2 h _)
def uI(el:TypeId)(t:Ty)(xs:List t.den)(i:Nat)(y:t.den):Blk:=.buf el t (Em xs i y) []
def s6(el:TypeId)(t:Ty)(xs:List t.den)(i:Nat)(v:AV):Blk:=.buf el t xs [(i,v)]
def O0:AV->Bool|.agg _=>true|_=>false
def Tq(P:Program)(t:TypeId)(p v:RV):Option Core:=
 match Ip v,sizeT P t with
 |some ns,some k=>
  if k=(cM v.1).length then
   match p with
   |(.ptr nm g i c,some (.var cs))=>
    if c+(cM v.1).length<=cs.length then
     some {need:=[1=g,i=0]++ns,val:=.val undef,upd:=[(nm,.var (cs.take c++cM v.1++cs.drop (c+(cM v.1).length)))]}
    else none
   |(.ptr nm g i c,some (.buf el ty xs []))=>
    let old:=cellsOf ty (Du xs i ty.dflt)
    if c+(cM v.1).length<=ty.sz then
     match cU ty (old.take c++cM v.1++old.drop (c+(cM v.1).length))with
     |some (y,[])=>some {need:=[xs.length=g]++ns,val:=.val undef,upd:=[(nm,uI el ty xs i y)]}|_=>if ty.sz=1/\c=0/\O0 v.1=false then some {need:=[xs.length=g]++ns,val:=.val undef,upd:=[(nm,s6 el ty xs i v.1)]} else none
    else none
   |(.ptr nm g i c,some (.buf el ty xs [(j,_)]))=>
    if ty.sz=1/\c=0/\O0 v.1=false then
     match cU ty (cM v.1)with
     |some (y,[])=>some {need:=[xs.length=g,i=j]++ns,val:=.val undef,upd:=[(nm,uI el ty xs i y)]}|_=>some {need:=[xs.length=g,i=j]++ns,val:=.val undef,upd:=[(nm,s6 el ty xs i v.1)]}
    else none
   |_=>none
  else none
 |_,_=>none
def fX{g o:Nat}{L:Array Value}{el:TypeId}{u:Value}{us:Lv}(i:w.heap[g]?=some (.cells L el (0,0)))
  (f:sizeT P t=some us.length) (e:u.cells=us.toArray) (h:o+us.length<=L.size) (r:∀v∈us,v.oneCell'=true):
  (Instr.storeAt t (.pointer (some ⟨g,o,none⟩)) u).run P w=.ok () (w.setRow g (L.toList.take o++us++L.toList.drop (o+us.length)).toArray):=by
 have b:=run_storeCells_at (P:=P) g o el us 0 L w i (by simpa using h) r;have j:=bK f w;simp only[xZ]at b;simp[Instr.storeAt,Instr.sureAddr,storeVar,e,j,b]
def fQ{base:Nat}{el:TypeId}{sz n:Nat}{g cap:Nat}{raw:Lv}(h:w.ownsRow base el sz (.slice (some ⟨g,0,none⟩) n cap) n raw)(o:Nat)(us:Lv)
  (z:o+us.length<=n*sz):∃b,w.heap[g]?=some (.cells b el (0,0))/\o+us.length<=b.size/\
   (w.setRow g (b.toList.take o++us++b.toList.drop (o+us.length)).toArray).ownsRow base el sz (.slice (some ⟨g,0,none⟩) n cap) n (raw.take o++us++raw.drop (o+us.length)):=by
 rcases h.2 with⟨i,_⟩|⟨A,v,b,i,hb,u,f,r,j,e⟩;cases i;simp only[yF,wQ,qAd,vW,yD]at i;obtain⟨rfl,rfl⟩:=i;have x:=h.1;have y:n*sz<=b.size:=by rw[j];exact wH _ f
 refine⟨b,u,Z,⟨?_,.inr ⟨g,cap,_,rfl,hb,qDw w g b _ el _ u,f,r,?_,?_⟩⟩⟩;simp only[qF,qP,wM];omega;simp only[qAe,qF,qP,wM,vU];omega;rw[<- e];simp only[qDj,qP,wM,qF,vU,qCr,qCs];rw[show min o b.size=o by omega,show n*sz-o=us.length+(n*sz-(o+us.length)) by omega];rw[show min (n*sz) o=o by omega,show min o (n*sz)=o by omega];congr 1;congr 1;rw[qO Z]
variable {ov:List (Nat×AV)}
def pO{t:Ty}{xs:List t.den}{raw us:Lv}{i:Nat}{y:t.den}(L:raw.length=xs.length*t.sz)(hi:i<xs.length)(f:∀k a,ov.lookup k=some a->k=i)(h:ct P C t xs ov raw)(G:us.length=t.sz)(A:ag C.w C.D t y us):
  ct P C t (xs.set i y) [] (raw.take (i*t.sz)++us++raw.drop (i*t.sz+us.length)):=by
 have hp:=zA9 t;have hmul:∀j,j<xs.length->j*t.sz+t.sz<=xs.length*t.sz:=λj X=>by
  have:=wH t.sz (show j+1<=xs.length from X);rw[zX,yM]at this;exact this
 have him:=hmul i hi;intro k z b;simp only[List.lookup];rw[yK]at b;split at b;rename_i v;subst v;cases b;have e:((raw.take (i*t.sz)++us++raw.drop (i*t.sz+us.length)).drop (i*t.sz)).take t.sz=us:=by
  rw[vO,gY (by rw[qP];omega),yE (by rw[qP];omega),kR,<- G,List.take_left'];rfl
 rw[e];exact A;rename_i v;have V:k<xs.length:=(qG.1 b).1;have g:=h k z b;have u:ov.lookup k=none:=by
  cases O:ov.lookup k with
  |none=>rfl|some a=>exact(v (f k a O).symm).elim
 rw[u]at g;have T:=hmul k V;have e:((raw.take (i*t.sz)++us++raw.drop (i*t.sz+us.length)).drop (k*t.sz)).take t.sz=(raw.drop (k*t.sz)).take t.sz:=by
  apply xM;intro q;simp only[vX,vM];split;rename_i hq;rcases zT k i with r|hge;have x:k*t.sz+q<i*t.sz:=by
   have:=wH t.sz (show k+1<=i from r);rw[zX,yM]at this;omega
  rw[vO,vS (by rw[qP];omega),vX,if_pos x];have x:i*t.sz+t.sz<=k*t.sz:=by
   have:=wH t.sz (show i+1<=k by omega);rw[zX,yM]at this;omega
  rw[vJ (by rw[qF,qP];omega),vM];congr 1;rw[qF,qP];omega;rfl
 rw[e];exact g
def uJ{t:Ty}{xs:List t.den}{raw:Lv}{u:Value}{i:Nat}{a:AV}(b:raw.length=xs.length*t.sz)(hi:i<xs.length)(y:t.sz=1)(f:∀k a,ov.lookup k=some a->k=i)(h:ct P C t xs ov raw)(G:u.oneCell'=true)(A:a.rel P C u):
  ct P C t xs [(i,a)] (raw.take (i*t.sz)++[u]++raw.drop (i*t.sz+[u].length)):=by
 intro k z x;have V:k<xs.length:=(qG.1 x).1;rw[y]at b ⊢;simp only[xG,qL]at b ⊢;simp only[List.lookup];by_cases v:k=i;subst v;simp only[xE];refine⟨trivial,u,?_,G,A⟩;rw[vO,vJ (by rw[qP];omega),qP];rw[show k-min k raw.length=0 by omega];rfl;have hb:(k==i)=false:=by simpa using v
 simp only[hb];have g:=h k z x;have r:ov.lookup k=none:=by
  cases L:ov.lookup k with
  |none=>rfl|some a=>exact(v (f k a L)).elim
 rw[r,y]at g;simp only[xG]at g;have e:((raw.take i++[u]++raw.drop (i+1)).drop k).take 1=(raw.drop k).take 1:=by
  apply xM;intro q;simp only[vX,vM];split;rename_i T;have:q=0:=Z;subst this;simp only[xZ];rcases zT k i with j|O;rw[vO,vS (by rw[qP];omega),vX,if_pos j];rw[vJ (by rw[qF,qP,qL];omega),vM];congr 1;rw[qF,qP,qL];omega;rfl
 rw[e];exact g
def aEN{α:Type}(raw us:List α)(o c n:Nat)(i:c+us.length<=n)(h:o+n<=raw.length):
  raw.take o++((((raw.drop o).take n).take c)++us++((raw.drop o).take n).drop (c+us.length))++raw.drop (o+n)=raw.take (o+c)++us++raw.drop (o+c+us.length):=by
 have g:raw.take (o+c)=raw.take o++(raw.drop o).take c:=List.take_add;have f:raw.drop (o+c+us.length)=((raw.drop o).take n).drop (c+us.length)++raw.drop (o+n):=by
  have e:raw.drop o=(raw.drop o).take n++raw.drop (o+n):=by
   rw[<- xA,kJ]
  have b:raw.drop (o+c+us.length)=(raw.drop o).drop (c+us.length):=by rw[xA];congr 1;omega
  rw[b];conv=>lhs;rw[e]
  rw[gY (by rw[qP,wM];omega)]
 rw[g,f,qCr,kF Z];simp only[vO]
def aQ.stored{S:Base}{σ:Sig}{a:Act}{w:World}{D:Nat->Prop}{E:Nat->Ent}(h:aQ S σ a w D E){f:Nat}{u b:Blk}(hm:σ.m f=some u)(j:(E f).isNil=false)
  (r:u.es=b.es) (g:u.len=b.len) (cs:Array Value)
  (hb:∀C',Later ⟨w,D,σ.m,E⟩ C'->(∀k,pn ⟨w,D,σ.m,E⟩ C' k)->C'.w=w.setRow (E f).b cs->fe S.P 0 C' (E f) b) (v:∀i k,rowsOf (E f) b i k->rowsOf (E f) u i k:=by(intro i k h;obtain⟨_,_,_,_,_,_,h,_⟩:=h;cases h)):
  ∃D' E',aQ S ⟨σ.T,upM σ.m [(f,b)],σ.sv⟩ a (w.setRow (E f).b cs) D' E':=by
 have hw:∀k,k<w.heap.size->((E f).isNil=false->k≠(E f).b)->(w.setRow (E f).b cs).heap[k]?=w.heap[k]?:=λk _ x=>setRow_other w _ k cs (x j);obtain⟨L,N⟩:=h.turnLater (w':=w.setRow (E f).b cs) (b:=b) hm (e:=E f) r (xO g) (λ_=>rfl) hw;exact⟨D,upE E f (E f),h.turnBlk (w':=w.setRow (E f).b cs) hm (e:=E f) r (xO g) (λ_=>rfl) rfl rfl rfl (by simp) hw (λhi=>.inr ⟨hi,rfl⟩) (hb _ L N rfl) v⟩
def Tn(h:aQ S σ a w D E){p v:RV}{vp u:Value}
  (hbp:p.2=cL σ.m p.1) (hbv:v.2=cL σ.m v.1) (O:Tq S.P t p v=some c) (hn:∀q∈c.need,q)
  (hp:p.1.rel S.P ⟨w,D,σ.m,E⟩ vp) (hv:v.1.rel S.P ⟨w,D,σ.m,E⟩ u):
  c.new=none/\c.val=.val undef/\∃w',(Instr.storeAt t vp u).run S.P w=.ok () w'/\∃D E,aQ S ⟨σ.T,upM σ.m c.upd,σ.sv⟩ a w' D E:=by
 unfold Tq at O;split at O;case h_2=>cases O
 rename_i ns k hone hsz;split at O;case isFalse=>cases O
 rename_i hk;have ones:(∀q∈ns,q)->∃us:Lv,u.cells=us.toArray/\zA1 S.P ⟨w,D,σ.m,E⟩ (cM v.1) us/\∀z∈us,z.oneCell'=true:=λhns=>od hbv hone hns hv;have ptr:∀x g i c0 b,p.1=.ptr x g i c0->σ.m x=some b->b.len=g->i<g/\(E x).isNil=false/\vp=.pointer (some ⟨(E x).b,i*b.es+c0,none⟩):=λx g i c0 b hpe hm hl=>by
  rw[hpe]at hp;exact(hp b hm).2 hl
 split at O;rename_i x g i c0 cs;have hm:σ.m x=some (.var cs):=hbp.symm;split at O;case isFalse=>cases O
 rename_i hfit;cases O;obtain⟨us,g1,g2,g3⟩:=ones (λq hq=>hn q (by simp[hq]));have e1:1=g:=hn _ (by simp);have e2:i=0:=hn _ (by simp);subst e2;obtain⟨_,f,ev⟩:=ptr x g 0 c0 _ rfl hm e1;have ev':vp=.pointer (some ⟨(E x).b,c0,none⟩):=by rw[ev,xX,zQ]
 obtain⟨_,r,el,r1,X⟩:=h.bl x _ hm;have hl1:=zA3 g2;have hl2:=zA3 X;have hcur:c0+us.length<=r.size:=by
  have hf:=hfit;rw[hl1,hl2,vU]at hf;exact hf
 have A:=fX (P:=S.P) (t:=t) (o:=c0) r1 (by rw[hsz,hk,hl1]) g1 hcur g3;refine⟨rfl,rfl,w.setRow (E x).b (r.toList.take c0++us++r.toList.drop (c0+us.length)).toArray,by rw[ev'];exact A,?_⟩;have hes:(Blk.var cs).es=(Blk.var (cs.take c0++cM v.1++cs.drop (c0+(cM v.1).length))).es:=by
  simp only[Blk.es,qF,qP,wM];omega
 refine aQ.stored h hm f hes rfl (r.toList.take c0++us++r.toList.drop (c0+us.length)).toArray λC' L N hw=>?_;refine⟨f,(r.toList.take c0++us++r.toList.drop (c0+us.length)).toArray,el,by rw[hw];exact qDw w _ r _ el _ r1,?_⟩;exact Fo (zA4 L (λk _=>N k) X) (zA4 L (λk _=>N k) g2) c0 Z;rename_i x g i c0 el ty xs;have hm:σ.m x=some (.buf el ty xs []):=hbp.symm;simp only[]at O;split at O;case isFalse=>cases O
 rename_i hfit;have both:(∀q∈ns,q)->xs.length=g->i<xs.length/\∃us raw r,(E x).isNil=false/\u.cells=us.toArray/\zA1 S.P ⟨w,D,σ.m,E⟩ (cM v.1) us/\(∀z∈us,z.oneCell'=true)/\
   raw.length=xs.length*ty.sz/\ct S.P ⟨w,D,σ.m,E⟩ ty xs [] raw/\us.length=(cM v.1).length/\
   (Instr.storeAt t vp u).run S.P w=.ok () (w.setRow (E x).b r)/\
   (w.setRow (E x).b r).ownsRow 0 el ty.sz ((E x).handle xs.length) xs.length (raw.take (i*ty.sz+c0)++us++raw.drop (i*ty.sz+c0+us.length)):=by
  intro hns e1;obtain⟨us,g1,g2,g3⟩:=ones hns;obtain⟨hi,f,e⟩:=ptr x g i c0 _ rfl hm e1;obtain⟨raw,r1,X⟩:=h.bl x _ hm;have hi':i<xs.length:=Z;have hl1:=zA3 g2;have hhd:(E x).handle xs.length=.slice (some ⟨(E x).b,0,none⟩) xs.length (E x).cap:=by unfold Ent.handle;rw[f];rfl
  rw[hhd]at r1;have hmul:i*ty.sz+ty.sz<=xs.length*ty.sz:=by
   have:=wH ty.sz (show i+1<=xs.length from hi');rw[zX,yM]at this;exact this
  obtain⟨r,q1,q2,q3⟩:=fQ r1 (i*ty.sz+c0) us Z;refine⟨hi',us,raw,_,f,g1,g2,g3,r1.1,X,hl1.symm,?_,by rw[hhd];exact q3⟩;rw[e];exact fX q1 (by rw[hsz,hk,hl1]) g1 q2 g3
 split at O;rename_i y hy;cases O;obtain⟨hi,us,raw,r,f,_,g2,_,hrl,X,hul,A,G⟩:=both (λq hq=>hn q (by simp[hq])) (hn _ (by simp));refine⟨rfl,rfl,_,A,h.stored hm f (by simp[uI,Blk.es]) (by simp[uI,Blk.len]) r λC' L N hw=>?_⟩;have hx:=X i _ (getElem?_getD (d:=ty.dflt) hi);simp only[List.lookup]at hx;have hmul:i*ty.sz+ty.sz<=xs.length*ty.sz:=by
  have:=wH ty.sz (show i+1<=xs.length from hi);rw[zX,yM]at this;exact this
 have hol:=cy (P:=S.P) (C:=⟨w,D,σ.m,E⟩) hx;have hnew:=Fo hol g2 c0 (by have:=zA3 hol;rw[qP,wM]at this;omega);obtain⟨u1,u2,e,q1,q2⟩:=cH hy hnew;simp only[zA1]at q2;subst q2;simp only[wB]at e;have q1':ag C'.w C'.D ty y u1:=ax L.D L.w q1;have hul1:=aY q1;refine⟨raw.take (i*ty.sz+c0)++us++raw.drop (i*ty.sz+c0+us.length),by rw[hw];simpa[uI]using G,?_⟩;have fin:=pO (ov:=[]) hrl hi (λk a hk=>by simp at hk) (bv L (λk _=>N k) X) hul1 q1';have e3:raw.take (i*ty.sz)++u1++raw.drop (i*ty.sz+u1.length)=raw.take (i*ty.sz+c0)++us++raw.drop (i*ty.sz+c0+us.length):=by
  rw[hul1,<- e];have hseg:=aEN raw us (i*ty.sz) c0 ty.sz Z Z;exact hseg
 rw[<- e3];exact fin;split at O;case isFalse=>cases O
 rename_i hone1;obtain⟨hz1,hc0,V⟩:=hone1;cases O;obtain⟨hi,us,raw,r,f,_,g2,g3,hrl,X,hul,A,G⟩:=both (λq hq=>hn q (by simp[hq])) (hn _ (by simp));obtain⟨z,hz,hzr⟩:∃z,us=[z]/\v.1.rel S.P ⟨w,D,σ.m,E⟩ z:=by
  have hcv:cM v.1=[v.1]:=by
   cases hq:v.1<;>first|rfl|(rw[hq]at V;cases V)
  rw[hcv]at g2;obtain⟨z,us',e,q1,q2⟩:=g2;simp only[zA1]at q2;subst q2;exact⟨z,e,q1⟩
 subst hz hc0;refine⟨rfl,rfl,_,A,h.stored hm f (by simp[s6,Blk.es]) (by simp[s6,Blk.len]) r λC' L N hw=>?_⟩;refine⟨raw.take (i*ty.sz+0)++[z]++raw.drop (i*ty.sz+0+[z].length),by rw[hw];exact G,?_⟩;exact uJ (ov:=[]) hrl hi hz1 (λk a hk=>by simp at hk) (bv L (λk _=>N k) X) (g3 z (by simp)) (zA5 L (λk _=>N k) hzr);rename_i x g i c0 el ty xs j av;have hm:σ.m x=some (.buf el ty xs [(j,av)]):=hbp.symm;split at O;case isFalse=>cases O
 rename_i hone1;obtain⟨hz1,hc0,V⟩:=hone1;subst hc0;have hov:i=j->∀k a,List.lookup k [(j,av)]=some a->k=i:=λe k a hk=>by
  simp only[List.lookup]at hk;split at hk;rename_i hkj;rw[e];simpa using hkj;cases hk
 have both:(∀q∈ns,q)->xs.length=g->i<xs.length/\∃z raw r,(E x).isNil=false/\v.1.rel S.P ⟨w,D,σ.m,E⟩ z/\zA1 S.P ⟨w,D,σ.m,E⟩ (cM v.1) [z]/\z.oneCell'=true/\
   raw.length=xs.length*ty.sz/\ct S.P ⟨w,D,σ.m,E⟩ ty xs [(j,av)] raw/\
   (Instr.storeAt t vp u).run S.P w=.ok () (w.setRow (E x).b r)/\
   (w.setRow (E x).b r).ownsRow 0 el ty.sz ((E x).handle xs.length) xs.length (raw.take (i*ty.sz)++[z]++raw.drop (i*ty.sz+[z].length)):=by
  intro hns e1;obtain⟨us,g1,g2,g3⟩:=ones hns;obtain⟨z,hz,hzr⟩:∃z,us=[z]/\v.1.rel S.P ⟨w,D,σ.m,E⟩ z:=by
   have hcv:cM v.1=[v.1]:=by
    cases hq:v.1<;>first|rfl|(rw[hq]at V;cases V)
   rw[hcv]at g2;obtain⟨z,us',e,q1,q2⟩:=g2;simp only[zA1]at q2;subst q2;exact⟨z,e,q1⟩
  subst hz;obtain⟨hi,f,e⟩:=ptr x g i 0 _ rfl hm e1;obtain⟨raw,r1,X⟩:=h.bl x _ hm;have hi':i<xs.length:=Z;have hl1:=zA3 g2;have hhd:(E x).handle xs.length=.slice (some ⟨(E x).b,0,none⟩) xs.length (E x).cap:=by unfold Ent.handle;rw[f];rfl
  rw[hhd]at r1;have hmul:i*ty.sz+ty.sz<=xs.length*ty.sz:=by
   have:=wH ty.sz (show i+1<=xs.length from hi');rw[zX,yM]at this;exact this
  obtain⟨r,q1,q2,q3⟩:=fQ r1 (i*ty.sz) [z] (by rw[qL];omega);refine⟨hi',z,raw,_,f,hzr,g2,g3 z (by simp),r1.1,X,?_,by rw[hhd];exact q3⟩;have e':vp=.pointer (some ⟨(E x).b,i*ty.sz,none⟩):=by rw[e];rfl
  rw[e'];exact fX q1 (by rw[hsz,hk,hl1]) g1 q2 g3
 split at O;rename_i y hy;cases O;obtain⟨hi,z,raw,r,f,hzr,g2,_,hrl,X,A,G⟩:=both (λq hq=>hn q (by simp[hq])) (hn _ (by simp));have eij:i=j:=hn _ (by simp);refine⟨rfl,rfl,_,A,h.stored hm f (by simp[uI,Blk.es]) (by simp[uI,Blk.len]) r λC' L N hw=>?_⟩;obtain⟨u1,u2,e,q1,q2⟩:=cH hy g2;simp only[zA1]at q2;subst q2;simp only[wB]at e;subst e;refine⟨raw.take (i*ty.sz)++[z]++raw.drop (i*ty.sz+[z].length),by rw[hw];simpa[uI]using G,?_⟩;exact pO hrl hi (hov eij) (bv L (λk _=>N k) X) (by rw[hz1];rfl) (ax L.D L.w q1);cases O;obtain⟨hi,z,raw,r,f,hzr,g2,g3,hrl,X,A,G⟩:=both (λq hq=>hn q (by simp[hq])) (hn _ (by simp));have eij:i=j:=hn _ (by simp);refine⟨rfl,rfl,_,A,h.stored hm f (by simp[s6,Blk.es]) (by simp[s6,Blk.len]) r λC' L N hw=>?_⟩;refine⟨raw.take (i*ty.sz)++[z]++raw.drop (i*ty.sz+[z].length),by rw[hw];exact G,?_⟩;exact uJ hrl hi hz1 (hov eij) (bv L (λk _=>N k) X) g3 (zA5 L (λk _=>N k) hzr);cases O
end Go.Eng
namespace Go.Eng
open Go.RowKit
def foldl_set(cs:Lv):∀(A:Array Value) (off k:Nat),off+k+cs.length<=A.size->
  ((cs.zipIdx k).foldl (λa (c,j)=>a.setIfInBounds (off+j) c) A).toList=A.toList.take (off+k)++cs++A.toList.drop (off+k+cs.length):=by
 induction cs with
 |nil=>intro A off k _;simp
 |cons c cs b=>
  intro A off k h;simp only[wO]at h;simp only[List.zipIdx_cons,kG];have f:=b (A.setIfInBounds (off+k) c) off (k+1) (by simp;omega);rw[f,Array.toList_setIfInBounds];have e:=list_seg_step A.toList (off+k) c cs (by simp;omega);simpa[qAb,qBh 1]using e
def fill_dense(sz:Nat):∀(vals:Lv) (uss:List (Lv)) (k:Nat) (A:Array Value),vals.length=uss.length->
  (∀(i:Nat) v us,vals[i]?=some v->uss[i]?=some us->v.cells=us.toArray/\us.length=sz)->(k+vals.length)*sz<=A.size->
  ∃B:Array Value,Instr.fill (λi=>some (i*sz,sz)) A ((List.range' k vals.length).zip vals)=some B/\B.toList=A.toList.take (k*sz)++uss.flatten++A.toList.drop ((k+vals.length)*sz)
 |[],uss,k,A,e,_,_=>by
  have:uss=[]:=vY (by simpa using e.symm);subst this;exact⟨A,by simp[Instr.fill],by simp⟩
 |v::vals,uss,k,A,e,h,z=>by
  match uss,e with
  |us::uss,e=>
   obtain⟨X,r⟩:=h 0 v us rfl rfl;simp only[wO]at z e;have e1:(k+(vals.length+1))*sz=k*sz+sz+vals.length*sz:=by rw[zX,zX,yM];omega
   have b:=foldl_set us A (k*sz) 0 Z;generalize V:(us.zipIdx 0).foldl (λa (c,j)=>a.setIfInBounds (k*sz+j) c) A=u at b;have f:u.size=A.size:=by
    have h9:=yS List.length b;simp only[qF,qP,wM,vU,r]at h9;omega
   obtain⟨B,g1,g2⟩:=fill_dense sz vals uss (k+1) u Z (λi v us O T=>h (i+1) v us (by simpa using O) (by simpa using T)) (by rw[f,qAb,qBh 1];exact z);refine⟨B,?_,?_⟩;simp only[wO,qBp,List.zip_cons_cons,Instr.fill,X];have L:us.toArray.size=sz:=by simpa using r
   have g:¬(us.toArray.size≠sz\/k*sz+us.toArray.size>A.size):=by rw[L];omega
   rw[if_neg (by simpa using g)];have y:us.toArray.zipIdx.foldl (λcs x=>cs.setIfInBounds (k*sz+x.2) x.1) A=u:=by
    rw[<- V,<- Array.foldl_toList];simp
   simp only[qBh]at y g1 ⊢;rw[y];exact g1;rw[g2,b];simp only[xZ,qBe];have e2:(k+1)*sz=k*sz+sz:=by rw[zX,yM]
   have e3:(k+1+vals.length)*sz=k*sz+sz+vals.length*sz:=by rw[zX,zX,yM]
   have e4:(k+(v::vals).length)*sz=k*sz+sz+vals.length*sz:=by rw[wO];exact e1
   rw[e2,e3,e4,r];have G:(A.toList.take (k*sz)++us).length=k*sz+sz:=by
    rw[qF,qP,vU];omega
   rw[xK Z,qO Z];rw[qDn,yE Z,G,kR,xA];rw[show k*sz+sz+(k*sz+sz+vals.length*sz-(k*sz+sz))=k*sz+sz+vals.length*sz by omega];simp only[vO]
def JC(ty:Ty):List AV->Option (List ty.den)
 |[]=>some []|v::vs=>match cU ty (cM v),JC ty vs with
  |some (x,[]),some xs=>some (x::xs)|_,_=>none
variable {v:Value}{C:Ctx}{P:Program}{ty:Ty}
def GV{a:AV}{x:ty.den}(h:cU ty (cM a)=some (x,[]))(j:a.rel P C v):
  ∃us:Lv,v.cells=us.toArray/\ag C.w C.D ty x us:=by
 have one:zA1 P C [a] [v]->cM a=[a]->∃us:Lv,v.cells=us.toArray/\ag C.w C.D ty x us:=by
  intro z y;rw[y]at h;obtain⟨u,r,e,i,b⟩:=cH h z;simp only[zA1]at b;subst b;simp only[wB]at e;subst e;have:=gm i v (by simp);exact⟨[v],(by cases v<;>first|rfl|(cases this)),i⟩
 by_cases f:O0 a=true
 .cases a<;>first|(cases f;done)|skip
  obtain⟨us,e,g⟩:=j;subst e;obtain⟨u,r,e,i,b⟩:=cH h g;simp only[zA1]at b;subst b;simp only[wB]at e;subst e;exact⟨us,rfl,i⟩
 exact one ⟨v,[],rfl,j,rfl⟩ (by cases a<;>first|rfl|exact(f rfl).elim)
def JB:∀{vs:List AV}{xs:List ty.den}{vals:Lv},JC ty vs=some xs->zA1 P C vs vals->
  xs.length=vals.length/\∃uss:List (Lv),vals.length=uss.length/\(∀(i:Nat) v us,vals[i]?=some v->uss[i]?=some us->v.cells=us.toArray/\us.length=ty.sz)/\
   ∀(i:Nat) y us,xs[i]?=some y->uss[i]?=some us->ag C.w C.D ty y us
 |[],xs,vals,h,r=>by
  simp only[JC]at h;cases h;simp only[zA1]at r;subst r;exact⟨rfl,[],rfl,λi v us j=>by simp at j,λi y us g=>by simp at g⟩
 |a::vs,xs,vals,h,r=>by
  simp only[JC]at h;split at h;rename_i x A h1 h2;cases h;obtain⟨v,u,e,O,L⟩:=r;subst e;obtain⟨us,T,z⟩:=GV h1 O;obtain⟨X,uss,V,g1,g2⟩:=JB h2 L;refine⟨by simp[X],us::uss,by simp[V],λi G b j f=>?_,λi y b g f=>?_⟩;cases i with
  |zero=>simp at j f;subst j f;exact⟨T,aY z⟩|succ i=>exact g1 i G b (by simpa using j) (by simpa using f)
  cases i with
  |zero=>simp at g f;subst g f;exact z|succ i=>exact g2 i y b (by simpa using g) (by simpa using f)
  cases h
def iR{α:Type}(sz:Nat):∀(uss:List (List α)),(∀us∈uss,us.length=sz)->∀(i:Nat) (us:List α),uss[i]?=some us->(uss.flatten.drop (i*sz)).take sz=us
 |[],_,i,us,h=>by simp at h|u::uss,e,i,us,h=>by
  have g:=e u (by simp);cases i with
  |zero=>
   simp at h;subst h;rw[xX,qEc,qBe,xK Z,qO Z]
  |succ i=>
   have f:=iR sz uss (λus b=>e us (by simp[b])) i us (by simpa using h);rw[qBe,show(i+1)*sz=u.length+i*sz by rw[zX,yM,g];omega,<- xA,qBz];exact f
def fS{α:Type}(sz:Nat):∀(uss:List (List α)),(∀us∈uss,us.length=sz)->uss.flatten.length=uss.length*sz
 |[],_=>by simp|u::uss,h=>by
  rw[qBe,qF,fS sz uss (λus b=>h us (by simp[b])),h u (by simp),wO,zX,yM];omega
def UO(P:Program)(e:TypeId):Bool:=match P.info? e with|some i=>i.zero.isSome|none=>false
def aIy(P:Program)(mt:Bool)(nx:Nat)(t:TypeId)(len:Nat)(idxs:List Nat)(vs:List AV):Option Core:=
 match db P t with
 |some e=>match P4 P e with
  |some ty=>if idxs=List.range' 0 vs.length/\vs.length=len/\len*ty.sz<=16777216/\UO P e=true then
    match JC ty vs with
    |some xs=>if mt=true\/len=0 then some {val:=.buf nx len,upd:=[(nx,.buf e ty xs [])],new:=some nx} else some {val:=.dat (.sl ty) xs}|none=>none
   else none
  |none=>none
 |none=>none
variable {w:World}{vals:Lv}
def Lh{t e:TypeId}{uss:List (Lv)}(V:db P t=some e)(f:sizeT P e=some ty.sz)(b:UO P e=true)
  (O:vals.length*ty.sz<=16777216) (G:vals.length=uss.length) (y:∀(i:Nat) v us,vals[i]?=some v->uss[i]?=some us->v.cells=us.toArray/\us.length=ty.sz):
  (Instr.buildSlice t vals.length ((List.range' 0 vals.length).zip vals).toArray).run P w=.ok (.slice (some ⟨w.heap.size,0,none⟩) vals.length vals.length) (w.alloc (.cells uss.flatten.toArray e)):=by
 have g:=cI V;unfold UO at b;unfold sizeT at f;cases hi:P.info? e with
 |none=>rw[hi]at b;cases b
 |some i=>
  rw[hi]at b f;simp only[zY,wQ]at f;cases x:i.zero with
  |none=>simp[x]at b|some z=>
   have h:∀us∈uss,us.length=ty.sz:=λus j=>by
    obtain⟨k,L⟩:=kY.1 j;have r:k<vals.length:=by rw[G];exact(qG.1 L).1
    exact(y k vals[k] us (qB r) L).2
   have fl:=fS ty.sz uss h;have key:∀A:Array Value,A.size=vals.length*ty.sz->Instr.fill (λi=>some (i*ty.sz,ty.sz)) A ((List.range' 0 vals.length).zip vals)=some uss.flatten.toArray:=by
    intro A X;obtain⟨B,g1,g2⟩:=fill_dense ty.sz vals uss 0 A G y (by rw[zQ];omega);rw[g1];congr 1;apply yU;rw[g2,xX,zQ,qCq,kR,yE (by rw[vU];omega),wB]
   have u:¬vals.length*ty.sz>2 ^ 24:=Z;by_cases T:vals.length*ty.sz=0;have k:=key ((Array.range (vals.length*ty.sz)).map (((#[]:Array Value))[· % 0]!)) (by simp);simp only[Instr.buildSlice,wV,vN g,vZ,bK (P:=P) (t:=e) (n:=ty.sz) (by simp[sizeT,hi,f]),if_neg u,yN,if_pos T];simp only[qAe,xR,k,newRow,wV,run_newObj,vZ,yN,World.alloc_eq];have k:=key ((Array.range (vals.length*ty.sz)).map (z.cells[· % z.cells.size]!)) (by simp);simp only[Instr.buildSlice,wV,vN g,vZ,bK (P:=P) (t:=e) (n:=ty.sz) (by simp[sizeT,hi,f]),if_neg u,yN,if_neg T];simp only[zeroValue,typeInfo,wV,run_program,vZ,hi,yN,x,k,newRow,run_newObj,World.alloc_eq]
def zD9{b:Nat}{σ:Sig}(h:Unm b σ)(l:List (Nat×AV))(e:l=[]):b∉zA2 (l.map (·.2)):=by subst e;simp[zA2]
variable {S:Base}{D:Nat->Prop}{a:Act}{E:Nat->Ent}{σ:Sig}
def N7{w w':World}(h:aQ S σ a w D E){nx:Nat}(r:Unm nx σ){e:TypeId}{xs:List ty.den}{raw:Lv}{cap:Nat}
  (hw:Below w.heap.size w w') (u:w.heap.size<w'.heap.size)
  (f:w'.ownsRow 0 e ty.sz (.slice (some ⟨w.heap.size,0,none⟩) xs.length cap) xs.length raw)
  (g:∀(i:Nat) y,xs[i]?=some y->ag w D ty y ((raw.drop (i*ty.sz)).take ty.sz)):
  Outcome S ⟨σ.T,upM σ.m [(nx,.buf e ty xs [])],σ.sv⟩ a (.buf nx xs.length) (.slice (some ⟨w.heap.size,0,none⟩) xs.length cap) w':=by
 have v:upE E nx (⟨w.heap.size,cap,false,noR⟩:Ent) nx=⟨w.heap.size,cap,false,noR⟩:=by simp[upE]
 refine⟨D,upE E nx ⟨w.heap.size,cap,false,noR⟩,h.newBlk r hw (λ_=>⟨rfl,u⟩) ⟨raw,f,?_⟩,λb hb=>?_⟩;intro i y j;simp only[List.lookup];exact ax (λb hb=>hb) (λb hb=>hw.block b (h.dlt b hb)) (g i y j);replace hb:upM σ.m [(nx,.buf e ty xs [])] nx=some b:=hb;rw[dc,if_pos rfl]at hb;cases hb;refine⟨qM _,λ_=>?_⟩;show _=(upE E nx _ nx).handle _;rw[v];rfl
def mJ(w:World)(o:Obj):Below w.heap.size w (w.alloc o):=
 ⟨rfl,rfl,rfl,by rw[yG];omega,λk b=>kC w _ k b⟩
variable {t:TypeId}
def aCL(h:aQ S σ a w D E){mt:Bool}{nx len:Nat}{x:List Nat}{vs:List AV}{c:Core}
  (f:aIy S.P mt nx t len x vs=some c) (hr:zA1 S.P ⟨w,D,σ.m,E⟩ vs vals) (hu:∀k,c.new=some k->Unm k σ):
  c.need=[]/\∃r w',(Instr.buildSlice t len (x.zip vals).toArray).run S.P w=.ok r w'/\Outcome S ⟨σ.T,upM σ.m c.upd,σ.sv⟩ a c.val r w':=by
 unfold aIy at f;split at f;case h_2=>cases f
 rename_i e he;split at f;case h_2=>cases f
 rename_i ty hty;split at f;case isFalse=>cases f
 rename_i L;obtain⟨h1,h2,h3,h4⟩:=L;split at f;case h_2=>cases f
 rename_i xs hxs;have hsz:=Hj hty;obtain⟨l1,uss,l2,g1,g2⟩:=JB hxs hr;have O:=zA3 hr;have A:vals.length=len:=Z;have g:=Lh (w:=w) he hsz h4 (by rw[A];exact h3) l2 g1;rw[<- O,<- h1,O,A]at g;have G:∀us∈uss,us.length=ty.sz:=λus hus=>by
  obtain⟨k,hk⟩:=kY.1 hus;have hk':k<vals.length:=by rw[l2];exact(qG.1 hk).1
  exact(g1 k vals[k] us (qB hk') hk).2
 have z:∀(i:Nat) (y:ty.den),xs[i]?=some y->ag w D ty y ((uss.flatten.drop (i*ty.sz)).take ty.sz):=by
  intro i y hy;have hi:i<uss.length:=by rw[<- l2,<- l1];exact(qG.1 hy).1
  have hg:=qB hi;rw[iR ty.sz uss G i _ hg];exact g2 i y _ hy hg
 have hfl:=fS ty.sz uss G;split at f;cases f;refine⟨rfl,_,_,g,?_⟩;have v:xs.length=len:=Z;have V:(w.alloc (.cells uss.flatten.toArray e)).ownsRow 0 e ty.sz (.slice (some ⟨w.heap.size,0,none⟩) xs.length xs.length) xs.length uss.flatten:=by
  have:=World.ownsRow_lit (base:=0) (e:=e) (size:=ty.sz) w uss.flatten.toArray xs.length (wU _) (by
   have:xs.length<=xs.length*ty.sz:=Nat.le_mul_of_pos_right _ (zA9 ty);rw[v]at this ⊢;unfold maxLen;omega) (by rw[qAe,hfl,<- l2,<- l1])
  simpa using this
 have out:=N7 h (hu nx rfl) (mJ w _) (by rw[yG];omega) V z;rw[v]at out;exact out;cases f;refine⟨rfl,_,_,g,λb=>D b\/b=w.heap.size,E,h.newData _,?_⟩;have v:List.length xs=len:=Z;refine⟨some ⟨w.heap.size,0,none⟩,len,by rw[v],Z,(λh=>by cases h),(λa ha _=>by cases ha;rfl),λi y hy=>?_⟩;refine⟨⟨w.heap.size,0,none⟩,_,rfl,.inr rfl,?_,ax (λb hb=>.inl hb) (λb hb=>kC w _ b (h.dlt b hb)) (z i y hy)⟩;intro j u X;rw[vX]at X;split at X;rw[vM]at X;show(w.alloc _).cell? ⟨w.heap.size,0+i*ty.sz+j,none⟩=some u;rw[zQ,kX];simpa using X;cases X
def qq:List AV->Option (List AV)|[]=>some []|.agg [x]::vs=>if(x.names).isEmpty=true then(qq vs).map (x::·)else none|_::_=>none
def UQ(P:Program)(mt:Bool)(t:TypeId)(len:Nat)(idxs:List Nat)(vs:List AV):Option Core:=match db P t with
 |some e=>if mt=false/\P4 P e=none/\sizeT P e=some 1/\idxs=List.range' 0 vs.length/\vs.length=len/\len*1<=16777216/\UO P e=true then
   match qq vs with
   |some cs=>some {val:=.slv cs}|none=>none
  else none
 |none=>none
def xm:∀{vs cs:List AV}{vals:Lv},qq vs=some cs->zA1 P C vs vals->cs.length=vs.length/\zA2 cs=[]/\
  ∃us,zA1 P C cs us/\vals.length=us.length/\∀(i:Nat) v l,vals[i]?=some v->(us.map λu=>[u])[i]?=some l->v.cells=l.toArray/\l.length=1
 |[],_,_,h,e=>by
  cases h;cases e;exact⟨rfl,rfl,[],rfl,rfl,λi v l b=>by simp at b⟩
 |.agg [x]::vs,_,_,h,e=>by
  simp only[qq]at h;split at h;case isFalse=>cases h
  rename_i z;cases f:qq vs with
  |none=>rw[f]at h;cases h
  |some cs=>
   rw[f]at h;cases h;obtain⟨u,y,rfl,⟨w,rfl,j,r,rfl,L,G⟩,A⟩:=e;cases G;obtain⟨g1,g2,us,g3,g4,O⟩:=xm f A;refine⟨by simp[g1],?_,j::us,⟨j,us,rfl,L,g3⟩,by simp[g4],λi v l b g=>?_⟩;show x.names++zA2 cs=[];rw[g2,zB.1 z];rfl;cases i with
   |zero=>simp at b g;subst b g;exact⟨rfl,rfl⟩|succ i=>exact O i v l (by simpa using b) (by simpa using g)
def UP(h:aQ S σ a w D E){mt:Bool}{len:Nat}{i:List Nat}{vs:List AV}{c:Core}
  (x:UQ S.P mt t len i vs=some c) (L:zA1 S.P ⟨w,D,σ.m,E⟩ vs vals):
  ∃r w',(Instr.buildSlice t len (i.zip vals).toArray).run S.P w=.ok r w'/\Outcome S ⟨σ.T,upM σ.m c.upd,σ.sv⟩ a c.val r w':=by
 unfold UQ at x;split at x;case h_2=>cases x
 rename_i e he;split at x;case isFalse=>cases x
 rename_i y;obtain⟨_,_,h0,h1,h2,h3,h4⟩:=y;split at x;case h_2=>cases x
 rename_i cs G;cases x;obtain⟨O,V,us,g1,g2,g3⟩:=xm G L;have z:=zA3 L;have v:vals.length=len:=Z;have f:=Lh (w:=w) (ty:=.bool) (uss:=us.map λu=>[u]) he h0 h4 (by rw[v];exact h3) (by simp[g2]) g3;rw[<- z,<- h1,z,v]at f;have A:(us.map λu=>[u]).flatten=us:=by
  clear f g3 g2 g1;induction us with
  |nil=>rfl|cons u us X=>simp[X]
 rw[A]at f;refine⟨_,_,f,λb=>D b\/b=w.heap.size,E,h.newData _,w.heap.size,0,us,by rw[O,h2],.inr rfl,λj u hj=>?_,?_⟩;rw[zQ];show(w.alloc _).cell? ⟨w.heap.size,j,none⟩=some u;rw[kX];simpa using hj;exact zA4 (C:=⟨w,D,σ.m,E⟩) (C':=⟨w.alloc (.cells us.toArray e),λb=>D b\/b=w.heap.size,σ.m,E⟩) ⟨λb hb=>.inl hb,λb hb=>kC w _ b (h.dlt b hb)⟩ (λnm g=>by rw[V]at g;cases g) g1
def aFw(nx:Nat)(e:TypeId)(ty:Ty)(bytes:Nat)(n:Int):Core:=
 {need:=[0<=n,(bytes:Int)*n<=281474976710656,n<=9223372036854775807],val:=.buf nx (Dc n),upd:=[(nx,.buf e ty (Et n ty.dflt) [])],new:=some nx}
def aFv(nx:Nat)(e:TypeId)(ty:Ty)(bytes:Nat)(n:Int):Core:=
 {need:=[0<=n,(bytes:Int)*n<=281474976710656,n<=9223372036854775807],val:=.buf nx 0,upd:=[(nx,.buf e ty [] [])],new:=some nx}
def zeroCells:Ty->Lv|.int k=>[.int k 0]|.bool=>[.bool false]|.str=>[.string ByteArray.empty]|.sl _=>[.slice none 0 0]|.pair a b=>zeroCells a++zeroCells b
def gP(w:World)(D:Nat->Prop):∀t:Ty,ag w D t t.dflt (zeroCells t)|.int _|.bool|.str=>rfl|.sl e=>bw w D e|.pair a b=>⟨_,_,rfl,gP w D a,gP w D b⟩
def KF:Ty->Value->Bool|.int k,.int k' n=>decide (k=k')&&decide (n=0)|.bool,.bool b=>!b|.str,.string s=>s.data.size==0|.sl _,.slice none 0 0=>true|_,_=>false
def WV{t:Ty}(h:KF t v=true):zeroCells t=[v]:=by
 unfold KF at h;split at h;simp only[qC,qE]at h;obtain⟨rfl,rfl⟩:=h;rfl;simp only[yC]at h;subst h;rfl;rename_i s;have:s=ByteArray.empty:=by
  cases s with|mk d=>
   have:d=#[]:=Array.eq_empty_of_size_eq_zero (by simpa using h);subst this;rfl
 rw[this];rfl;rfl;cases h
def isZero:Ty->Lv->Option (Lv)
 |.pair a b,l=>match isZero a l with|some r=>isZero b r|none=>none
 |.int k,v::r=>if KF (.int k) v then some r else none|.bool,v::r=>if KF .bool v then some r else none|.str,v::r=>if KF .str v then some r else none|.sl e,v::r=>if KF (.sl e) v then some r else none|.int _,[]|.bool,[]|.str,[]|.sl _,[]=>none
def om{t:Ty}{r b:Lv}(h:(if KF t v then some r else none)=some b):v::r=zeroCells t++b:=by
 split at h;rename_i e;cases h;rw[WV e];rfl;cases h
def rE:∀{t:Ty}{l r:Lv},isZero t l=some r->l=zeroCells t++r
 |.int k,v::l,r,h=>by simp only[isZero]at h;exact om h|.bool,v::l,r,h=>by simp only[isZero]at h;exact om h|.str,v::l,r,h=>by simp only[isZero]at h;exact om h|.sl _,v::l,r,h=>by simp only[isZero]at h;exact om h|.int _,[],r,h=>by simp[isZero]at h|.bool,[],r,h=>by simp[isZero]at h|.str,[],r,h=>by simp[isZero]at h|.sl _,[],r,h=>by simp[isZero]at h|.pair a b,l,r,h=>by
  simp only[isZero]at h;split at h;rename_i f e;rw[rE e,rE h];simp[zeroCells];cases h
def vy(P:Program)(e:TypeId)(ty:Ty):Option Nat:=match P.info? e with
 |some i=>match i.zero with
  |some z=>match isZero ty z.cells.toList with
   |some []=>if i.size=ty.sz then some i.bytes else none|_=>none
  |none=>none
 |none=>none
def jD{e:TypeId}{bytes:Nat}(h:vy P e ty=some bytes):∃i z,P.info? e=some i/\i.zero=some z/\i.size=ty.sz/\i.bytes=bytes/\z.cells.toList=zeroCells ty:=by
 unfold vy at h;split at h;rename_i i hi;split at h;rename_i z b;split at h;rename_i g;split at h;rename_i f;cases h;exact⟨i,z,hi,b,f,rfl,by have:=rE g;simpa using this⟩;cases h;cases h;cases h;cases h
def bm:∀t:Ty,(zeroCells t).length=t.sz|.int _|.bool|.str|.sl _=>rfl|.pair a b=>by simp[zeroCells,Ty.sz,bm a,bm b]
def aCJ(P:Program)(nx:Nat)(t:TypeId)(l c:AV)(same:Bool):Option Core:=
 match db P t with
 |some e=>match P4 P e with
  |some ty=>match vy P e ty with
   |some bytes=>match l,c with
    |.dat (.int _) l,.dat (.int _) c=>if same then some (aFw nx e ty bytes c)else
      match l with
      |.ofNat 0=>some (aFv nx e ty bytes c)|_=>none
    |_,_=>none
   |none=>none
  |none=>none
 |none=>none
def o9(z:Array Value)(sz:Nat)(g:z.size=sz)(f:0<sz)(n:Nat):(madeCells z (n*sz)).toList=(List.replicate n z.toList).flatten:=by
 apply xM;intro j;have i:(List.replicate n z.toList).flatten.length=n*sz:=by
  rw[fS sz _ (λus b=>by rw[gU b];simpa using g),wS]
 by_cases r:j<n*sz;have v:j/sz<n:=(Nat.div_lt_iff_lt_mul f).2 r;have h:j%sz<sz:=Nat.mod_lt _ f;have x:(List.replicate n z.toList)[j/sz]?=some z.toList:=by rw[wY,if_pos v]
 have e:=iR sz (List.replicate n z.toList) (λus b=>by rw[gU b];simpa using g) _ _ x;have A:((List.replicate n z.toList).flatten)[j]?=z.toList[j%sz]?:=by
  have u:=yS (λl=>l[j%sz]?) e;have y:j/sz*sz+j%sz=j:=by rw[Nat.mul_comm];exact Nat.div_add_mod j sz
  simp only[vX,if_pos h,vM,y]at u;exact u
 rw[A];simp only[madeCells,qBu,Array.toList_range,qX,vP r,zY,g];simp[g,h];rw[zD (by rw[vU,size_madeCells];omega),zD Z]
def YQ(h:aQ S σ a w D E){nx:Nat}{l c:AV}{same:Bool}{co:Core}{vl vc:Value}
  (x:same=true->vl=vc) (b:aCJ S.P nx t l c same=some co) (L:∀q∈co.need,q) (hl:l.rel S.P ⟨w,D,σ.m,E⟩ vl) (hcr:c.rel S.P ⟨w,D,σ.m,E⟩ vc) (hu:∀k,co.new=some k->Unm k σ):
  ∃r w',(Instr.makeSlice t vl vc).run S.P w=.ok r w'/\Outcome S ⟨σ.T,upM σ.m co.upd,σ.sv⟩ a co.val r w':=by
 unfold aCJ at b;split at b;case h_2=>cases b
 rename_i e he;split at b;case h_2=>cases b
 rename_i ty hty;split at b;case h_2=>cases b
 rename_i bytes hz;obtain⟨i,z,hi,hz1,X,V,O⟩:=jD hz;have hue:=cI he;have hzs:z.cells.size=ty.sz:=by rw[<- vU,O,bm]
 split at b;case h_2=>cases b
 rename_i kl l kc c;simp only[AV.rel,ag,vH,vW]at hl hcr;subst hl hcr;obtain⟨c,rfl⟩:∃j:Int,j=c:=⟨c,rfl⟩;obtain⟨l,rfl⟩:∃j:Int,j=l:=⟨l,rfl⟩;have rows:∀(n:Nat),(madeCells z.cells (n*ty.sz)).toList=(List.replicate n (zeroCells ty)).flatten:=λn=>by
  rw[o9 z.cells ty.sz hzs (zA9 ty) n,O]
 have elem:∀(n:Nat) (i:Nat) (y:ty.den),(List.replicate n ty.dflt)[i]?=some y->ag w D ty y (((List.replicate n (zeroCells ty)).flatten.drop (i*ty.sz)).take ty.sz):=by
  intro n i y G;rw[wY]at G;split at G;rename_i u;cases G;rw[iR ty.sz _ (λus hus=>by rw[gU hus,bm]) i (zeroCells ty) (by rw[wY,if_pos u])];exact gP w D ty;cases G
 split at b;rename_i hsm;cases b;have h0:(0:Int)<=c:=L _ (.head _);have h1:(bytes:Int)*c<=281474976710656:=L _ (.tail _ (.head _));have h2:c<=9223372036854775807:=L _ (.tail _ (.tail _ (.head _)));have hlc:=x hsm;simp only[qDt]at hlc;obtain⟨rfl,rfl⟩:=hlc;obtain⟨n,rfl⟩:=qCa h0;have hb:i.bytes*n<=281474976710656:=by rw[V];have h3:((bytes*n:Nat):Int)<=281474976710656:=(by rw[qDv];exact h1);omega
 obtain⟨w',r1,A,f⟩:=run_make_full (P:=S.P) w 0 t e i z ty.sz hue hi hz1 X kl kl n hb (by unfold maxLen;omega) (wU _);refine⟨_,w',r1,?_⟩;rw[rows n]at A;have u:w.heap.size<w'.heap.size:=by
  rcases A.2 with⟨v,_⟩|⟨g,cap,cur,v,_,hh,_⟩;cases v;simp only[yF,wQ,qAd,vW,yD]at v;rw[v.1];exact(vV.1 hh).1
 have hrl:(List.replicate n ty.dflt).length=n:=wS;have out:=N7 h (hu nx rfl) (xs:=List.replicate n ty.dflt) (cap:=n) (e:=e) ⟨f.os,f.tape,f.output,f.size,λk hk=>f.block k hk (by simp)⟩ u (by rw[hrl];exact A) (elem n);rw[hrl]at out;simpa[aFw,Et,Dc]using out;split at b;rename_i hl0;cases b;have h0:(0:Int)<=c:=L _ (.head _);have h1:(bytes:Int)*c<=281474976710656:=L _ (.tail _ (.head _));have h2:c<=9223372036854775807:=L _ (.tail _ (.tail _ (.head _)));obtain⟨n,rfl⟩:=qCa h0;have hb:i.bytes*n<=281474976710656:=by rw[V];have h3:((bytes*n:Nat):Int)<=281474976710656:=(by rw[qDv];exact h1);omega
 obtain⟨w',r1,A,f⟩:=run_make_own (P:=S.P) w 0 t e i z ty.sz hue hi hz1 X kl kc n hb (by unfold maxLen;omega) (wU _);refine⟨_,w',r1,?_⟩;have u:w.heap.size<w'.heap.size:=by
  rcases A.2 with⟨v,_⟩|⟨g,cap,cur,v,_,hh,_⟩;cases v;simp only[yF,wQ,qAd,vW,yD]at v;rw[v.1];exact(vV.1 hh).1
 exact N7 h (hu nx rfl) (xs:=[]) (cap:=n) (e:=e) ⟨f.os,f.tape,f.output,f.size,λk hk=>f.block k hk (by simp)⟩ u A (λi y G=>by simp at G);cases b
end Go.Eng
namespace Go.Eng
open Go.RowKit
def aBW(ty:Ty):RV->Option (List Prop×List ty.den)|(.dat (.sl ty') ys,_)=>if h:ty'=ty then some ([],h▸ys)else none|(.buf _ n,some (.buf _ ty' ys []))=>if h:ty'=ty then some ([ys.length=n],h▸ys)else none|(.val (.slice none 0 0),_)=>some ([],[])|_=>none
variable {w:World}{D:Nat->Prop}
def my{ty:Ty}{b:Nat}:∀(ys:List ty.den) (off:Nat),
  (∀(i:Nat) (y:ty.den),ys[i]?=some y->∃ue,cX w b (off+i*ty.sz) ue/\ag w D ty y ue)->
  ∃news:Lv,news.length=ys.length*ty.sz/\cX w b off news/\(∀u∈news,u.oneCell'=true)/\
   ∀(i:Nat) (y:ty.den),ys[i]?=some y->ag w D ty y ((news.drop (i*ty.sz)).take ty.sz)
 |[],_,_=>⟨[],by simp,λj u e=>by simp at e,λu v=>by simp at v,λi y V=>by simp at V⟩|y::ys,off,h=>by
  obtain⟨ue,g1,g2⟩:=h 0 y rfl;have x:=aY g2;obtain⟨news,T,O,L,n4⟩:=my ys (off+ty.sz) (λi z f=>by
   obtain⟨r,G,A⟩:=h (i+1) z (by simpa using f);refine⟨r,?_,A⟩;rw[show off+ty.sz+i*ty.sz=off+(i+1)*ty.sz by rw[zX,yM];omega];exact G)
  refine⟨ue++news,by rw[qF,T,x,wO,zX,yM];omega,?_,?_,?_⟩;intro j u e;rcases zT j ty.sz with X|hge;rw[vS Z]at e;have:=g1 j u e;simpa using this;rw[vJ Z]at e;have:=O (j-ue.length) u e;rw[show off+ty.sz+(j-ue.length)=off+j by omega]at this;exact this;intro u v;rcases qJ.1 v with g|g;exact gm g2 u g;exact L u g;intro i z f;cases i with
  |zero=>
   simp at f;subst f;rw[xX,qEc,xK Z,qO Z];exact g2
  |succ i=>
   rw[show(i+1)*ty.sz=ue.length+i*ty.sz by rw[zX,yM,x];omega,<- xA,qBz];exact n4 i z (by simpa using f)
variable {P:Program}
def tt{C:Ctx}{t:Ty}{xs:List t.den}{raw:Lv}(v:raw.length=xs.length*t.sz)(h:ct P C t xs [] raw):∀u∈raw,u.oneCell'=true:=by
 intro u f;obtain⟨j,e⟩:=kY.1 f;have r:=(qG.1 e).1;have b:=zA9 t;have i:j/t.sz<xs.length:=(Nat.div_lt_iff_lt_mul b).2 Z;have g:j%t.sz<t.sz:=Nat.mod_lt _ b;have:=h (j/t.sz) _ (qB i);simp only[List.lookup]at this;refine gm this u (kY.2 ⟨j%t.sz,?_⟩);rw[vX,if_pos g,vM,Nat.mul_comm,Nat.div_add_mod];exact e
variable {E:Nat->Ent}
def KW{S:Base}{σ:Sig}{a:Act}(h:aQ S σ a w D E){ty:Ty}{x:RV}{ns:List Prop}{ys:List ty.den}{v:Value}
  (hb:x.2=cL σ.m x.1) (z:aBW ty x=some (ns,ys)) (hn:∀q∈ns,q) (hx:x.1.rel S.P ⟨w,D,σ.m,E⟩ v):
  (v=.slice none 0 0/\ys=[])\/∃(r:Addr) (c:Nat) (news:Lv),v=.slice (some r) ys.length c/\news.length=ys.length*ty.sz/\
   (∀j u,news[j]?=some u->w.cell? (r.add j)=some u)/\(∀u∈news,u.oneCell'=true)/\
   ∀(i:Nat) (y:ty.den),ys[i]?=some y->ag w D ty y ((news.drop (i*ty.sz)).take ty.sz):=by
 unfold aBW at z;split at z;rename_i A f b2;split at z;rename_i ht;subst ht;cases z;obtain⟨ys,rfl⟩:∃j:List A.den,j=f:=⟨f,rfl⟩;obtain⟨ao,cap,g1,g2,g3,g4,g5⟩:=hx;simp only[vH,vW]at g1;subst g1;cases ao with
 |none=>
  have hc0:=g3 rfl;have hys:ys=[]:=vY Z;subst hys;subst hc0;exact .inl ⟨rfl,rfl⟩
 |some r=>
  obtain⟨news,n1,n2,n3,n4⟩:=my (w:=w) (D:=D) (b:=r.block) ys r.off (λi y hy=>by
   obtain⟨a',ue,e,T,r2,r3⟩:=g5 i y hy;cases e;exact⟨ue,r2,r3⟩)
  refine .inr ⟨r,cap,news,rfl,n1,λj u hj=>?_,n3,n4⟩;have hjn:=(qG.1 hj).1;have V:=g4 r rfl (by
   rcases Nat.eq_zero_or_pos (List.length ys)with h0|h0;rw[n1,show List.length ys=0 from h0,xX]at hjn;omega;exact h0)
  have:r.add j=⟨r.block,r.off+j,none⟩:=by
   cases r with|mk b o s=>simp only at V;subst V;exact xQ b o _
  rw[this];exact n2 j u hj
 cases z;rename_i G n el A f;split at z;rename_i ht;subst ht;cases z;obtain⟨ys,rfl⟩:∃j:List A.den,j=f:=⟨f,rfl⟩;have hm:σ.m G=some (.buf el A ys []):=hb.symm;have O:ys.length=n:=hn _ (by simp);have hv:=(hx _ hm).2 O;obtain⟨raw,T,r2⟩:=h.bl G _ hm;rw[<- O]at hv;cases L:(E G).isNil with
 |true=>
  have X:(E G).handle ys.length=.slice none 0 0:=by unfold Ent.handle;rw[L];rfl
  rw[X]at T;rcases T.2 with⟨_,hz⟩|⟨g,cap,cur,hq,_⟩;exact .inl ⟨hv.trans X,vY hz⟩;cases hq
 |false=>
  have X:(E G).handle ys.length=.slice (some ⟨(E G).b,0,none⟩) ys.length (E G).cap:=by unfold Ent.handle;rw[L];rfl
  rw[X]at T;exact .inr ⟨⟨(E G).b,0,none⟩,(E G).cap,raw,hv.trans X,T.1,T.cells rfl,tt T.1 r2,λi y hy=>by have:=r2 i y hy;simpa only[List.lookup]using this⟩
 cases z;cases z;simp only[AV.rel]at hx;exact .inl ⟨hx,rfl⟩;cases z
def mI(n bytes:Nat):List Prop:=[n*bytes<=140737488355328,n<=9223372036854775807]
def aIU(P:Program)(nx:Nat)(t:TypeId)(s x:RV):Option Core:=
 match db P t with
 |some e=>match s with
  |(.buf nm n,some (.buf el ty xs []))=>if el=e then match aBW ty x,vy P e ty with
   |some (ns,ys),some bytes=>some {need:=[xs.length=n]++ns++mI (n+ys.length) bytes,val:=.buf nm (n+ys.length),upd:=[(nm,.buf el ty (Ee xs ys) [])]}|_,_=>none
   else none
  |(.val (.slice none 0 0),_)=>match P4 P e with
   |some ty=>match aBW ty x,vy P e ty with
    |some (ns,ys),some bytes=>some {need:=ns++mI ys.length bytes,val:=.buf nx ys.length,upd:=[(nx,.buf e ty ys [])],new:=some nx}|_,_=>none
   |none=>none
  |_=>none
 |none=>none
def xb{C:Ctx}{t:Ty}{xs ys:List t.den}{raw news:Lv}(g:raw.length=xs.length*t.sz)(h:ct P C t xs [] raw)
  (j:∀(i:Nat) (y:t.den),ys[i]?=some y->ag C.w C.D t y ((news.drop (i*t.sz)).take t.sz)):ct P C t (xs++ys) [] (raw++news):=by
 intro i y b;simp only[List.lookup];rcases zT i xs.length with e|f;rw[vS e]at b;have:=h i y b;simp only[List.lookup]at this;have hm:i*t.sz+t.sz<=raw.length:=by
  have:=wH t.sz (show i+1<=xs.length from e);rw[zX,yM]at this;omega
 rw[gY Z,xK (by rw[wM];omega)];exact this;rw[vJ f]at b;have:=j _ y b;rw[Nat.sub_mul,<- g]at this;have hm:raw.length<=i*t.sz:=by rw[g];exact wH _ f
 rw[qDn,yE hm,kR];exact this
def mZ{t ty e:TypeId}{i:TypeInfo}(b:P.underlying t=some (.slice e))(hi:P.info? e=some i)(base:Option Addr)(n cap:Nat)(f:n<=cap)(g:Addr)(c:Nat):
  (Builtin.append_ #[t,t] ty #[.slice base n cap,.slice (some g) 0 c]).run P w=.ok (.slice base n cap) w:=by
 cases base<;>simp[Builtin.append_,vN b,sizeOf,typeInfo,hi,Builtin.lenOf,Builtin.firstCells,f,loadCells,loadCellsFrom,storeCells]
def aDv{S:Base}{σ:Sig}{a:Act}(h:aQ S σ a w D E){nx:Nat}{t v:TypeId}{s x:RV}{c:Core}{vs vx:Value}
  (hbs:s.2=cL σ.m s.1) (hbx:x.2=cL σ.m x.1) (G:aIU S.P nx t s x=some c) (hn:∀q∈c.need,q)
  (hs:s.1.rel S.P ⟨w,D,σ.m,E⟩ vs) (hx:x.1.rel S.P ⟨w,D,σ.m,E⟩ vx) (hu:∀k,c.new=some k->Unm k σ):
  ∃r w',(Builtin.append_ #[t,t] v #[vs,vx]).run S.P w=.ok r w'/\Outcome S ⟨σ.T,upM σ.m c.upd,σ.sv⟩ a c.val r w':=by
 unfold aIU at G;split at G;case h_2=>cases G
 rename_i e he;have u:=cI he;split at G;rename_i f n el ty xs;split at G;case isFalse=>cases G
 rename_i hel;subst hel;split at G;case h_2=>cases G
 rename_i ns ys bytes hsrc hz;cases G;obtain⟨i,z,hi,hz1,A,hz3,hz4⟩:=jD hz;have hzs:z.cells.size=ty.sz:=by rw[<- vU,hz4,bm]
 have hm:σ.m f=some (.buf el ty xs []):=hbs.symm;have X:xs.length=n:=hn _ (by simp);have hb1:(n+ys.length)*bytes<=140737488355328:=hn _ (by simp only[mI,qJ];exact .inr (.head _));have hb2:n+ys.length<=9223372036854775807:=hn _ (by simp only[mI,qJ];exact .inr (.tail _ (.head _)));have hv:=(hs _ hm).2 X;obtain⟨raw,r1,r2⟩:=h.bl f _ hm;rw[X]at r1;have fin:∀(w':World) (v':Value) (e':Ent) (O:Lv),v'=e'.handle (n+ys.length)->
   (ys.length=0->e'=E f)->w'.os=w.os->w'.tape=w.tape->w'.output=w.output->w.heap.size<=w'.heap.size->
   (∀k,k<w.heap.size->((E f).isNil=false->k≠(E f).b)->w'.heap[k]?=w.heap[k]?)->
   (e'.isNil=false->(e'.b=w.heap.size/\w.heap.size<w'.heap.size)\/((E f).isNil=false/\e'.b=(E f).b))->
   w'.ownsRow 0 el ty.sz v' (n+ys.length) (raw++O)->
   (∀(i:Nat) (y:ty.den),ys[i]?=some y->ag w D ty y ((O.drop (i*ty.sz)).take ty.sz))->
   Outcome S ⟨σ.T,upM σ.m [(f,.buf el ty (xs++ys) [])],σ.sv⟩ a (.buf f (n+ys.length)) v' w':=by
  intro w' v' e' O hv' hsame ho ht2 hout hsz hw hee hown hel;have hl2:(xs++ys).length=n+ys.length:=by rw[qF,X]
  have hesame:(Blk.buf el ty xs []).len=(Blk.buf el ty (xs++ys) []).len->e'=E f:=λh0=>hsame (by simp only[Blk.len,qF]at h0;omega);have hle:(Blk.buf el ty xs []).len<=(Blk.buf el ty (xs++ys) []).len:=by simp only[Blk.len,qF];omega
  obtain⟨L,N⟩:=h.turnLater (w':=w') (b:=.buf el ty (xs++ys) []) hm (e:=e') rfl hle hesame hw;refine⟨D,upE E f e',h.turnBlk hm rfl hle hesame ho ht2 hout hsz hw hee ⟨raw++O,by rw[hl2,<- hv'];exact hown,?_⟩,λb hb=>?_⟩;exact xb (by rw[r1.1,X]) (bv L (λk hk=>N k) r2) (λi y hy=>ax L.D L.w (hel i y hy));replace hb:upM σ.m [(f,.buf el ty (xs++ys) [])] f=some b:=hb;rw[dc,if_pos rfl]at hb;cases hb;refine⟨by simp only[Blk.len];omega,λ_=>?_⟩;have:upE E f e' f=e':=by simp[upE]
  show v'=(upE E f e' f).handle _;rw[this];exact hv'
 rcases KW h hbx hsrc (λq hq=>hn q (by simp[hq])) hx with⟨rfl,rfl⟩|⟨ad,cx,news,rfl,n1,n2,n3,n4⟩;refine⟨vs,w,?_,?_⟩;rw[hv];exact run_append_owned_none (P:=S.P) w 0 t v el i ty.sz u hi _ n raw r1;exact fin w vs (E f) [] (by simpa using hv) (λ_=>rfl) rfl rfl rfl (qM _) (λ_ _ _=>rfl) (λhi=>.inr ⟨hi,rfl⟩) (by rw[hv];simpa using r1) (λi y hy=>by simp at hy);by_cases hy0:ys.length=0;have hys:ys=[]:=vY hy0;subst hys;have hvs:∃b n' cap,vs=.slice b n' cap/\n'<=cap/\n'=n:=by
  rw[hv];rcases r1.2 with⟨hq,hz⟩|⟨g,cap,cur,hq,_,_,hle,_⟩;exact⟨none,0,0,hq,qM _,hz.symm⟩;exact⟨_,_,_,hq,hle,rfl⟩
 obtain⟨b,n',cap,hvv,hle,_⟩:=hvs;refine⟨vs,w,?_,?_⟩;rw[hvv];exact mZ u hi b n' cap hle ad cx;exact fin w vs (E f) [] (by simpa using hv) (λ_=>rfl) rfl rfl rfl (qM _) (λ_ _ _=>rfl) (λhi=>.inr ⟨hi,rfl⟩) (by rw[hv];simpa using r1) (λi y hy=>by simp at hy);have h63:n+ys.length<=maxLen:=by unfold maxLen;omega
 obtain⟨v',w',q1,q2,j,_⟩:=qDy (P:=S.P) w 0 t v el i z ty.sz bytes u hi hz1 A hz3 hzs (zA9 ty) _ n raw r1 ad ys.length cx news n1 n2 n3 h63 hb1 (wU _);cases V:(E f).isNil with
 |true=>
  have e3:(E f).handle n=.slice none 0 0:=by unfold Ent.handle;rw[V];rfl
  have hn0:n=0:=by
   rw[e3]at r1;rcases r1.2 with⟨_,hz⟩|⟨g,cap,cur,hq,_⟩;exact hz;cases hq
  subst hn0;have hr:=qDz (P:=S.P) w t v el i z u hi hz1 ad ys.length cx news (by rw[A];exact n1) n2 Z Z (by rw[hz3];rw[zQ]at hb1;omega);rw[e3]at q1 j;rw[hr]at q1;cases q1;refine⟨_,_,by rw[hv,e3];exact hr,fin _ _ ⟨w.heap.size,grownCap w ys.length 0 el,false,noR⟩ news (by simp[Ent.handle]) (λh0=>(hy0 h0).elim) j.os j.tape j.output j.size
   (λk hk _=>j.block k hk (by simp[Value.ownBlock])) (λ_=>.inl ⟨rfl,by rw[yG];simp⟩) q2 n4⟩
 |false=>
  have e3:(E f).handle n=.slice (some ⟨(E f).b,0,none⟩) n (E f).cap:=by unfold Ent.handle;rw[V];rfl
  rw[e3]at r1 q1 j;have hblk:∀k,k<w.heap.size->((E f).isNil=false->k≠(E f).b)->w'.heap[k]?=w.heap[k]?:=λk hk hne=>j.block k hk (by simp[Value.ownBlock];exact hne V);by_cases hroom:n+ys.length<=(E f).cap;obtain⟨w2,p1,p2,p3⟩:=run_append_fits (P:=S.P) w 0 t v el i ty.sz u hi A (E f).b n (E f).cap raw r1 ad ys.length cx news n1 n2 n3 hroom;rw[p1]at q1;cases q1;exact⟨_,_,by rw[hv,e3];exact p1,fin _ _ (E f) news (by unfold Ent.handle;rw[V];rfl) (λ_=>rfl) j.os j.tape j.output j.size hblk (λhi=>.inr ⟨hi,rfl⟩) q2 n4⟩;have hr:=run_append_grow (P:=S.P) w t v el i z u hi hz1 ⟨(E f).b,0,none⟩ n (E f).cap raw (by rw[A];exact r1.1) (r1.cells rfl) ad ys.length cx news (by rw[A];exact n1) n2 Z Z
   (growslice_fits Z (by rw[hz3];exact hb1))
  rw[hr]at q1;cases q1;refine⟨_,_,by rw[hv,e3];exact hr,fin _ _ ⟨w.heap.size,grownCap w (n+ys.length) (E f).cap el,false,noR⟩ news (by simp[Ent.handle]) (λh0=>(hy0 h0).elim) j.os j.tape j.output j.size hblk
   (λ_=>.inl ⟨rfl,by rw[yG];simp⟩) q2 n4⟩
 rename_i b2;split at G;case h_2=>cases G
 rename_i ty hty;split at G;case h_2=>cases G
 rename_i ns ys bytes hsrc hz;cases G;obtain⟨i,z,hi,hz1,A,hz3,hz4⟩:=jD hz;have hzs:z.cells.size=ty.sz:=by rw[<- vU,hz4,bm]
 have hb1:ys.length*bytes<=140737488355328:=hn _ (by simp only[mI,qJ];exact .inr (.head _));have hb2:ys.length<=9223372036854775807:=hn _ (by simp only[mI,qJ];exact .inr (.tail _ (.head _)));simp only[AV.rel]at hs;subst hs;have asNil:∀r,r=Value.slice none 0 0->ys=[]->Outcome S ⟨σ.T,upM σ.m [(nx,.buf e ty ys [])],σ.sv⟩ a (.buf nx ys.length) r w:=by
  intro r hr hy;subst hr hy;have e3:upE E nx (⟨0,0,true,noR⟩:Ent) nx=⟨0,0,true,noR⟩:=by simp[upE]
  refine⟨D,upE E nx ⟨0,0,true,noR⟩,h.newBlk (hu nx rfl) (Below.refl _ _) (λh=>by cases h) ⟨[],qCz _ _ _ _,λi y hy=>by simp at hy⟩,λb hb=>?_⟩;replace hb:upM σ.m [(nx,.buf e ty [] [])] nx=some b:=hb;rw[dc,if_pos rfl]at hb;cases hb;refine⟨qM _,λ_=>?_⟩;show _=(upE E nx _ nx).handle _;rw[e3];rfl
 rcases KW h hbx hsrc (λq hq=>hn q (by simp[hq])) hx with⟨rfl,hy⟩|⟨ad,cx,news,rfl,n1,n2,n3,n4⟩;exact⟨_,w,run_append_owned_none (P:=S.P) w 0 t v e i ty.sz u hi _ 0 [] (qCz _ _ _ _),asNil _ rfl hy⟩;by_cases hy0:ys.length=0;have hys:ys=[]:=vY hy0;refine⟨_,w,?_,asNil _ rfl hys⟩;rw[hy0];exact mZ u hi none 0 0 (qM _) ad cx;have hr:=qDz (P:=S.P) w t v e i z u hi hz1 ad ys.length cx news (by rw[A];exact n1) n2 Z Z (by rw[hz3];omega);obtain⟨v',w',q1,q2,j,_⟩:=qDy (P:=S.P) w 0 t v e i z ty.sz bytes u hi hz1 A hz3 hzs (zA9 ty) _ 0 [] (qCz _ _ _ _) ad ys.length cx news n1 n2 n3 (by unfold maxLen;omega) (by rw[zQ];exact hb1) (wU _);rw[hr]at q1;cases q1;refine⟨_,_,hr,N7 h (hu nx rfl) ⟨j.os,j.tape,j.output,j.size,λk hk=>j.block k hk (by simp[Value.ownBlock])⟩ (by rw[yG];simp) (by simpa using q2) (by simpa using n4)⟩;cases G
end Go.Eng
namespace Go.Eng
open Go.RowKit
abbrev Gg{α:Type}(n:Nat)(x:α):List α:=List.replicate n x
def aJG(P:Program):Nat->TypeId->Option (Nat×Ty)
 |0,_=>none|f+1,t=>match P.underlying t with
  |some (.array n e)=>match aJG P f e with
   |some (c,ty)=>some (n*c,ty)|none=>none
  |_=>match P4 P t with
   |some ty=>some (1,ty)|none=>none
def rD(ty:Ty):Nat->Lv->Bool
 |0,l=>l.isEmpty|n+1,l=>match isZero ty l with
  |some r=>rD ty n r|none=>false
def zj{ty:Ty}:∀{n:Nat}{l:Lv},rD ty n l=true->l=(List.replicate n (zeroCells ty)).flatten
 |0,l,h=>by simpa[rD]using h|n+1,l,h=>by
  simp only[rD]at h;split at h;rename_i r b;rw[rE b,zj h,qBv,qBe];cases h
def aFD(P:Program)(t:TypeId):Bool:=match P.underlying t with|some (.array _ _)=>true|_=>false
def Aw(P:Program)(nx:Nat)(elem:TypeId):Option Core:=
 if aFD P elem then match aJG P 4 elem,(P.info? elem).bind (·.zero)with
  |some (n,ty),some z=>if rD ty n z.cells.toList=true/\0<n/\n<=1000000 then
    some {val:=.ptr nx n 0 0,upd:=[(nx,.buf elem ty (Gg n ty.dflt) [])],new:=some nx} else none
  |_,_=>none
 else none
variable {c:Core}{S:Base}{D:Nat->Prop}{a:Act}{w:World}{E:Nat->Ent}{σ:Sig}
def J6(h:aQ S σ a w D E){nx:Nat}{elem:TypeId}
  (u:Aw S.P nx elem=some c) (hu:∀k,c.new=some k->Unm k σ):
  ∃r w',(Instr.alloc elem true (.tuple #[])).run S.P w=.ok r w'/\Outcome S ⟨σ.T,upM σ.m c.upd,σ.sv⟩ a c.val r w':=by
 unfold Aw at u;split at u;case isFalse=>cases u
 split at u;case h_2=>cases u
 rename_i n ty z X x;split at u;case isFalse=>cases u
 rename_i hk;obtain⟨A,O,hn1⟩:=hk;cases u;cases hi:S.P.info? elem with
 |none=>rw[hi]at x;cases x
 |some i=>
  have G:i.zero=some z:=by rw[hi]at x;exact x
  have g:=zj A;have v:∀us∈List.replicate n (zeroCells ty),us.length=ty.sz:=λus L=>by rw[(List.mem_replicate.1 L).2,bm]
  have e:z.cells.toList.length=n*ty.sz:=by rw[g,fS ty.sz _ v,wS]
  have e3:upE E nx (⟨w.heap.size,n,false,noR⟩:Ent) nx=⟨w.heap.size,n,false,noR⟩:=by simp[upE]
  have f:(List.replicate n ty.dflt).length=n:=wS;refine⟨.pointer (some ⟨w.heap.size,0,none⟩),w.alloc (.cells z.cells elem),?_,D,upE E nx ⟨w.heap.size,n,false,noR⟩,
   h.newBlk (hu nx rfl) (mJ w _) (λ_=>⟨rfl,by rw[yG];simp⟩) ⟨z.cells.toList,⟨?_,.inr ⟨w.heap.size,n,z.cells,?_,wU _,?_,?_,?_,?_,?_⟩⟩,?_⟩,λb hb=>?_⟩
  simp[Instr.alloc,zeroValue,typeInfo,hi,G,newVar,newRow];show _=(List.replicate n ty.dflt).length*ty.sz;rw[f];exact e;simp[Ent.handle];show(w.heap.push _)[w.heap.size]?=_;simp;show(List.replicate n ty.dflt).length<=n;omega;unfold maxLen;omega;rw[<- vU];exact e;show z.cells.toList.take ((List.replicate n ty.dflt).length*ty.sz)=_;rw[f,<- e,yQ];intro j y V;simp only[List.lookup];have hj:j<n:=by have:=(qG.1 V).1;rwa [f]at this
  have ey:y=ty.dflt:=by
   have:=(qG.1 V).2;simpa using this.symm
  rw[g,iR ty.sz _ v j (zeroCells ty) (by rw[wY,if_pos hj]),ey];exact gP _ _ ty;replace hb:upM σ.m [(nx,.buf elem ty (List.replicate n ty.dflt) [])] nx=some b:=hb;rw[dc,if_pos rfl]at hb;cases hb;refine⟨xO f.symm,λ_=>⟨O,?_,?_⟩⟩;show(upE E nx _ nx).isNil=false;rw[e3];show _=Value.pointer (some ⟨(upE E nx _ nx).b,_,none⟩);rw[e3];simp
def Au(P:Program)(t:TypeId)(p:RV):Option Core:=match P.underlying t with
 |some (.array n e)=>match p with
  |(.ptr nm g j 0,some (.buf _ ty xs _))=>if sizeT P e=some ty.sz then some {need:=[j=0,g=n,xs.length=g],val:=.view nm n} else none|_=>none
 |_=>none
def J5(h:aQ S σ a w D E){p:RV}{t:TypeId}{v:Value}
  (hb:p.2=cL σ.m p.1) (f:Au S.P t p=some c) (u:∀q∈c.need,q) (G:p.1.rel S.P ⟨w,D,σ.m,E⟩ v):
  ∃r,(Instr.sliceAt t v none none none).run S.P w=.ok r w/\c.val.rel S.P ⟨w,D,σ.m,E⟩ r/\c.upd=[]/\c.new=none:=by
 unfold Au at f;split at f;case h_2=>cases f
 rename_i n e z;split at f;case h_2=>cases f
 rename_i y g j el ty xs ov;split at f;case isFalse=>cases f
 rename_i A;cases f;have T:j=0:=u _ (by simp);have O:g=n:=u _ (by simp);have L:xs.length=g:=u _ (by simp);have hm:σ.m y=some (.buf el ty xs ov):=hb.symm;obtain⟨g1,g2⟩:=G _ hm;obtain⟨g3,g4,rfl⟩:=g2 L;subst T O;have i:=bK A w;refine⟨.slice (some ⟨(E y).b,0,none⟩) g g,?_,λV x=>?_,rfl,rfl⟩;simp[Instr.sliceAt,vN z,Instr.sureAddr,Instr.sliceBounds,i,xQ];have e:V=.buf el ty xs ov:=wZ (x.symm.trans hm);subst e;exact⟨g1,λ_=>⟨g4,g,qM _,rfl⟩⟩
def run_copy_cells{P:Program}(w:World)(G L ty elem:TypeId)(sz:Nat)(g e x:Nat)(a:Addr)(b h:Nat)(f:Array Value)(t:TypeId)(cs:Lv)
  (O:P.underlying G=some (.slice elem)) (T:sizeT P elem=some sz)
  (V:w.heap[g]?=some (.cells f t (0,0))) (z:cs.length=Nat.min b e*sz)
  (r:∀j v,cs[j]?=some v->w.cell? (a.add j)=some v) (u:cs.length<=f.size) (X:∀v∈cs,v.oneCell'=true):
  (Builtin.copy_ #[G,L] ty #[.slice (some ⟨g,0,none⟩) e x,.slice (some a) b h]).run P w =
   .ok (.int .i64 (Nat.min b e:Nat)) (w.setRow g (cs++f.toList.drop cs.length).toArray):=by
 have A:=qCt (P:=P) w a cs r;have i:=run_storeCells_at P g 0 t cs 0 f w V (by simpa using u) X;have y:=bK T w;simp only[xZ,zQ,qCq,kR]at i;rw[z]at A;simp[Builtin.copy_,vN O,Builtin.lenOf,Builtin.firstCells,y,A,i,goInt,z]
def E9{P:Program}(w:World)(i j ty elem:TypeId)(sz:Nat)(d a:Option Addr)(e g b f:Nat)(r:P.underlying i=some (.slice elem))(u:sizeT P elem=some sz)(v:Nat.min b e=0):
  (Builtin.copy_ #[i,j] ty #[.slice d e g,.slice a b f]).run P w=.ok (.int .i64 0) w:=by
 have y:∀(x:Addr),(loadCells x 0).run P w=.ok #[] w:=λx=>by simpa using qCt (P:=P) w x [] (by simp)
 have h:=bK u w;cases d<;>cases a<;>simp[Builtin.copy_,vN r,Builtin.lenOf,Builtin.firstCells,h,v,storeCells,y,goInt]
def li(nm:Nat)(el:TypeId)(ty:Ty)(n:Nat)(xs ys:List ty.den)(ns:List Prop):Core:=
 {need:=(xs.length=n)::ns,val:=.dat (.int .i64) (Ey (ys.length:Int) (xs.length:Int)),upd:=[(nm,.buf el ty (Gl xs ys) [])]}
def aDg(P:Program)(t:TypeId)(d s:RV):Option Core:=match db P t with
 |some e=>match d with
  |(.buf nm n,some (.buf el ty xs []))=>if sizeT P e=some ty.sz then match aBW ty s with
   |some (ns,ys)=>some (li nm el ty n xs ys ns)|none=>none
   else none
  |(.view nm n,some (.buf el ty xs []))=>if sizeT P e=some ty.sz then match aBW ty s with
   |some (ns,ys)=>some (li nm el ty n xs ys ns)|none=>none
   else none
  |_=>none
 |none=>none
def Xc{m:Nat->Option Blk}{f:Nat}{b:Blk}(h:m f=some b):upM m [(f,b)]=m:=by
 funext k;rw[dc];split;rename_i e;subst e;exact h.symm;rfl
def JQ(h:aQ S σ a w D E){t sT X e:TypeId}{s:RV}{x n:Nat}{el:TypeId}{ty:Ty}{xs ys:List ty.den}{ns:List Prop}{vd vs:Value}
  (he:db S.P t=some e) (hsz:sizeT S.P e=some ty.sz) (hm:σ.m x=some (.buf el ty xs [])) (hbs:s.2=cL σ.m s.1) (hsrc:aBW ty s=some (ns,ys)) (hn:∀q∈(li x el ty n xs ys ns).need,q)
  (hd:xs.length=n->(vd=.slice none 0 0/\n=0)\/((E x).isNil=false/\∃c,vd=.slice (some ⟨(E x).b,0,none⟩) n c)) (hs:s.1.rel S.P ⟨w,D,σ.m,E⟩ vs):
  ∃r w',(Builtin.copy_ #[t,sT] X #[vd,vs]).run S.P w=.ok r w'/\Outcome S ⟨σ.T,upM σ.m (li x el ty n xs ys ns).upd,σ.sv⟩ a (li x el ty n xs ys ns).val r w':=by
 have hue:=cI he;have f:xs.length=n:=hn _ (by simp[li]);have hns:∀q∈ns,q:=λq hq=>hn q (by simp[li,hq]);have same:xs.length=0\/ys.length=0->(upM σ.m (li x el ty n xs ys ns).upd=σ.m/\(li x el ty n xs ys ns).val=.dat (.int .i64) (0:Int)):=λA=>by
  have e:Gl xs ys=xs:=by
   show List.take xs.length ys++List.drop ys.length xs=xs;rcases A with A|A;rw[vY A];simp;rw[vY A];simp
  refine⟨by simp only[li,e];exact Xc hm,?_⟩;have e2:min (ys.length:Int) (xs.length:Int)=0:=Z;simp only[li,Ey,e2]
 have nothing:∀(dp sp:Option Addr) (dL dC sL sC:Nat),vd=.slice dp dL dC->vs=.slice sp sL sC->dL=xs.length->sL=ys.length->(xs.length=0\/ys.length=0)->
   ∃r w',(Builtin.copy_ #[t,sT] X #[vd,vs]).run S.P w=.ok r w'/\Outcome S ⟨σ.T,upM σ.m (li x el ty n xs ys ns).upd,σ.sv⟩ a (li x el ty n xs ys ns).val r w':=by
  rintro dp sp dL dC sL sC rfl rfl rfl rfl A;obtain⟨q1,q2⟩:=same A;refine⟨.int .i64 0,w,E9 w t sT X e ty.sz dp sp _ dC _ sC hue hsz ?_,?_⟩;rcases A with A|A<;>rw[A]<;>simp;rw[q1,q2];exact⟨D,E,h,rfl⟩
 have hdst:=hd f;rcases KW h hbs hsrc hns hs with⟨rfl,rfl⟩|⟨ad,cx,news,rfl,n1,n2,n3,n4⟩;rcases hdst with⟨rfl,A⟩|⟨_,c,rfl⟩;exact nothing none none 0 0 0 0 rfl rfl Z rfl (.inr rfl);exact nothing _ none n c 0 0 rfl rfl f.symm rfl (.inr rfl);rcases hdst with⟨rfl,A⟩|⟨O,c,rfl⟩;exact nothing none _ 0 0 _ cx rfl rfl Z rfl (.inl Z);by_cases hz:xs.length=0\/ys.length=0;exact nothing _ _ n c _ cx rfl rfl f.symm rfl hz;obtain⟨raw,r1,r2⟩:=h.bl x _ hm;obtain⟨k,hk⟩:∃k,k=Nat.min ys.length n:=⟨_,rfl⟩;have hkn:k<=n:=by rw[hk];exact Nat.min_le_right _ _
 have hky:k<=ys.length:=by rw[hk];exact Nat.min_le_left _ _
 have hrl:raw.length=n*ty.sz:=by rw[r1.1,f]
 have hmul:k*ty.sz<=n*ty.sz:=wH _ hkn;have hmul2:k*ty.sz<=ys.length*ty.sz:=wH _ hky;have u:(news.take (k*ty.sz)).length=k*ty.sz:=by rw[qP];omega
 have e3:(E x).handle xs.length=.slice (some ⟨(E x).b,0,none⟩) xs.length (E x).cap:=by unfold Ent.handle;rw[O];rfl
 rw[e3]at r1;obtain⟨rl,r1⟩:=r1;rcases r1 with⟨hq,_⟩|⟨g,cap,cur,hq,hg0,hg,V,hmax,hcur,G⟩;cases hq;simp only[yF,wQ,qAd,vW,yD]at hq;obtain⟨hq1,hq2⟩:=hq;rw[f]at V G;have hcapm:n*ty.sz<=cap*ty.sz:=wH _ V;have hrun:=run_copy_cells (P:=S.P) w t sT X e ty.sz g n c ad ys.length cx cur el (news.take (k*ty.sz)) hue hsz hg (by rw[u,hk])
  (λj v hj=>by
   rw[vX]at hj;split at hj;exact n2 j v hj;cases hj) (by rw[u,hcur];omega) (λv hv=>n3 v (qAk hv))
 refine⟨_,_,by rw[hq1];exact hrun,?_⟩;have z:(Gl xs ys).length=xs.length:=by
  simp only[Gl,qF,qP,wM];omega
 obtain⟨D',E',hst⟩:=aQ.stored (b:=.buf el ty (Gl xs ys) []) h hm O rfl z.symm (news.take (k*ty.sz)++cur.toList.drop (news.take (k*ty.sz)).length).toArray (λC' L N hw=>by
  refine⟨news.take (k*ty.sz)++raw.drop (k*ty.sz),⟨?_,.inr ⟨g,cap,(news.take (k*ty.sz)++cur.toList.drop (news.take (k*ty.sz)).length).toArray,?_,hg0,?_,?_,hmax,?_,?_⟩⟩,λi y hy=>?_⟩;rw[z,qF,u,wM,hrl,f];omega;unfold Ent.handle;rw[O,z,hq1,hq2];rfl;rw[hw,hq1];exact qDw w g cur _ el _ hg;rw[z,f];exact V;rw[qAe,qF,u,wM,vU,hcur];omega;rw[z,f,List.toList_toArray,qDj,u,qO (by rw[u];exact hmul),<- G,qCs];have hi:i<xs.length:=by have:=(qG.1 hy).1;rwa [z]at this
  simp only[List.lookup];by_cases hik:i<k;have hy':ys[i]?=some y:=by
   simp only[Gl]at hy;rw[vS (by rw[qP];omega),vX]at hy;rw[if_pos Z]at hy;exact hy
  have:=n4 i y hy';have hiz:i*ty.sz+ty.sz<=k*ty.sz:=by
   have:=wH ty.sz (show i+1<=k from hik);rw[zX,yM]at this;exact this
  have e5:((news.take (k*ty.sz)++raw.drop (k*ty.sz)).drop (i*ty.sz)).take ty.sz=(news.drop (i*ty.sz)).take ty.sz:=by
   rw[gY (by rw[u];omega),xK (by rw[wM,u];omega),qCs,qCr,kF Z]
  rw[e5];exact ax L.D L.w this;have hy':xs[i]?=some y:=by
   simp only[Gl]at hy;have hyl:ys.length<=i:=by
    rw[hk]at hik;have:¬(i<ys.length):=λg1=>hik (Nat.lt_min.2 ⟨g1,Z⟩);omega
   rw[vJ (by rw[qP];omega),vM,qP]at hy;rw[show ys.length+(i-min xs.length ys.length)=i by omega]at hy;exact hy
  have:=r2 i y hy';simp only[List.lookup]at this;have hiz:k*ty.sz<=i*ty.sz:=wH _ Z;have e5:(news.take (k*ty.sz)++raw.drop (k*ty.sz)).drop (i*ty.sz)=raw.drop (i*ty.sz):=by
   rw[qDn,yE (by rw[u];exact hiz),kR,u,xA];congr 1;omega
  rw[e5];exact ax L.D L.w this)
 refine⟨D',E',by rw[<- hq1];exact hst,?_⟩;simp only[li,AV.rel,ag,vH,vW,qDt,yD,Ey];rw[show Nat.min ys.length n=min ys.length n from rfl,f];omega
def Zx(h:aQ S σ a w D E){t sT A:TypeId}{d s:RV}{G vs:Value}
  (x:d.2=cL σ.m d.1) (v:s.2=cL σ.m s.1) (b:aDg S.P t d s=some c) (V:∀q∈c.need,q)
  (hd:d.1.rel S.P ⟨w,D,σ.m,E⟩ G) (O:s.1.rel S.P ⟨w,D,σ.m,E⟩ vs):
  ∃r w',(Builtin.copy_ #[t,sT] A #[G,vs]).run S.P w=.ok r w'/\Outcome S ⟨σ.T,upM σ.m c.upd,σ.sv⟩ a c.val r w':=by
 unfold aDg at b;split at b;case h_2=>cases b
 rename_i e X;split at b;rename_i j n el ty xs;split at b;case isFalse=>cases b
 rename_i i;split at b;case h_2=>cases b
 rename_i ns ys f;cases b;have hm:σ.m j=some (.buf el ty xs []):=x.symm;refine JQ h X i hm v f V (λz=>?_) O;have y:=(hd _ hm).2 z;unfold Ent.handle at y;split at y;rename_i u;obtain⟨raw,L,_⟩:=h.bl j _ hm;have e3:(E j).handle xs.length=.slice none 0 0:=by unfold Ent.handle;rw[u];rfl
 rw[e3]at L;rcases L.2 with⟨_,hz⟩|⟨g,cap,cur,u,_⟩;exact .inl ⟨y,by rw[<- z];exact hz⟩;cases u;rename_i u;exact .inr ⟨by simpa using u,_,y⟩;rename_i j n el ty xs;split at b;case isFalse=>cases b
 rename_i i;split at b;case h_2=>cases b
 rename_i ns ys f;cases b;have hm:σ.m j=some (.buf el ty xs []):=x.symm;refine JQ h X i hm v f V (λz=>?_) O;obtain⟨q1,cap,_,q2⟩:=(hd _ hm).2 z;exact .inr ⟨q1,cap,q2⟩;cases b
end Go.Eng
namespace Go.Eng
open Go.RowKit
def Ig(P:Program)(t:TypeId)(i:Nat):Option (Nat×Nat):=match P.underlying t with
 |some (.struct fs)=>match fs[i]? with
  |some f=>match sizeT P f.type with
   |some n=>some (f.offset,n)|none=>none
  |none=>none
 |some (.array _ e)=>match sizeT P e with
  |some n=>some (i*n,n)|none=>none
 |_=>none
def Tz(P:Program)(t:TypeId):Bool:=match P.underlying t with|some (.struct fs)=>fs.toList.all λf=>(sizeT P f.type).isSome|some (.array _ e)=>(sizeT P e).isSome|_=>false
def ML(place:Nat->Option (Nat×Nat)):List Nat->List RV->List AV->Option (List Prop×List AV)
 |[],[],cs=>some ([],cs)|i::is,v::vs,cs=>match place i,Ip v with
  |some (off,size),some ns=>if(cM v.1).length=size/\off+size<=cs.length then
    match ML place is vs (cs.take off++cM v.1++cs.drop (off+size))with
    |some (ms,r)=>some (ns++ms,r)|none=>none
   else none
  |_,_=>none
 |_,_,_=>none
def V7(P:Program)(t:TypeId)(idxs:List Nat)(vs:List RV):Option Core:=
 match(P.info? t).bind (·.zero)with
 |some z=>if Tz P t then match ML (Ig P t) idxs vs (z.cells.toList.map It)with
  |some (ns,cs)=>some {need:=ns,val:=.agg cs}|none=>none
  else none
 |none=>none
variable {w:World}
def HV{P:Program}{w:World}:∀{l:List Field},(l.all λf=>(sizeT P f.type).isSome)=true->
  ((l.mapM λf=>do pure (f.offset,<- sizeOf f.type)):Sem (List (Nat×Nat))).run P w=.ok (l.map λf=>(f.offset,(sizeT P f.type).getD 0)) w
 |[],_=>by simp|f::l,h=>by
  simp only[qAc,qC]at h;obtain⟨n,b⟩:=qAp.1 h.1;have e:=HV (w:=w) h.2;rw[qEb];simp only[wV,bK b,vZ,yN,e,b,qK,zO]
variable {S:Base}{D:Nat->Prop}{E:Nat->Ent}{σ:Sig}
def Pj{place:Nat->Option (Nat×Nat)}:∀{is:List Nat}{vs:List RV}{cs r:List AV}{ns:List Prop}{us:Lv}{A:Array Value},
  ML place is vs cs=some (ns,r)->(∀q∈ns,q)->(∀v∈vs,v.2=cL σ.m v.1)->zA1 S.P ⟨w,D,σ.m,E⟩ cs A.toList->zA1 S.P ⟨w,D,σ.m,E⟩ (vs.map (·.1)) us->
  ∃B,Instr.fill place A (is.zip us)=some B/\zA1 S.P ⟨w,D,σ.m,E⟩ r B.toList
 |[],[],cs,r,ns,us,A,h,_,_,G,hu=>by
  simp only[ML]at h;cases h;exact⟨A,rfl,G⟩
 |i::is,v::vs,cs,r,ns,us,A,h,hn,X,G,hu=>by
  simp only[ML]at h;split at h;case h_2=>cases h
  rename_i off size n1 hp h1;split at h;case isFalse=>cases h
  rename_i f;split at h;case h_2=>cases h
  rename_i ms r' hr;cases h;obtain⟨u,us',rfl,g1,g2⟩:=hu;obtain⟨zs,z1,T,_⟩:=od (X v (by simp)) h1 (λq y=>hn q (qJ.2 (.inl y))) g1;have hl:=zA3 G;have e:=zA3 T;have z:off+zs.length<=A.size:=by rw[<- vU,<- hl,<- e];omega
  have b:=foldl_set zs A off 0 (by simpa using z);generalize O:(zs.zipIdx 0).foldl (λa (c,j)=>a.setIfInBounds (off+j) c) A=A' at b;simp only[xZ]at b;have g:zA1 S.P ⟨w,D,σ.m,E⟩ (cs.take off++cM v.1++cs.drop (off+size)) A'.toList:=by
   rw[b,<- e,f.1];exact zA8 (zA8 (zC4 G off) T) (zB2 G (off+size))
  obtain⟨B,b1,b2⟩:=Pj hr (λq y=>hn q (qJ.2 (.inr y))) (λq y=>X q (by simp[y])) g g2;refine⟨B,?_,b2⟩;simp only[List.zip_cons_cons,Instr.fill,hp,z1];have V:zs.toArray.size=size:=by rw[qAe,<- e];exact f.1
  have hx2:zs.length=size:=by simpa using V
  have L:¬(zs.toArray.size≠size\/off+zs.toArray.size>A.size):=by rw[V];omega
  rw[if_neg (by simpa using L)];have hz:zs.toArray.zipIdx.foldl (λcs x=>cs.setIfInBounds (off+x.2) x.1) A=A':=by
   rw[<- O,<- Array.foldl_toList];simp
  rw[hz];exact b1
 |[],_::_,_,_,_,_,_,h,_,_,_,_=>by simp[ML]at h|_::_,[],_,_,_,_,_,h,_,_,_,_=>by simp[ML]at h
def V6{t:TypeId}{T:List Nat}{vs:List RV}{us:Lv}{c:Core}
  (h:V7 S.P t T vs=some c) (O:∀q∈c.need,q) (hv:∀v∈vs,v.2=cL σ.m v.1) (u:zA1 S.P ⟨w,D,σ.m,E⟩ (vs.map (·.1)) us):
  ∃r,(Instr.build t (T.zip us).toArray).run S.P w=.ok r w/\c.val.rel S.P ⟨w,D,σ.m,E⟩ r/\c.upd=[]/\c.new=none:=by
 unfold V7 at h;split at h;case h_2=>cases h
 rename_i z hz;split at h;case isFalse=>cases h
 rename_i b;split at h;case h_2=>cases h
 rename_i ns cs hf;cases h;obtain⟨i,hi,V⟩:=qDr.1 hz;have g:(zeroValue t).run S.P w=.ok z w:=by simp[zeroValue,typeInfo,hi,V]
 obtain⟨B,b1,b2⟩:=Pj (A:=z.cells) hf O hv (sk _) u;refine⟨.agg B,?_,⟨B.toList,by simp,b2⟩,rfl,rfl⟩;unfold Tz at b;split at b;rename_i G u;have hr:=HV (w:=w) b;have L:((G.mapM λf=>do pure (f.offset,<- sizeOf f.type)):Sem (Array (Nat×Nat))).run S.P w=.ok (G.toList.map λf=>(f.offset,(sizeT S.P f.type).getD 0)).toArray w:=by
  rw[qDi,map_eq_pure_bind];simp only[wV,hr,vZ,yN]
 have y:(λx=>(G.toList.map λf=>(f.offset,(sizeT S.P f.type).getD 0)).toArray[x]?)=Ig S.P t:=by
  funext j;unfold Ig;rw[u];simp only[kZ,qX,yP];cases X:G[j]? with
  |none=>rfl|some f=>
   have:=qQ.1 b f (by rw[<- yP]at X;exact yA X);obtain⟨n,O⟩:=qAp.1 this;simp[O]
 simp only[Instr.build,wV,g,vZ,vN u,L,y,b1,yN];rename_i n e u;obtain⟨m,hm⟩:=qAp.1 b;have y:(λi=>some (i*m,m))=Ig S.P t:=by
  funext j;unfold Ig;rw[u];simp only[hm]
 simp only[Instr.build,wV,g,vZ,vN u,bK hm,y,b1,yN];cases b
def FT(P:Program)(t:TypeId)(l c:AV)(same:Bool):Option Core:=
 match db P t with
 |some e=>match P4 P e with
  |some ty=>match vy P e ty with
   |some bytes=>match l,c with
    |.dat (.int _) _,.dat (.int _) c=>if same then some {need:=[0<=c,(bytes:Int)*c<=281474976710656,c<=9223372036854775807],val:=.dat (.sl ty) (Et c ty.dflt)} else none|_,_=>none
   |none=>none
  |none=>none
 |none=>none
def LU{a:Act}(h:aQ S σ a w D E){t:TypeId}{l c:AV}{same:Bool}{co:Core}{vl vc:Value}
  (v:same=true->vl=vc) (f:FT S.P t l c same=some co) (hn:∀q∈co.need,q) (hl:l.rel S.P ⟨w,D,σ.m,E⟩ vl) (hcr:c.rel S.P ⟨w,D,σ.m,E⟩ vc):
  ∃r w',(Instr.makeSlice t vl vc).run S.P w=.ok r w'/\Outcome S ⟨σ.T,upM σ.m co.upd,σ.sv⟩ a co.val r w':=by
 unfold FT at f;split at f;case h_2=>cases f
 rename_i e he;split at f;case h_2=>cases f
 rename_i ty hty;split at f;case h_2=>cases f
 rename_i bytes hz;obtain⟨i,z,hi,hz1,hz2,hz3,O⟩:=jD hz;have hue:=cI he;have hzs:z.cells.size=ty.sz:=by rw[<- vU,O,bm]
 split at f;case h_2=>cases f
 rename_i kl l kc c;simp only[AV.rel,ag,vH,vW]at hl hcr;subst hl hcr;obtain⟨c,rfl⟩:∃j:Int,j=c:=⟨c,rfl⟩;obtain⟨l,rfl⟩:∃j:Int,j=l:=⟨l,rfl⟩;split at f;case isFalse=>cases f
 rename_i hsm;cases f;have h0:(0:Int)<=c:=hn _ (.head _);have h1:(bytes:Int)*c<=281474976710656:=hn _ (.tail _ (.head _));have h2:c<=9223372036854775807:=hn _ (.tail _ (.tail _ (.head _)));have X:=v hsm;simp only[qDt]at X;obtain⟨rfl,rfl⟩:=X;obtain⟨n,rfl⟩:=qCa h0;have hb:i.bytes*n<=281474976710656:=by rw[hz3];have h3:((bytes*n:Nat):Int)<=281474976710656:=(by rw[qDv];exact h1);omega
 obtain⟨w',r1,r2,L⟩:=run_make_full (P:=S.P) w 0 t e i z ty.sz hue hi hz1 hz2 kl kl n hb (by unfold maxLen;omega) (wU _);have x:(madeCells z.cells (n*ty.sz)).toList=(List.replicate n (zeroCells ty)).flatten:=by
  rw[o9 z.cells ty.sz hzs (zA9 ty) n,O]
 rw[x]at r2;have hbw:Below w.heap.size w w':=⟨L.os,L.tape,L.output,L.size,λk hk=>L.block k hk (by simp)⟩;have hlt:w.heap.size<w'.heap.size:=by
  rcases r2.2 with⟨hv,_⟩|⟨g,cap,cur,hv,_,hh,_⟩;cases hv;simp only[yF,wQ,qAd,vW,yD]at hv;rw[hv.1];exact(vV.1 hh).1
 refine⟨_,w',r1,λb=>D b\/b=w.heap.size,E,h.world hbw (λb=>⟨λg=>?_,λg=>?_⟩) (λb g=>?_),?_⟩;rcases g with g|g;exact .inl g;exact .inr ⟨⟨Z,Z⟩,.inr g⟩;rcases g with g|g;exact .inl g;exact g.2;rcases g with g|g;have:=h.dlt b g;omega;omega;have hall:∀us∈List.replicate n (zeroCells ty),us.length=ty.sz:=λus hus=>by rw[(List.mem_replicate.1 hus).2,bm]
 have A:(List.replicate n ty.dflt).length=n:=wS;show ag _ _ (.sl ty) (List.replicate (n:Int).toNat ty.dflt) _;rw[qR];refine⟨some ⟨w.heap.size,0,none⟩,n,by rw[A],by rw[A];exact qM _,λg=>(by cases g),λad g _=>(by cases g;rfl),λj y hy=>?_⟩;have hj:j<n:=by have:=(qG.1 hy).1;rwa [A]at this
 have ey:y=ty.dflt:=by
  have:=(qG.1 hy).2;simpa using this.symm
 refine⟨_,zeroCells ty,rfl,.inr rfl,λq u hq=>?_,by rw[ey];exact gP _ _ ty⟩;have G:=r2.cells rfl;have hq2:q<ty.sz:=by have:=(qG.1 hq).1;rwa [bm]at this
 have V:=iR ty.sz _ hall j (zeroCells ty) (by rw[wY,if_pos hj]);have hfl:((List.replicate n (zeroCells ty)).flatten)[j*ty.sz+q]?=some u:=by
  rw[<- V,vX,if_pos hq2,vM]at hq;exact hq
 have:=G (j*ty.sz+q) u hfl;simp only[xQ,zQ]at this ⊢;exact this
end Go.Eng
namespace Go.Eng
open Go.RowKit
def uK(P:Program)(t:TypeId)(ty:Ty):Option Nat:=match P.underlying t with
 |some (.array _ _)=>match sizeT P t with
  |some k=>if k=k/ty.sz*ty.sz then some (k/ty.sz)else none|none=>none
 |_=>none
variable {t:TypeId}{P:Program}
def pQ{ty:Ty}{n:Nat}(h:uK P t ty=some n):(∃m e,P.underlying t=some (.array m e))/\sizeT P t=some (n*ty.sz):=by
 unfold uK at h;split at h;rename_i m e b;split at h;rename_i k f;split at h;rename_i hd;cases h;exact⟨⟨m,e,b⟩,f.trans (yS some hd)⟩;cases h;cases h;cases h
def aQ.bufCells{S:Base}{σ:Sig}{a:Act}{w:World}{D:Nat->Prop}{E:Nat->Ent}(h:aQ S σ a w D E){e:Nat}{el:TypeId}{t:Ty}{xs:List t.den}{ov:List (Nat×AV)}
  (hm:σ.m e=some (.buf el t xs ov)) (f:(E e).isNil=false):∃raw,ct S.P ⟨w,D,σ.m,E⟩ t xs ov raw/\raw.length=xs.length*t.sz/\cX w (E e).b 0 raw:=by
 obtain⟨raw,g,v⟩:=h.bl e _ hm;have x:(E e).handle xs.length=.slice (some ⟨(E e).b,0,none⟩) xs.length (E e).cap:=by unfold Ent.handle;rw[f];rfl
 rw[x]at g;refine⟨raw,v,g.1,λj u r=>?_⟩;have i:j<xs.length*t.sz:=by rw[<- g.1];exact(qG.1 r).1
 show w.cell? ⟨(E e).b,0+j,none⟩=some u;rw[zQ,g.cellAt j i];exact r
variable {C:Ctx}
def tn{t:Ty}{xs:List t.den}{raw:Lv}(h:ct P C t xs [] raw)(e:raw.length=xs.length*t.sz):tr C.w C.D t xs raw:=
 ⟨e,λi y b=>by have:=h i y b;simpa only[List.lookup]using this⟩
def m6{t:Ty}{xs:List t.den}{raw:Lv}(h:tr C.w C.D t xs raw):ct P C t xs [] raw:=
 λi y b=>by simp only[List.lookup];exact h.2 i y b
variable {D:Nat->Prop}{w:World}
def Qz{t:Ty}{xs:List t.den}{us:Lv}(h:tr w D t xs us):∀u∈us,u.oneCell'=true:=
 tt (P:=default) (C:=⟨w,D,λ_=>none,λ_=>⟨0,0,true,noR⟩⟩) h.1 (m6 h)
def wT{w w':World}{D D':Nat->Prop}(f:∀b,D b->D' b)(hw:∀b,D b->w'.heap[b]?=w.heap[b]?){t:Ty}{xs:List t.den}{us:Lv}(h:tr w D t xs us):tr w' D' t xs us:=
 ⟨h.1,λi y e=>ax f hw (h.2 i y e)⟩
def H9{t:Ty}{xs:List t.den}{b off n c:Nat}(h:ag w D (.sl t) xs [.slice (some ⟨b,off,none⟩) n c]):∃us,tr w D t xs us/\cX w b off us:=by
 obtain⟨u,cap,e,_,_,_,r⟩:=h;simp only[vH,yF,vW]at e;obtain⟨e,_,_⟩:=e;obtain⟨news,g,f,_,n4⟩:=my (w:=w) (D:=D) (b:=b) xs off (λi y j=>by
  obtain⟨a,ue,g1,_,g3,g4⟩:=r i y j;rw[<- e]at g1;cases g1;exact⟨ue,g3,g4⟩)
 exact⟨news,⟨g,n4⟩,f⟩
def vg(P:Program)(t:TypeId)(p:RV):Option Core:=match p with
 |(.ptr _ g i 0,some (.buf _ ty xs []))=>match uK P t ty with
  |some n=>some {need:=[Dk xs=g,i=0,Dk xs=n],val:=.av ty xs}|none=>none
 |(.ia ty xs,_)=>match uK P t ty with
  |some n=>some {need:=[Dk xs=n],val:=.av ty xs}|none=>none
 |_=>none
variable {c:Core}{S:Base}{a:Act}{E:Nat->Ent}{v:Value}{σ:Sig}
def x8(h:aQ S σ a w D E){p:RV}
  (hb:p.2=cL σ.m p.1) (f:vg S.P t p=some c) (y:∀q∈c.need,q) (G:p.1.rel S.P ⟨w,D,σ.m,E⟩ v):
  ∃r,(Instr.loadAt t v).run S.P w=.ok r w/\c.val.rel S.P ⟨w,D,σ.m,E⟩ r/\c.upd=[]/\c.new=none:=by
 have fin:∀{ty:Ty}{xs:List ty.den}{n:Nat}{b off:Nat}{us:Lv},uK S.P t ty=some n->xs.length=n->tr w D ty xs us->cX w b off us->
   (Instr.loadAt t (.pointer (some ⟨b,off,none⟩))).run S.P w=.ok (.agg us.toArray) w:=by
  intro ty xs n b off us h1 h2 h3 h4;obtain⟨⟨m,e,V⟩,X⟩:=pQ h1;exact run_loadAt_mid (P:=S.P) w b off t us (.array m e) h4 V rfl (by rw[h3.1,h2];exact X)
 unfold vg at f;split at f;rename_i z g i el ty xs;split at f;rename_i n j;cases f;have hm:σ.m z=some (.buf el ty xs []):=hb.symm;have e1:xs.length=g:=y _ (by simp);have e2:i=0:=y _ (by simp);have A:xs.length=n:=y (xs.length=n) (by simp);obtain⟨_,T,O⟩:=(G _ hm).2 e1;obtain⟨raw,u,x,L⟩:=h.bufCells hm T;have ev:v=.pointer (some ⟨(E z).b,0,none⟩):=by
  rw[O,e2];show Value.pointer (some ⟨(E z).b,0*_+0,none⟩)=_;rw[xX]
 rw[ev];exact⟨_,fin j A (tn u x) L,⟨raw,rfl,tn u x⟩,rfl,rfl⟩;cases f;split at f;rename_i n j;cases f;rename_i ty xs _ _;have A:xs.length=n:=y (xs.length=n) (by simp);obtain⟨b,off,rfl,g⟩:=G;obtain⟨us,u,x⟩:=H9 g;exact⟨_,fin j A u x,⟨us,rfl,u⟩,rfl,rfl⟩;cases f;cases f
def LW(P:Program)(t:TypeId)(p:RV):Option Core:=match vg P t p with|some c=>some c|none=>YR P t p
def QI(h:aQ S σ a w D E){p:RV}
  (hb:p.2=cL σ.m p.1) (b:LW S.P t p=some c) (g:∀q∈c.need,q) (f:p.1.rel S.P ⟨w,D,σ.m,E⟩ v):
  ∃r,(Instr.loadAt t v).run S.P w=.ok r w/\c.val.rel S.P ⟨w,D,σ.m,E⟩ r/\c.upd=[]/\c.new=none:=by
 unfold LW at b;split at b;rename_i i e;cases b;exact x8 h hb e g f;exact Oc h hb b g f
def v7(P:Program)(t:TypeId)(p v:RV):Option Core:=match p,v with
 |(.ptr nm g i 0,some (.buf el ty xs [])),(.av ty' ys,_)=>if h:ty'=ty then match uK P t ty with
  |some n=>some {need:=[Dk xs=g,i=0,Dk xs=n,Dk ys=n],val:=.val undef,upd:=[(nm,.buf el ty (h▸ys) [])]}|none=>none
  else none
 |_,_=>none
def Hw(h:aQ S σ a w D E){p v:RV}{G u:Value}
  (hbp:p.2=cL σ.m p.1) (r:v7 S.P t p v=some c) (A:∀q∈c.need,q)
  (hp:p.1.rel S.P ⟨w,D,σ.m,E⟩ G) (hv:v.1.rel S.P ⟨w,D,σ.m,E⟩ u):
  c.new=none/\c.val=.val undef/\∃w',(Instr.storeAt t G u).run S.P w=.ok () w'/\∃D E,aQ S ⟨σ.T,upM σ.m c.upd,σ.sv⟩ a w' D E:=by
 unfold v7 at r;split at r;case h_2=>cases r
 rename_i j g i el ty xs x ys _;split at r;case isFalse=>cases r
 rename_i V;subst V;split at r;case h_2=>cases r
 rename_i n hn1;cases r;have hm:σ.m j=some (.buf el x xs []):=hbp.symm;have e1:xs.length=g:=A _ (by simp);have e2:i=0:=A _ (by simp);have e3:xs.length=n:=A (xs.length=n) (by simp);have e4:ys.length=n:=A _ (by simp);obtain⟨_,z,q3⟩:=(hp _ hm).2 e1;have f:(E j).isNil=false:=z;have ev:G=.pointer (some ⟨(E j).b,0,none⟩):=by
  rw[q3,e2];show Value.pointer (some ⟨(E j).b,0*_+0,none⟩)=_;rw[xX]
 obtain⟨us,rfl,g⟩:=hv;obtain⟨⟨m,e,hu⟩,hs⟩:=pQ hn1;have hl:us.length=n*x.sz:=by rw[g.1,e4]
 obtain⟨raw,O,r2⟩:=h.bl j _ hm;have hhd:(E j).handle xs.length=.slice (some ⟨(E j).b,0,none⟩) xs.length (E j).cap:=by unfold Ent.handle;rw[f];rfl
 rw[hhd]at O;obtain⟨cur,c1,c2,c3⟩:=fQ O 0 us (by rw[hl,e3];omega);have y:=fX (P:=S.P) (t:=t) (u:=.agg us.toArray) c1 (by rw[hl];exact hs) rfl c2 (Qz g);refine⟨rfl,rfl,_,by rw[ev];exact y,h.stored (b:=.buf el x ys []) hm f rfl (by show xs.length=ys.length;omega) _ λC' L N hw=>?_⟩;refine⟨us,?_,m6 (wT L.D L.w g)⟩;have X:=O.1;have e5:raw.take 0++us++raw.drop (0+us.length)=us:=by
  rw[qCq,kR,zQ,yE (by rw[X,hl,e3];omega),wB]
 rw[e5]at c3;rw[hw];have hh2:(E j).handle ys.length=.slice (some ⟨(E j).b,0,none⟩) xs.length (E j).cap:=by unfold Ent.handle;rw[f,show ys.length=xs.length by omega];rfl
 rw[hh2,show ys.length=xs.length by omega];exact c3
def Io(m:Nat->Option Blk):List AV->Option (List Prop)
 |[]=>some []|c::cs=>match xk (c,cL m c),Io m cs with
  |some a,some b=>some (a++b)|_,_=>none
def NW:∀{cs:List AV}{ns:List Prop}{us:Lv},Io C.m cs=some ns->(∀q∈ns,q)->zA1 P C cs us->∀u∈us,u.oneCell'=true
 |[],_,us,_,_,g=>by
  have:us=[]:=g;subst this;intro u v;cases v
 |c::cs,ns,us,h,j,g=>by
  simp only[Io]at h;split at h;rename_i a b z y;cases h;obtain⟨u,r,e,g1,g2⟩:=g;subst e;intro x f;rcases zH.1 f with rfl|f;exact Ut (p:=(c,cL C.m c)) (.inr rfl) z (λq i=>j q (qJ.2 (.inl i))) g1;exact NW y (λq i=>j q (qJ.2 (.inr i))) g2 x f;cases h
def pD{m m':Nat->Option Blk}:∀{cs:List AV},(∀k∈zA2 cs,m' k=m k)->Io m' cs=Io m cs
 |[],_=>rfl|c::cs,h=>by
  simp only[Io];have e:cL m' c=cL m c:=by
   cases c<;>first|rfl|exact h _ (by simp[zA2,AV.names])
  rw[e,pD λk b=>h k (by simp[zA2,b])]
def lB(P:Program)(m:Nat->Option Blk)(t:TypeId)(p v:RV):Option Core:=match p,v.1 with
 |(.ptr nm g i c,some (.var cs)),.agg ds=>match Io m ds,sizeT P t with
  |some ns,some k=>if k=ds.length/\c+ds.length<=cs.length then
    some {need:=[1=g,i=0]++ns,val:=.val undef,upd:=[(nm,.var (cs.take c++ds++cs.drop (c+ds.length)))]} else none
  |_,_=>none
 |_,_=>none
def Hu(h:aQ S σ a w D E){p v:RV}{V u:Value}
  (hbp:p.2=cL σ.m p.1) (j:lB S.P σ.m t p v=some c) (hn:∀q∈c.need,q)
  (hp:p.1.rel S.P ⟨w,D,σ.m,E⟩ V) (hv:v.1.rel S.P ⟨w,D,σ.m,E⟩ u):
  c.new=none/\c.val=.val undef/\∃w',(Instr.storeAt t V u).run S.P w=.ok () w'/\∃D E,aQ S ⟨σ.T,upM σ.m c.upd,σ.sv⟩ a w' D E:=by
 unfold lB at j;split at j;case h_2=>cases j
 rename_i _ r g i c0 cs ds X;split at j;case h_2=>cases j
 rename_i ns k y hsz;split at j;case isFalse=>cases j
 rename_i hk;obtain⟨hk,G⟩:=hk;cases j;rw[X]at hv;obtain⟨us,rfl,g2⟩:=hv;have hm:σ.m r=some (.var cs):=hbp.symm;have g3:=NW (C:=⟨w,D,σ.m,E⟩) y (λq hq=>hn q (by simp[hq])) g2;have e1:1=g:=hn _ (by simp);have e2:i=0:=hn _ (by simp);subst e2;obtain⟨_,z,ev⟩:=(hp _ hm).2 e1;have f:(E r).isNil=false:=z;have ev':V=.pointer (some ⟨(E r).b,c0,none⟩):=by rw[ev,xX,zQ]
 obtain⟨_,e,el,r1,r2⟩:=h.bl r _ hm;have A:=zA3 g2;have hl2:=zA3 r2;have O:c0+us.length<=e.size:=by
  have hf:=G;rw[A,hl2,vU]at hf;exact hf
 have x:=fX (P:=S.P) (t:=t) (o:=c0) (u:=.agg us.toArray) r1 (by rw[hsz,hk,A]) rfl O g3;refine⟨rfl,rfl,w.setRow (E r).b (e.toList.take c0++us++e.toList.drop (c0+us.length)).toArray,by rw[ev'];exact x,?_⟩;have hes:(Blk.var cs).es=(Blk.var (cs.take c0++ds++cs.drop (c0+ds.length))).es:=by
  simp only[Blk.es,qF,qP,wM];omega
 refine aQ.stored h hm f hes rfl (e.toList.take c0++us++e.toList.drop (c0+us.length)).toArray λC' L N hw=>?_;refine⟨f,(e.toList.take c0++us++e.toList.drop (c0+us.length)).toArray,el,by rw[hw];exact qDw w _ e _ el _ r1,?_⟩;exact Fo (zA4 L (λk _=>N k) r2) (zA4 L (λk _=>N k) g2) c0 zoo
def vQ{m m':Nat->Option Blk}{p v:RV}(h:∀k∈v.1.names,m' k=m k):lB P m' t p v=lB P m t p v:=by
 unfold lB;split;rename_i ds b;rw[b]at h;rw[pD (m:=m) (m':=m') (λk e=>h k (by simpa[AV.names]using e))];rfl
def aID:AV->Bool|.fn _ _=>true|_=>false
def aFC:AV->Bool|.fn _ _=>true|.ip _ _=>true|.ips _=>true|.yld _=>true|_=>false
def M3(P:Program)(mt:Bool)(nx:Nat)(elem:TypeId)(p:RV):Option Core:=match p.1 with
 |.av ty xs=>match uK P elem ty with
  |some n=>if mt=true then(if 0<n/\n<=1000000 then some {need:=[Dk xs=n],val:=.ptr nx n 0 0,upd:=[(nx,.buf elem ty xs [])],new:=some nx} else none)
   else some {val:=.ia ty xs}
  |none=>none
 |a=>if mt=false/\aFC a=true then some {val:=.ipv a} else none
variable {elem:TypeId}{mt:Bool}
def Ru(h:aQ S σ a w D E){nx:Nat}{p:RV}
  (e:M3 S.P mt nx elem p=some c) (hn:∀q∈c.need,q) (hu:∀k,c.new=some k->Unm k σ) (x:p.1.rel S.P ⟨w,D,σ.m,E⟩ v):
  ∃r w',(Instr.box elem v).run S.P w=.ok r w'/\Outcome S ⟨σ.T,upM σ.m c.upd,σ.sv⟩ a c.val r w':=by
 have run:∀us:Lv,v.cells=us.toArray->(Instr.box elem v).run S.P w=.ok (.pointer (some ⟨w.heap.size,0,none⟩)) (w.alloc (.cells us.toArray elem)):=by
  intro us G;simp[Instr.box,newVar,newRow,G]
 have cellAt:∀(us:Lv),cX (w.alloc (.cells us.toArray elem)) w.heap.size 0 us:=λus j u A=>by
  rw[zQ];show(w.alloc _).cell? ⟨w.heap.size,j,none⟩=some u;rw[kX];simpa using A
 unfold M3 at e;split at e;rename_i ty xs L;rw[L]at x;obtain⟨us,rfl,g⟩:=x;have f:=g.1;split at e;case h_2=>cases e
 rename_i n hn1;split at e;split at e;case isFalse=>cases e
 rename_i O;obtain⟨k0,k1⟩:=O;cases e;have e3:xs.length=n:=hn _ (by simp);subst e3;have e4:upE E nx (⟨w.heap.size,xs.length,false,noR⟩:Ent) nx=⟨w.heap.size,xs.length,false,noR⟩:=by simp[upE]
 refine⟨_,_,run us rfl,D,upE E nx ⟨w.heap.size,xs.length,false,noR⟩,h.newBlk (hu nx rfl) (mJ w _) (λ_=>⟨rfl,by rw[yG];simp⟩)
  ⟨us,⟨f,.inr ⟨w.heap.size,xs.length,us.toArray,?_,wU _,?_,qM _,?_,?_,?_⟩⟩,?_⟩,λb hb=>?_⟩
 simp[Ent.handle];show(w.heap.push _)[w.heap.size]?=_;simp;unfold maxLen;omega;rw[<- vU];exact f;show us.take (xs.length*ty.sz)=us;rw[<- f,yQ];exact m6 (wT (λ_ g=>g) (λb hb=>kC w _ b (h.dlt b hb)) g);replace hb:upM σ.m [(nx,.buf elem ty xs [])] nx=some b:=hb;rw[dc,if_pos rfl]at hb;cases hb;refine⟨qM _,λ_=>⟨k0,?_,?_⟩⟩;show(upE E nx _ nx).isNil=false;rw[e4];show _=Value.pointer (some ⟨(upE E nx _ nx).b,_,none⟩);rw[e4];simp;cases e;refine⟨_,_,run us rfl,λb=>D b\/b=w.heap.size,E,h.newData _,w.heap.size,0,rfl,some ⟨w.heap.size,0,none⟩,xs.length,rfl,qM _,(λh=>by cases h),(λad X _=>by cases X;rfl),λi y hy=>?_⟩;refine⟨_,_,rfl,.inr rfl,?_,ax (λb hb=>.inl hb) (λb hb=>kC w _ b (h.dlt b hb)) (g.2 i y hy)⟩;intro j u A;rw[vX]at A;split at A;rw[vM]at A;have:=cellAt us (i*ty.sz+j) u A;rw[zQ]at this;show(w.alloc _).cell? ⟨w.heap.size,0+i*ty.sz+j,none⟩=some u;rw[zQ];exact this;cases A
 .split at e;case isFalse=>cases e
  rename_i O;obtain⟨_,hf⟩:=O;cases e;have z:v.cells=#[v]:=by
   cases hq:p.1<;>rw[hq]at hf<;>first|cases hf|skip
   all_goals rw[hq]at x
   obtain⟨_,_,_,rfl,_⟩:=x;rfl;obtain⟨us,rfl,_⟩:=x;rfl;obtain⟨_,_,_,rfl,_⟩:=x;rfl;have x:v=_:=x;subst x;rfl
  refine⟨_,_,run [v] z,λb=>D b\/b=w.heap.size,E,h.newData _,w.heap.size,0,v,rfl,.inr rfl,?_,?_⟩;show(w.alloc _).cell? ⟨w.heap.size,0,none⟩=some v;rw[kX];rfl;refine zA5 (C:=⟨w,D,σ.m,E⟩) (C':=⟨w.alloc (.cells [v].toArray elem),λb=>D b\/b=w.heap.size,σ.m,E⟩) ⟨λb hb=>.inl hb,λb hb=>kC w _ b (h.dlt b hb)⟩ (λnm _ b' V=>⟨b',V,rfl,qM _,λ_=>rfl⟩) x
def s7(P:Program)(m:Nat->Option Blk)(mt:Bool)(elem:TypeId)(p:AV):Option Core:=match p with
 |.agg cs=>if mt=false/\P4 P elem=none then match Io m cs with
  |some ns=>some {need:=ns,val:=.ips cs}|none=>none
  else none
 |.ptr nm 1 0 0=>if mt=false then match m nm with
  |some (.var _)=>some {val:=.ipv (.ptr nm 1 0 0)}|_=>none
  else none
 |_=>none
def Rt(h:aQ S σ a w D E){p:AV}
  (f:s7 S.P σ.m mt elem p=some c) (y:p.rel S.P ⟨w,D,σ.m,E⟩ v):
  ∃r w',(Instr.box elem v).run S.P w=.ok r w'/\Outcome S ⟨σ.T,upM σ.m c.upd,σ.sv⟩ a c.val r w':=by
 have key:∀(us:Lv) (cs:List AV) (x:AV),v.cells=us.toArray->zA1 S.P ⟨w,D,σ.m,E⟩ cs us->(∀C b,C.D b->cX C.w b 0 us->zA1 S.P C cs us->x.rel S.P C (.pointer (some ⟨b,0,none⟩)))->
   ∃r w',(Instr.box elem v).run S.P w=.ok r w'/\Outcome S ⟨σ.T,upM σ.m [],σ.sv⟩ a x r w':=by
  intro us cs x i g X;have run:(Instr.box elem v).run S.P w=.ok (.pointer (some ⟨w.heap.size,0,none⟩)) (w.alloc (.cells us.toArray elem)):=by
   simp[Instr.box,newVar,newRow,i]
  refine⟨_,_,run,λb=>D b\/b=w.heap.size,E,h.newData _,X _ _ (.inr rfl) ?_ ?_⟩;intro j u hj;rw[zQ];show(w.alloc _).cell? ⟨w.heap.size,j,none⟩=some u;rw[kX];simpa using hj;exact zA4 (C:=⟨w,D,σ.m,E⟩) (C':=⟨w.alloc (.cells us.toArray elem),λb=>D b\/b=w.heap.size,σ.m,E⟩) ⟨λb hb=>.inl hb,λb hb=>kC w _ b (h.dlt b hb)⟩ (λO _ b' z=>⟨b',z,rfl,qM _,λ_=>rfl⟩) g
 unfold s7 at f;split at f;rename_i cs;split at f;case isFalse=>cases f
 split at f;case h_2=>cases f
 cases f;obtain⟨us,rfl,g⟩:=y;exact key us cs (.ips cs) rfl g λC b L G A=>⟨b,0,us,rfl,L,G,A⟩;rename_i O;split at f;case isFalse=>cases f
 split at f;case h_2=>cases f
 rename_i bl hm;cases f;obtain⟨_,_,hv⟩:=(y _ hm).2 rfl;refine key [v] [.ptr O 1 0 0] _ (by rw[hv];rfl) ⟨v,[],rfl,y,rfl⟩ λC b L G A=>⟨b,0,v,rfl,L,G 0 v rfl,?_⟩;obtain⟨u,V,e,g,_⟩:=A;cases e;exact g;cases f
def G3{m m':Nat->Option Blk}{p:AV}(h:∀k∈p.names,m' k=m k):s7 P m' mt elem p=s7 P m mt elem p:=by
 unfold s7;split;rw[pD (m:=m) (m':=m') λk b=>h k (by simpa[AV.names]using b)];rw[h _ (by simp[AV.names])];rfl
def F6(P:Program)(t:TypeId)(x i:AV):Option Core:=match P.underlying t,i with
 |some (.array n e),.dat (.int _) i=>match x with
  |.av ty xs=>if sizeT P e=some ty.sz then match iy P e with
    |some true=>some {need:=[Dl 0 i,Dp i (Ea n),Dk xs=n],val:=.agg (cellsOf ty (Du xs (Dc i) ty.dflt))}|some false=>if ty.sz=1 then some {need:=[Dl 0 i,Dp i (Ea n),Dk xs=n],val:=.dat ty (Du xs (Dc i) ty.dflt)} else none|none=>none
   else match uK P e ty with|some m=>some {need:=[Dl 0 i,Dp i (Ea n),Dk xs=Ej n m],val:=.av ty (Fe xs (Ej (Dc i) m) m)}|none=>none
  |.agg cs=>if sizeT P e=some 1/\iy P e=some false/\cs.length=n then some {need:=[Dl 0 i,Dp i (Ea n)],val:=.sel i cs} else none|_=>none
 |_,_=>none
variable {cs:Array Value}
def jq{t e:TypeId}{n:Nat}{k:IntKind}{i:Int}{sz:Nat}(b:P.underlying t=some (.array n e))(f:sizeT P e=some sz)(h:0<=i)(g:i<n):
  (Instr.index t (.agg cs) (.int k i)).run P w=(part e cs (i.toNat*sz)).run P w:=by
 simp[Instr.index,asIntOf,vN b,h,g,bK f w]
variable {e:TypeId}
def tj{sz off:Nat}(f:iy P e=some true)(b:sizeT P e=some sz):(part e cs off).run P w=.ok (.agg (cs.extract off (off+sz))) w:=by
 simp[part,lF f w,bK b w]
def dG{off:Nat}(f:iy P e=some false)(b:cs[off]?=some v):(part e cs off).run P w=.ok v w:=by
 simp[part,lF f w,b]
def QS{m:Nat}{X:TypeId}(h:P.underlying e=some (.array m X)):iy P e=some true:=by
 unfold iy;rw[h]
def MC{x i:AV}{v vi:Value}(b:F6 P t x i=some c)(h:∀q∈c.need,q)
  (hx:x.rel P C v) (hi:i.rel P C vi):∃r,(Instr.index t v vi).run P w=.ok r w/\c.val.rel P C r/\c.upd=[]/\c.new=none:=by
 unfold F6 at b;split at b;case h_2=>cases b
 rename_i n e k i0 hu;simp only[AV.rel,ag,vH,vW]at hi;subst hi;obtain⟨i,rfl⟩:∃j:Int,(j:(Ty.int k).den)=i0:=⟨i0,rfl⟩;split at b;rename_i ty xs;obtain⟨us,rfl,g1,g2⟩:=hx;split at b;rename_i G;have elem:0<=i->i<(n:Int)->xs.length=n->ag C.w C.D ty (xs.getD i.toNat ty.dflt) ((us.drop (i.toNat*ty.sz)).take ty.sz):=λA z T=>g2 i.toNat _ (getElem?_getD zoo);split at b;rename_i ha;cases b;have A:0<=i:=h _ (by simp);have z:i<(n:Int):=h _ (by simp);have T:xs.length=n:=h _ (by simp);refine⟨_,by rw[jq hu G A z,tj ha G],⟨(us.drop (i.toNat*ty.sz)).take ty.sz,?_,cy (elem A z T)⟩,rfl,rfl⟩;congr 1;apply yU;simp[List.take_drop,qBh];rename_i ha;split at b;case isFalse=>cases b
 rename_i h1z;cases b;have A:0<=i:=h _ (by simp);have z:i<(n:Int):=h _ (by simp);have T:xs.length=n:=h _ (by simp);have O:=elem A z T;have L:=(aY O).trans h1z;obtain⟨u,V⟩:=kU.1 L;rw[V]at O;refine⟨u,?_,O,rfl,rfl⟩;rw[jq hu G A z];refine dG ha ?_;have:((us.drop (i.toNat*ty.sz)).take ty.sz)[0]?=some u:=by rw[V];rfl
 rw[vX,if_pos (zA9 ty),vM]at this;simpa using this;cases b;split at b;rename_i m hm;cases b;obtain⟨⟨m',e',hue⟩,G⟩:=pQ hm;have A:0<=i:=h _ (by simp);have z:i<(n:Int):=h _ (by simp);have T:xs.length=n*m:=h _ (by simp);have hin:i.toNat*m+m<=xs.length:=by
  rw[T];have:=wH m (show i.toNat+1<=n by omega);rw[zX,yM]at this;exact this
 refine⟨_,by rw[jq hu G A z,tj (QS hue) G],⟨(us.drop (i.toNat*(m*ty.sz))).take (m*ty.sz),?_,?_,λq y hy=>?_⟩,rfl,rfl⟩;congr 1;apply yU;simp[List.take_drop,qBh];have e1:i.toNat*(m*ty.sz)=i.toNat*m*ty.sz:=(qEd _ _ _).symm;have e2:=wH ty.sz hin;rw[zX]at e2;simp only[Fe,Ej,Dc,qP,wM];rw[g1,e1,kF zoo,kF zoo];have f:(List.take m (xs.drop (i.toNat*m)))[q]?=some y:=hy;rw[vX]at f;split at f;case isFalse=>cases f
 rename_i hq;rw[vM]at f;have O:=g2 _ y f;have e1:(i.toNat*m+q)*ty.sz=i.toNat*(m*ty.sz)+q*ty.sz:=by rw[zX,qEd]
 rw[e1,<- xA]at O;have e2:((us.drop (i.toNat*(m*ty.sz))).take (m*ty.sz)).drop (q*ty.sz)=((us.drop (i.toNat*(m*ty.sz))).drop (q*ty.sz)).take (m*ty.sz-q*ty.sz):=qCs;rw[e2,qCr];have e3:ty.sz<=m*ty.sz-q*ty.sz:=by
  have:=wH ty.sz (show q+1<=m from hq);rw[zX,yM]at this;omega
 rw[kF e3];exact O;cases b;rename_i cs;split at b;case isFalse=>cases b
 rename_i hk;obtain⟨G,ha,hl⟩:=hk;cases b;have A:0<=i:=h _ (by simp);have z:i<(n:Int):=h _ (by simp);obtain⟨us,rfl,g⟩:=hx;have L:=zA3 g;have X:i.toNat<us.length:=zoo;refine⟨us[i.toNat],?_,⟨us,g,qB X⟩,rfl,rfl⟩;rw[jq hu G A z,xG];exact dG ha (by simp[X]);cases b
def Y2(P:Program)(t:TypeId):Bool:=match P.underlying t with|some (.int .u8)=>true|_=>false
def OZ(h:Y2 P t=true):P.underlying t=some (.int .u8):=by
 unfold Y2 at h;split at h;assumption;cases h
def V5(P:Program)(s d:TypeId)(a:AV):Option Core:=match a with
 |.dat .str x=>match P.underlying s,db P d with
  |some .string,some e=>if Y2 P e=true then some {val:=.dat (.sl (.int .u8)) (Fq x)} else none|_,_=>none
 |.dat (.sl (.int .u8)) xs=>match db P s,P.underlying d with
  |some e,some .string=>if Y2 P e=true then some {val:=.dat .str (Gp xs)} else none|_,_=>none
 |_=>none
def V4(h:aQ S σ a w D E){s d:TypeId}{x:AV}
  (z:V5 S.P s d x=some c) (hx:x.rel S.P ⟨w,D,σ.m,E⟩ v):
  ∃r w',(convert s d v).run S.P w=.ok r w'/\Outcome S ⟨σ.T,upM σ.m c.upd,σ.sv⟩ a c.val r w':=by
 unfold V5 at z;split at z;rename_i x;simp only[AV.rel,ag,vH,vW]at hx;subst hx;split at z;case h_2=>cases z
 rename_i e hs hd;split at z;case isFalse=>cases z
 rename_i he;cases z;have O:=OZ he;have L:=Go.Lib.bytesWorld_size w e x;have hbel:Below w.heap.size w (Go.Lib.bytesWorld w e x):=⟨by simp[Go.Lib.bytesWorld,World.freeze,World.alloc,World.drew,-World.alloc_eq,-World.drew_eq],by simp[Go.Lib.bytesWorld,World.freeze,World.alloc,World.drew,-World.alloc_eq,-World.drew_eq],
  by simp[Go.Lib.bytesWorld,World.freeze,World.alloc,World.drew,-World.alloc_eq,-World.drew_eq],by rw[L];omega,λk hk=>Go.Lib.bytesWorld_at_old w e x k hk⟩
 have G:(Fq x).length=x.size:=by
  show(List.map _ x.data.toList).length=x.data.size;rw[vG,vU]
 refine⟨_,_,Go.Lib.run_convert_string_bytes (P:=S.P) w s d e x hs (cI hd) O,λb=>D b\/b=w.heap.size,E,?_,some ⟨w.heap.size,0,none⟩,grownCap w x.size 0 e,?_,?_,(λh=>by cases h),(λV had _=>by cases had;rfl),λi y hy=>?_⟩;refine h.world hbel (λb=>⟨λhb=>?_,λhb=>?_⟩) (λb hb=>?_);rcases hb with g|g;exact .inl g;exact .inr ⟨⟨zoo,by rw[L];omega⟩,.inr g⟩;rcases hb with g|g;exact .inl g;exact g.2;rcases hb with g|g;have:=h.dlt b g;rw[L];omega;rw[L];omega;rw[G];rw[G];exact grownCap_ge w _ 0 e;have hi:i<x.size:=by have:=(qG.1 hy).1;rwa [G]at this
 refine⟨_,[.int .u8 y],rfl,.inr rfl,λj u X=>?_,rfl⟩;cases j with
 |succ j=>simp at X|zero=>
  simp only[qAu,wQ]at X;subst X;show(Go.Lib.bytesWorld w e x).cell? ⟨w.heap.size,0+i*1+0,none⟩=_;rw[show 0+i*1+0=i by omega,Go.Lib.bytesWorld_cell w e x i hi];have f:(List.map (λb:UInt8=>(b.toNat:Int)) x.data.toList)[i]?=some y:=hy;rw[qX]at f;cases hq:x.data.toList[i]? with
  |none=>rw[hq]at f;cases f
  |some b=>
   rw[hq]at f;simp only[zY,wQ]at f;rw[<- f];simp[List.getD,hq]
 rename_i xs;split at z;case h_2=>cases z
 rename_i e hs hd;split at z;case isFalse=>cases z
 rename_i he;cases z;have O:=OZ he;obtain⟨ao,cap,h1,_,_,h4,h5⟩:=hx;simp only[vH,vW]at h1;subst h1;refine⟨.string (strOfNums xs),w,?_,D,E,h,rfl⟩;cases xs with
 |nil=>
  rw[run_convert_bytes_string w s d e ao _ cap (cI hs) O hd];cases ao with
  |none=>simp[Conv.bytesToString];rfl|some V=>
   have hl:(loadCells V 0).run S.P w=.ok #[] w:=by
    have:=qCt (P:=S.P) w V [] (λj v X=>by simp at X);simpa using this
   rw[xR,run_bytesToString w V 0 cap [] (by simpa using hl)];rfl
 |cons y ys=>
  obtain⟨V,ue,g1,_,_,_⟩:=h5 0 y rfl;subst g1;have A:=h4 V rfl (by simp);obtain⟨bl,off,sp⟩:=V;simp only at A;subst A;refine run_convert_bytes_arg w s e (cI hs) O bl off _ cap (y::ys) rfl (λi hi=>?_) d hd;obtain⟨a2,ue2,q1,_,q3,q4⟩:=h5 i _ (qB hi);cases q1;simp only[ag]at q4;subst q4;have:=q3 0 _ rfl;simp only[xZ,Ty.sz,xG]at this;rw[this];simp[List.getD,qB hi]
 cases z
def lT(P:Program):List Field->List AV->Nat->List AV->Option Bool
 |[],_,_,_=>some true|f::fs,cs,off,ds=>if f.name ≠ "_" /\ f.offset=off then match P.underlying f.type,cs,ds with
   |some (.int _),.dat (.int k1) x::cs,.dat (.int k2) y::ds=>if k1=k2 then(match lT P fs cs (off+1) ds with|some r=>some (Dh (Eb x y) r)|none=>none)else none
   |some .string,.dat .str x::cs,.dat .str y::ds=>match lT P fs cs (off+1) ds with|some r=>some (Dh (Fz x y) r)|none=>none
   |some .bool,.dat .bool x::cs,.dat .bool y::ds=>match lT P fs cs (off+1) ds with|some r=>some (Dh (Ez x y) r)|none=>none
   |_,_,_=>none
  else none
def VC(P:Program)(op:BinOp)(t:TypeId)(a b:AV):Option Core:=match a,b,P.underlying t with
 |.agg cs,.agg ds,some (.struct fs)=>if P.stoodInHeld t=false/\P.eqGuardType P.depth t=false then match lT P fs.toList cs 0 ds,op with
   |some r,.eql=>some {val:=.dat .bool r}|some r,.neq=>some {val:=.dat .bool (Dj r)}|_,_=>none
  else none
 |_,_,_=>none
def jb{P:Program}{C:Ctx}{w:World}{d:Nat}{X Y:Array Value}:∀{fs:List Field}{cs ds:List AV}{off:Nat}{r:Bool}{us vs:Lv},lT P fs cs off ds=some r->
  zA1 P C cs us->zA1 P C ds vs->X.toList.drop off=us->Y.toList.drop off=vs->(Op.eqFields (d+1) X Y fs).run P w=.ok r w
 |[],_,_,_,_,_,_,h,_,_,_,_=>by cases h;simp[Op.eqFields]
 |f::fs,cs,ds,off,r,us,vs,h,h1,h2,h3,h4=>by
  unfold lT at h;split at h;case isFalse=>cases h
  rename_i hf;obtain⟨G,hf2⟩:=hf;have at_:∀{Z:Array Value}{z:Value}{zs:Lv},Z.toList.drop off=z::zs->Z[f.offset]?=some z/\Z.toList.drop (off+1)=zs:=λ{Z z zs} e=>by
   constructor;have:(Z.toList.drop off)[0]?=some z:=by rw[e];rfl
   rw[vM]at this;rw[hf2];simpa using this;rw[<- xA,e];rfl
  split at h;rename_i k k1 x cs k2 y ds j;split at h;case isFalse=>cases h
  rename_i hk;subst hk;split at h;case h_2=>cases h
  rename_i r' hr;cases h;obtain⟨u,V,e1,i,q2⟩:=h1;obtain⟨v,T,e2,g,q4⟩:=h2;simp only[AV.rel,ag,vH,vW]at i g;subst i g;obtain⟨x1,x2⟩:=at_ (h3.trans e1);obtain⟨O,L⟩:=at_ (h4.trans e2);have ih:=jb (w:=w) (d:=d) hr q2 q4 x2 L;have A:iy P f.type=some false:=by unfold iy;rw[j]
  rw[Op.eqFields,if_pos G];simp only[wV,dG A x1,dG A O,vZ,run_equalIn_int w d f.type k1 k x y j];by_cases b:(x==y)=true;simp only[b,yL,wG,xW,ih,Dh,Eb,zV];simp only[xJ]at b;simp[b,Dh,Eb];rename_i x cs y ds j;split at h;case h_2=>cases h
  rename_i r' hr;cases h;obtain⟨u,V,e1,i,q2⟩:=h1;obtain⟨v,T,e2,g,q4⟩:=h2;simp only[AV.rel,ag,vH,vW]at i g;subst i g;obtain⟨x1,x2⟩:=at_ (h3.trans e1);obtain⟨O,L⟩:=at_ (h4.trans e2);have ih:=jb (w:=w) (d:=d) hr q2 q4 x2 L;have A:iy P f.type=some false:=by unfold iy;rw[j]
  rw[Op.eqFields,if_pos G];simp only[wV,dG A x1,dG A O,vZ,run_equalIn_string w d f.type x y j];by_cases b:(x.toList==y.toList)=true;simp only[b,yL,wG,xW,ih,Dh,Fz,zV];simp only[xJ]at b;simp[b,Dh,Fz];rename_i x cs y ds j;split at h;case h_2=>cases h
  rename_i r' hr;cases h;obtain⟨u,V,e1,i,q2⟩:=h1;obtain⟨v,T,e2,g,q4⟩:=h2;simp only[AV.rel,ag,vH,vW]at i g;subst i g;obtain⟨x1,x2⟩:=at_ (h3.trans e1);obtain⟨O,L⟩:=at_ (h4.trans e2);have ih:=jb (w:=w) (d:=d) hr q2 q4 x2 L;have A:iy P f.type=some false:=by unfold iy;rw[j]
  rw[Op.eqFields,if_pos G];simp only[wV,dG A x1,dG A O,vZ,run_equalIn_bool' w d f.type x y j];by_cases b:(x==y)=true;simp only[b,yL,wG,xW,ih,Dh,Ez,zV];simp only[xJ]at b;simp[b,Dh,Ez];cases h
def VB{op:BinOp}{x y:Operand}{a b:AV}{u v:Value}(h:VC P op t a b=some c)
  (L:a.rel P C u) (hb:b.rel P C v):∃r,(do eqGuard op t x y u v;binOp op t u v:Sem Value).run P w=.ok r w/\c.val.rel P C r/\c.upd=[]/\c.new=none:=by
 unfold VC at h;split at h;case h_2=>cases h
 rename_i cs ds O A;split at h;case isFalse=>cases h
 rename_i G;obtain⟨z,j⟩:=G;obtain⟨us,rfl,g1⟩:=L;obtain⟨vs,rfl,g2⟩:=hb;have i:P.fieldsOf t=O:=by unfold Program.fieldsOf;rw[A]
 have e:P.underlying t=some (.struct (P.fieldsOf t)):=by rw[i];exact A
 split at h;rename_i r f;cases h;have g:=jb (w:=w) (d:=9998) (X:=us.toArray) (Y:=vs.toArray) f g1 g2 rfl rfl;refine⟨.bool r,?_,rfl,rfl,rfl⟩;rw[wV,run_eqGuard_agg w _ t x y _ _ j,vZ,run_eql_struct,run_equalIn_struct w 9999 t _ _ e z,i,g];rfl;rename_i r f;cases h;have g:=jb (w:=w) (d:=9998) (X:=us.toArray) (Y:=vs.toArray) f g1 g2 rfl rfl;refine⟨.bool (!r),?_,rfl,rfl,rfl⟩;rw[wV,run_eqGuard_agg w _ t x y _ _ j,vZ,run_neq_struct,run_equalIn_struct w 9999 t _ _ e z,i,g];rfl;cases h
end Go.Eng
namespace Go.Eng
open Go.RowKit
def FV(P:Program)(t:TypeId)(p:RV):Option Core:=if iy P t=some false then match p with|(.ptr nm g i 0,some (.mat _ _ _ xss []))=>some {need:=[Dk xss=g],val:=.row nm g i (Dk (Du xss i []))}|(.ptr _ g i 0,some (.mat _ _ _ xss [(j,v)]))=>some {need:=[Dk xss=g,i=j],val:=v}|(.rptr _ g i k j,some (.mat _ _ e xss []))=>some {need:=[Dk xss=g,Dk (Du xss i [])=k],val:=.dat e (Du (Du xss i []) j e.dflt)}|_=>none else none
variable {w:World}{P:Program}{t:TypeId}
def mc{bl off:Nat}{u:Value}(b:iy P t=some false)(h:w.cell? ⟨bl,off,none⟩=some u):
  (Instr.loadAt t (.pointer (some ⟨bl,off,none⟩))).run P w=.ok u w:=by
 simp[Instr.loadAt,Instr.sureAddr,loadVar,lF b,h]
def aQ.matCells{S:Base}{σ:Sig}{a:Act}{w:World}{D:Nat->Prop}{E:Nat->Ent}(h:aQ S σ a w D E){f:Nat}{el i:TypeId}{e:Ty}{xss:List (List e.den)}{ov:List (Nat×AV)}(hm:σ.m f=some (.mat el i e xss ov))(g:(E f).isNil=false):
  e.sz=1/\∃raw,w.ownsRow 0 el 1 (.slice (some ⟨(E f).b,0,none⟩) xss.length (E f).cap) xss.length raw/\aAx S.P 0 ⟨w,D,σ.m,E⟩ (E f) i e xss ov raw:=by
 obtain⟨u,raw,j,r⟩:=h.bl f _ hm;have v:(E f).handle xss.length=.slice (some ⟨(E f).b,0,none⟩) xss.length (E f).cap:=by unfold Ent.handle;rw[g];rfl
 rw[v]at j;exact⟨u,raw,j,r⟩
def Lu{C:Ctx}{e:Ty}{row:List e.den}{raw:Lv}(h:ct P C e row [] raw)(g:e.sz=1)(v:raw.length=row.length*1){j:Nat}(i:j<row.length)(d:e.den):∃u,raw[j]?=some u/\ag C.w C.D e (row.getD j d) [u]:=by
 have f:=h j _ (getElem?_getD (d:=d) i);simp only[List.lookup]at f;have b:j<raw.length:=Z;refine⟨raw[j],qB b,?_⟩;have r:(raw.drop (j*e.sz)).take e.sz=[raw[j]]:=by
  rw[g,xG];apply xM;intro q;rw[vX];cases q with
  |zero=>simp[b]|succ q=>simp
 rw[r]at f;exact f
variable {c:Core}{S:Base}{D:Nat->Prop}{a:Act}{E:Nat->Ent}{σ:Sig}
def LV(h:aQ S σ a w D E){p:RV}{v:Value}
  (hb:p.2=cL σ.m p.1) (y:FV S.P t p=some c) (V:∀q∈c.need,q) (hp:p.1.rel S.P ⟨w,D,σ.m,E⟩ v):
  ∃r,(Instr.loadAt t v).run S.P w=.ok r w/\c.val.rel S.P ⟨w,D,σ.m,E⟩ r/\c.upd=[]/\c.new=none:=by
 unfold FV at y;split at y;case isFalse=>cases y
 rename_i ha;split at y;rename_i x g i el f e xss;cases y;have hm:σ.m x=some (.mat el f e xss []):=hb.symm;have L:xss.length=g:=V _ (by simp);obtain⟨q1,G,T⟩:=(hp _ hm).2 L;have G:(E x).isNil=false:=G;obtain⟨hz,raw,r1,O⟩:=h.matCells hm G;have hi:i<xss.length:=Z;obtain⟨u,g1,g2⟩:=O i _ (getElem?_getD (d:=[]) hi);simp only[List.lookup]at g2;have A:v=.pointer (some ⟨(E x).b,i,none⟩):=by
  rw[T];show Value.pointer (some ⟨(E x).b,i*1+0,none⟩)=_;rw[xG,xZ]
 rw[A];refine⟨u,mc ha (by rw[r1.cellAt i Z];exact g1),λb hb'=>?_,rfl,rfl⟩;have eb:b=.mat el f e xss []:=wZ (hb'.symm.trans hm);subst eb;obtain⟨ao,cap,r3,k1,_,k2⟩:=g2;exact⟨xO L.symm,λ_=>⟨ao,cap,k1,λhp0=>(k2 hp0).1⟩⟩;rename_i x g i el f e xss j av;cases y;have hm:σ.m x=some (.mat el f e xss [(j,av)]):=hb.symm;have L:xss.length=g:=V _ (by simp);have X:i=j:=V _ (by simp);subst X;obtain⟨q1,G,T⟩:=(hp _ hm).2 L;have G:(E x).isNil=false:=G;obtain⟨hz,raw,r1,O⟩:=h.matCells hm G;have hi:i<xss.length:=Z;obtain⟨u,g1,g2⟩:=O i _ (getElem?_getD (d:=[]) hi);simp only[List.lookup,xE]at g2;have A:v=.pointer (some ⟨(E x).b,i,none⟩):=by
  rw[T];show Value.pointer (some ⟨(E x).b,i*1+0,none⟩)=_;rw[xG,xZ]
 rw[A];exact⟨u,mc ha (by rw[r1.cellAt i Z];exact g1),g2.2,rfl,rfl⟩;rename_i x g i k j el f e xss;cases y;have hm:σ.m x=some (.mat el f e xss []):=hb.symm;have L:xss.length=g:=V _ (by simp);have X:(xss.getD i []).length=k:=V _ (by simp);obtain⟨q1,T⟩:=(hp _ hm).2 L;have hi:i<xss.length:=by
  rcases zT i xss.length with g|g;exact g;rw[qA,zD g]at X;simp at X;omega
 obtain⟨hz,raw,r1,O⟩:=h.bl x _ hm;obtain⟨u,g1,g2⟩:=O i _ (getElem?_getD (d:=[]) hi);simp only[List.lookup]at g2;obtain⟨ao,cap,r3,k1,_,k2⟩:=g2;have hjl:j<(xss.getD i []).length:=by rw[X];exact q1
 obtain⟨k3,k4,k5⟩:=k2 Z;subst k3;rw[k1]at k4;obtain⟨z,z1,z2⟩:=Lu k5 hz k4.1 hjl e.dflt;rw[T];exact⟨z,mc ha (by rw[k4.cellAt j Z];exact z1),z2,rfl,rfl⟩;cases y
def zm(P:Program)(t:TypeId)(p:RV)(i:AV):Option Core:=match db P t,i with
 |some e,.dat (.int _) i=>if sizeT P e=some 1 then match p with
  |(.buf nm n,some (.mat _ _ _ xss _))=>some (uS nm n (Dk xss) i)|(.row nm g r k,some (.mat _ _ _ xss _))=>some {need:=[Dk xss=g,0<=i,i<(k:Int)],val:=.rptr nm g r k (Dc i)}|_=>none
  else none
 |_,_=>none
def Jn(h:aQ S σ a w D E){p:RV}{i:AV}{v vi:Value}
  (hb:p.2=cL σ.m p.1) (y:zm S.P t p i=some c) (L:∀q∈c.need,q) (hp:p.1.rel S.P ⟨w,D,σ.m,E⟩ v) (hi:i.rel S.P ⟨w,D,σ.m,E⟩ vi):
  ∃r,(Instr.indexAt t v vi).run S.P w=.ok r w/\c.val.rel S.P ⟨w,D,σ.m,E⟩ r/\c.upd=[]/\c.new=none:=by
 unfold zm at y;split at y;case h_2=>cases y
 rename_i e k i he;have hu:=cI he;simp only[AV.rel,ag,vH,vW]at hi;subst hi;split at y;case isFalse=>cases y
 rename_i hs;have O:=bK hs w;obtain⟨i,rfl⟩:∃j:Int,j=i:=⟨i,rfl⟩;split at y;rename_i u n el x X xss ov;cases y;have hm:σ.m u=some (.mat el x X xss ov):=hb.symm;have f:xss.length=n:=L _ (by simp[uS]);have h0:(0:Int)<=i:=L _ (by simp[uS]);have h1:i<(xss.length:Int):=L _ (by simp[uS]);obtain⟨g1,g2⟩:=hp _ hm;have e2:=g2 f;have z:(E u).isNil=false:=by
  cases hq:(E u).isNil with
  |false=>rfl|true=>
   obtain⟨_,raw,r1,r2⟩:=h.bl u _ hm;have e3:(E u).handle xss.length=.slice none 0 0:=by unfold Ent.handle;rw[hq];rfl
   rw[e3]at r1;rcases r1.2 with⟨_,hz⟩|⟨g,cap,cur,G,_⟩;omega;cases G
 have e3:(E u).handle n=.slice (some ⟨(E u).b,0,none⟩) n (E u).cap:=by unfold Ent.handle;rw[z];rfl
 have e4:v=.slice (some ⟨(E u).b,0,none⟩) n (E u).cap:=e2.trans e3;subst e4;have V:i<(n:Int):=by rw[<- f];exact h1
 refine⟨.pointer (some ⟨(E u).b,i.toNat*1,none⟩),?_,λb' A=>?_,rfl,rfl⟩;simp[Instr.indexAt,asIntOf,vN hu,h0,V,O,xQ];have eb:b'=.mat el x X xss ov:=wZ (A.symm.trans hm);subst eb;exact⟨xO f.symm,λ_=>⟨(by have h9:i<(n:Int):=V;exact(show i.toNat<n by omega)),z,by simp[Blk.es]⟩⟩;rename_i u g r kk el x X xss ov;cases y;have hm:σ.m u=some (.mat el x X xss ov):=hb.symm;have f:xss.length=g:=L _ (by simp);have h0:(0:Int)<=i:=L _ (by simp);have h1:i<(kk:Int):=L _ (by simp);obtain⟨ao,cap,G,T⟩:=(hp _ hm).2 f;have hao:=T Z;rw[hao]at G;have G:v=.slice (some ⟨((E u).rb r).1,0,none⟩) kk cap:=G;subst G;refine⟨.pointer (some ⟨((E u).rb r).1,i.toNat*1,none⟩),?_,λb' A=>?_,rfl,rfl⟩;simp[Instr.indexAt,asIntOf,vN hu,h0,h1,O,xQ];have eb:b'=.mat el x X xss ov:=wZ (A.symm.trans hm);subst eb;exact⟨xO f.symm,λ_=>⟨(show i.toNat<kk by omega),by rw[xG]⟩⟩;cases y
def vR(P:Program)(t:TypeId)(p v:RV):Option Core:=match Ip v,sizeT P t with
 |some ns,some 1=>if O0 v.1=false then match p with
  |(.ptr nm g i 0,some (.mat el eli e xss []))=>some {need:=[Dk xss=g]++ns,val:=.val undef,upd:=[(nm,.mat el eli e xss [(i,v.1)])]}|(.rptr nm g i k j,some (.mat el eli e xss []))=>match v.1.aa e with
   |some y=>some {need:=[Dk xss=g,Dk (Du xss i [])=k]++ns,val:=.val undef,upd:=[(nm,.mat el eli e (Em (α:=List e.den) xss i (Em (Du xss i []) j y)) [])]}|none=>none
  |_=>none
  else none
 |_,_=>none
def aQ.turnRow{S:Base}{σ:Sig}{a:Act}{w:World}{D:Nat->Prop}{E:Nat->Ent}(h:aQ S σ a w D E){x i:Nat}{el v:TypeId}{e:Ty}{xss:List (List e.den)}(hm:σ.m x=some (.mat el v e xss []))(hi:i<xss.length)(hp:0<(xss.getD i []).length)
  {row:List e.den} (hl:row.length=(xss.getD i []).length) (cs:Array Value)
  (hrow:∀C',Later ⟨w,D,σ.m,E⟩ C'->C'.w=w.setRow ((E x).rb i).1 cs->∀u,J9 S.P 0 ⟨w,D,σ.m,E⟩ (E x) v e i (xss.getD i []) u->J9 S.P 0 C' (E x) v e i row u):
  aQ S ⟨σ.T,upM σ.m [(x,.mat el v e (Em (α:=List e.den) xss i row) [])],σ.sv⟩ a (w.setRow ((E x).rb i).1 cs) D E:=by
 have X:cB σ.m E x i ((E x).rb i).1:=⟨el,v,e,xss,[],xss.getD i [],hm,rfl,getElem?_getD hi,hp,rfl⟩;obtain⟨o1,o2,o3⟩:=h.pv.own _ _ _ X;have other:∀k,k≠((E x).rb i).1->(w.setRow ((E x).rb i).1 cs).heap[k]?=w.heap[k]?:=λk y=>setRow_other w _ k cs y;have old:∀k f,upM σ.m [(x,.mat el v e (Em (α:=List e.den) xss i row) [])] k=some f->(k=x/\f=.mat el v e (Em (α:=List e.den) xss i row) [])\/(k≠x/\σ.m k=some f):=λk f y=>by
  rw[dc]at y;split at y;rename_i O;cases y;exact .inl ⟨O,rfl⟩;rename_i O;exact .inr ⟨O,y⟩
 have L:Later ⟨w,D,σ.m,E⟩ ⟨w.setRow ((E x).rb i).1 cs,D,upM σ.m [(x,.mat el v e (Em (α:=List e.den) xss i row) [])],E⟩:=⟨λ_ g=>g,λb hb=>other b λO=>o3 (O▸hb)⟩;have V:(Em (α:=List e.den) xss i row).length=xss.length:=by rw[Em,yJ]
 have rowAt:∀k r,(Em (α:=List e.den) xss i row)[k]?=some r->k<xss.length/\((k=i/\r=row)\/(k≠i/\xss[k]?=some r)):=λk r y=>by
  have z:k<xss.length:=by have:=(qG.1 y).1;rwa [V]at this
  have A:(List.set xss i row)[k]?=some r:=y;rw[yK]at A;split at A;rename_i O;subst O;simp only[z,kT,wQ]at A;exact⟨z,.inl ⟨rfl,A.symm⟩⟩;rename_i O;exact⟨z,.inr ⟨λq=>O q.symm,A⟩⟩
 refine h.go (m':=upM σ.m [(x,.mat el v e (Em (α:=List e.den) xss i row) [])]) (E':=E) L (λk=>.inl λf hb'=>?_) (λk f y=>?_) (λk f y G=>?_) (λk k' b1 b2 y A hi1 hi2 hbb=>?_)
  (h.low.step rfl rfl rfl (by simp) λk y hno=>other k λO=>?_) (λb hb=>by simpa using h.dlt b hb) (λb hb=>.inl hb) (h.pv.step (λk j r hr=>?_) (by simp) (λb hb=>.inl hb) λk f y G=>?_)
 rcases old k f hb' with⟨rfl,rfl⟩|⟨g1,g2⟩;exact⟨_,hm,rfl,xO V.symm,λ_=>rfl⟩;exact⟨f,g2,rfl,qM _,λ_=>rfl⟩;rcases old k f y with⟨rfl,rfl⟩|⟨g1,g2⟩;right;obtain⟨hz,raw,r1,r2⟩:=h.bl k _ hm;refine⟨hz,raw,?_,λq r hq=>?_⟩;rw[V];refine gn (λg' n' c hh=>?_) r1;obtain⟨q1,rfl⟩:=Js hh;exact other _ (h.pv.ent k i _ X k _ hm q1);obtain⟨z,⟨rfl,rfl⟩|⟨hne,hq'⟩⟩:=rowAt q r hq;obtain⟨u,g1,g2⟩:=r2 q _ (getElem?_getD (d:=[]) z);simp only[List.lookup]at g2 ⊢;exact⟨u,g1,hrow _ L rfl u g2⟩;obtain⟨u,g1,g2⟩:=r2 q r hq';simp only[List.lookup]at g2 ⊢;refine⟨u,g1,?_⟩;obtain⟨ao,cap,r3,k1,k0,k2⟩:=g2;refine⟨ao,cap,r3,k1,k0,λhpr=>?_⟩;obtain⟨k3,k4,k5⟩:=k2 hpr;refine⟨k3,gn (λg' n' c hh=>?_) k4,bv (C:=⟨w,D,σ.m,E⟩) L (λx h=>by cases h) k5⟩;rw[k1,k3]at hh;simp at hh;rw[<- hh.1];refine other _ λO=>hne ?_;exact(h.pv.inj k q _ k i ⟨el,v,e,xss,[],r,hm,rfl,hq',hpr,rfl⟩ (O▸X)).2;left;refine⟨g2,rfl,λG=>other _ (h.pv.ent x i _ X k f g2 G),λq r hr=>other _ λO=>g1 ?_⟩;exact(h.pv.inj k q r x i (aR.2 ⟨f,g2,hr⟩) (O▸X)).1;rcases old k f y with⟨rfl,rfl⟩|⟨g1,g2⟩;simpa using h.own k _ hm G;simpa using h.own k f g2 G;have up:∀k f,upM σ.m [(x,.mat el v e (Em (α:=List e.den) xss i row) [])] k=some f->∃b0,σ.m k=some b0:=λk f y=>by
  rcases old k f y with⟨rfl,rfl⟩|⟨_,g2⟩;exact⟨_,hm⟩;exact⟨_,g2⟩
 obtain⟨c1,z1⟩:=up k b1 y;obtain⟨c2,z2⟩:=up k' b2 A;exact h.inj k k' c1 c2 z1 z2 hi1 hi2 hbb;rcases o1 with g|g;omega;exact hno (O▸g);obtain⟨f,g1,g2⟩:=aR.1 hr;rcases old k f g1 with⟨rfl,rfl⟩|⟨q1,q2⟩;obtain⟨el2,eli2,e2,xs2,ov2,r2,hx,p1,p2,p3,p4⟩:=g2;cases hx;obtain⟨z,⟨rfl,rfl⟩|⟨hne,hq'⟩⟩:=rowAt j r2 p2;exact⟨_,_,_,_,_,_,hm,rfl,getElem?_getD (d:=[]) z,hp,p4⟩;exact⟨_,_,_,_,_,_,hm,rfl,hq',p3,p4⟩;exact aR.2 ⟨f,q2,g2⟩;rcases old k f y with⟨rfl,rfl⟩|⟨g1,g2⟩;exact .inr ⟨k,_,hm,G,rfl⟩;exact .inr ⟨k,f,g2,G,rfl⟩
def Hv(h:aQ S σ a w D E){p v:RV}{vp u:Value}
  (hbp:p.2=cL σ.m p.1) (hbv:v.2=cL σ.m v.1) (A:vR S.P t p v=some c) (hn:∀q∈c.need,q)
  (hp:p.1.rel S.P ⟨w,D,σ.m,E⟩ vp) (hv:v.1.rel S.P ⟨w,D,σ.m,E⟩ u):
  c.new=none/\c.val=.val undef/\∃w',(Instr.storeAt t vp u).run S.P w=.ok () w'/\∃D E,aQ S ⟨σ.T,upM σ.m c.upd,σ.sv⟩ a w' D E:=by
 unfold vR at A;split at A;case h_2=>cases A
 rename_i ns hone hsz;split at A;case isFalse=>cases A
 rename_i hagg;have ones:(∀q∈ns,q)->∃z:Value,u.cells=[z].toArray/\v.1.rel S.P ⟨w,D,σ.m,E⟩ z/\z.oneCell'=true:=λhns=>by
  obtain⟨us,g1,g2,g3⟩:=od hbv hone hns hv;have hcv:cM v.1=[v.1]:=by
   cases O:v.1<;>first|rfl|(rw[O]at hagg;cases hagg)
  rw[hcv]at g2;obtain⟨z,us',e,q1,V⟩:=g2;simp only[zA1]at V;subst V e;exact⟨z,g1,q1,g3 z (by simp)⟩
 split at A;rename_i f g i el G e xss;cases A;have hm:σ.m f=some (.mat el G e xss []):=hbp.symm;have e1:xss.length=g:=hn _ (by simp);obtain⟨z,z1,z2,z3⟩:=ones (λq O=>hn q (by simp[O]));obtain⟨q1,V,q3⟩:=(hp _ hm).2 e1;have V:(E f).isNil=false:=V;obtain⟨hz,raw,r1,r2⟩:=h.matCells hm V;have hi:i<xss.length:=Z;obtain⟨cur,p1,p2,p3⟩:=fQ r1 i [z] (by simp;omega);have q3':vp=.pointer (some ⟨(E f).b,i,none⟩):=by
  rw[q3];show Value.pointer (some ⟨(E f).b,i*1+0,none⟩)=_;rw[xG,xZ]
 refine⟨rfl,rfl,_,by rw[q3'];exact fX (P:=S.P) (t:=t) (us:=[z]) p1 hsz z1 p2 (λy hy=>by rw[vI.1 hy];exact z3),?_⟩;refine aQ.stored (b:=.mat el G e xss [(i,v.1)]) h hm V rfl rfl _ (λC' L N hw=>?_) (λk r hr=>?_);refine⟨hz,raw.take i++[z]++raw.drop (i+[z].length),?_,λk row hk=>?_⟩;have e3:(E f).handle xss.length=.slice (some ⟨(E f).b,0,none⟩) xss.length (E f).cap:=by unfold Ent.handle;rw[V];rfl
 rw[hw,e3];exact p3;have hk1:k<xss.length:=(qG.1 hk).1;have hrl:raw.length=xss.length*1:=r1.1;by_cases hki:k=i;subst hki;refine⟨z,?_,?_⟩;rw[vO,vJ (by rw[qP];omega),qP];rw[show k-min k raw.length=0 by omega];rfl;simp only[List.lookup,xE];exact⟨z3,zA5 L (λx _=>N x) z2⟩;obtain⟨y,g1,g2⟩:=r2 k row hk;simp only[List.lookup]at g2;have hkb:(k==i)=false:=by simpa using hki
 refine⟨y,?_,?_⟩;rcases zT k i with hlt|hge;rw[vO,vS (by rw[qP];omega),vX,if_pos hlt];exact g1;rw[vJ (by rw[qF,qP];simp;omega),vM];rw[qF,qP,qL];rw[show i+1+(k-(min i raw.length+1))=k by omega];exact g1;simp only[List.lookup,hkb];obtain⟨ao,cap,r3,k1,k0,k2⟩:=g2;refine⟨ao,cap,r3,k1,k0,λhpr=>?_⟩;obtain⟨k3,k4,k5⟩:=k2 hpr;refine⟨k3,gn (λg' n' c hh=>?_) k4,bv (C:=⟨w,D,σ.m,E⟩) L (λf h=>by cases h) k5⟩;rw[k1,k3]at hh;simp at hh;rw[<- hh.1,hw];refine setRow_other w _ _ _ λek=>?_;exact h.pv.ent f k _ ⟨el,G,e,xss,[],row,hm,rfl,hk,hpr,rfl⟩ f _ hm V ek.symm;obtain⟨el2,eli2,e2,xs2,ov2,r2',hx,s1,s2,s3,s4⟩:=hr;cases hx;exact⟨_,_,_,_,_,_,rfl,rfl,s2,s3,s4⟩;rename_i f g i k j el G e xss;split at A;case h_2=>cases A
 rename_i y hy;cases A;have hm:σ.m f=some (.mat el G e xss []):=hbp.symm;have e1:xss.length=g:=hn _ (by simp);have e2:(xss.getD i []).length=k:=hn _ (by simp);obtain⟨z,z1,z2,z3⟩:=ones (λq O=>hn q (by simp[O]));obtain⟨q1,q3⟩:=(hp _ hm).2 e1;have hi:i<xss.length:=by
  rcases zT i xss.length with g|g;exact g;rw[qA,zD g]at e2;simp at e2;omega
 have hzy:ag w D e y [z]:=zB8 hy z2;obtain⟨hz,raw,r1,r2⟩:=h.bl f _ hm;obtain⟨uu,g1,g2⟩:=r2 i _ (getElem?_getD (d:=[]) hi);simp only[List.lookup]at g2;have hjl:j<(xss.getD i []).length:=by rw[e2];exact q1
 obtain⟨ao,cap,r3,k1,k0,k2⟩:=g2;obtain⟨k3,k4,k5⟩:=k2 Z;rw[k1,k3]at k4;have hfit:j+[z].length<=(xss.getD i []).length*1:=by rw[qL];omega
 obtain⟨cur,p1,p2,p3⟩:=fQ k4 j [z] hfit;refine⟨rfl,rfl,_,by rw[q3];exact fX (P:=S.P) (t:=t) (us:=[z]) p1 hsz z1 p2 (λy hy=>by rw[vI.1 hy];exact z3),D,E,?_⟩;refine h.turnRow hm hi Z (row:=Em (Du xss i []) j y) (by rw[Em,yJ]) _ λC' L hw u' hu'=>?_;obtain⟨ao',cap',r3',k1',k0',k2'⟩:=hu';obtain⟨k3',k4',k5'⟩:=k2' Z;have hlen:(Em (Du xss i []) j y).length=(xss.getD i []).length:=by rw[Em,yJ]
 rw[k1',k3']at k4';have hcap:cap'=cap/\r3'=r3:=by
  rcases k4.2 with⟨O,_⟩|⟨gg,cc,cu,O,_,hh,_,_,hcs,ht⟩;cases O;rcases k4'.2 with⟨X,_⟩|⟨gg',cc',cu',X,_,hh',hn1,hn2,hcs',ht'⟩;cases X;simp only[yF,wQ,qAd,vW,yD]at O X;obtain⟨rfl,rfl⟩:=O;obtain⟨rfl,rfl⟩:=X;rw[hh]at hh';cases hh';exact⟨Z,ht'.symm.trans ht⟩
 obtain⟨rfl,rfl⟩:=hcap;refine⟨ao',cap',r3'.take j++[z]++r3'.drop (j+[z].length),by rw[hlen];exact k1',k0',λ_=>⟨k3',?_,?_⟩⟩;rw[k1',k3',hw,hlen];exact p3;have fin:=pO (P:=S.P) (C:=C') (t:=e) (us:=[z]) (ov:=[]) (i:=j) (y:=y) (by rw[k4.1,hz]) hjl (λk a hk=>by simp at hk) (bv (C:=⟨w,D,σ.m,E⟩) L (λf h=>by cases h) k5') (by rw[hz];rfl) (ax L.D L.w hzy);rw[hz,xG]at fin;exact fin;cases A
def aAG(op:BinOp):AV->AV->Option Core
 |.dat (.int k) x,.dat (.int k') y=>if k=k' then match op with
  |.add=>some {val:=.dat (.int k) (Ep k (Dq x y))}|.sub=>some {val:=.dat (.int k) (Ep k (Di x y))}|.mul=>some {val:=.dat (.int k) (Ep k (Ei x y))}|_=>none
  else none
 |_,_=>none
def TR{C:Ctx}{op:BinOp}{x y:Operand}{a b:AV}{u v:Value}(h:aAG op a b=some c)
  (g:a.rel P C u) (hb:b.rel P C v):
  ∃r,(do eqGuard op t x y u v;binOp op t u v).run P w=.ok r w/\c.val.rel P C r/\c.upd=[]:=by
 unfold aAG at h;split at h;rename_i k f k' e;split at h;case isFalse=>cases h
 rename_i i;subst i;simp only[AV.rel,ag,vH,vW]at g hb;subst g hb;split at h;cases h;exact⟨.int k (k.wrap (f+e)),by simp[fi,lZ.1,Op.intArith],rfl,rfl⟩;cases h;exact⟨.int k (k.wrap (f-e)),by simp[fi,lZ.2.1,Op.intArith],rfl,rfl⟩;cases h;exact⟨.int k (k.wrap (f*e)),by simp[fi,lZ.2.2,Op.intArith],rfl,rfl⟩;cases h;cases h
end Go.Eng
namespace Go.Eng
open Go.RowKit
def LX(P:Program)(mt:Bool)(nx:Nat)(t:TypeId)(len:Nat)(idxs:List Nat)(vs:List RV):Option Core:=match db P t,vs with
 |some e,[(.buf nm2 n2,some b2)]=>match P4 P e,Ip (.buf nm2 n2,some b2)with
  |some (.sl ty'),some ns=>if mt=true/\len=1/\idxs=[0]/\UO P e=true then some {need:=ns,val:=.buf nx 1,upd:=[(nx,.buf e (.sl ty') [([]:List ty'.den)] [(0,.buf nm2 n2)])],new:=some nx} else none|_,_=>none
 |_,_=>none
variable {D:Nat->Prop}{E:Nat->Ent}
def QJ{S:Base}{σ:Sig}{a:Act}{w:World}(h:aQ S σ a w D E){mt:Bool}{nx len:Nat}{t:TypeId}{A:List Nat}{vs:List RV}{vals:Lv}{c:Core}
  (hb:∀v∈vs,v.2=cL σ.m v.1) (G:LX S.P mt nx t len A vs=some c) (hn:∀q∈c.need,q) (hr:zA1 S.P ⟨w,D,σ.m,E⟩ (vs.map (·.1)) vals) (hu:∀k,c.new=some k->Unm k σ):
  ∃r w',(Instr.buildSlice t len (A.zip vals).toArray).run S.P w=.ok r w'/\Outcome S ⟨σ.T,upM σ.m c.upd,σ.sv⟩ a c.val r w':=by
 unfold LX at G;split at G;case h_2=>cases G
 rename_i e j n2 b2 he;split at G;case h_2=>cases G
 rename_i f ns hty hone;split at G;case isFalse=>cases G
 rename_i L;obtain⟨_,h2,h3,h4⟩:=L;cases G;subst h2 h3;obtain⟨u,us0,rfl,hv,h0⟩:=hr;simp only[qBx,zA1]at h0;subst h0;have hbv:(some b2:Option Blk)=cL σ.m (.buf j n2):=hb _ (wF);have hm2:σ.m j=some b2:=hbv.symm;obtain⟨us,g1,g2,g3⟩:=od (C:=⟨w,D,σ.m,E⟩) hbv hone hn hv;obtain⟨z,us',e1,z2,q2⟩:=g2;simp only[zA1]at q2;subst q2 e1;have z3:=g3 z (by simp);have hsz:=Hj hty;have V:=Lh (w:=w) (ty:=.sl f) (vals:=[u]) (uss:=[[z]]) he hsz h4 (by show 1*1<=16777216;omega) rfl (λi v us O hus=>by
  cases i with
  |zero=>cases O;cases hus;exact⟨g1,rfl⟩
  |succ i=>simp at O)
 have hnx:=(hu nx rfl);have hne:j≠nx:=λek=>by
  have:=hnx.1;rw[<- ek,hm2]at this;cases this
 refine⟨_,_,V,?_⟩;have X:(w.alloc (.cells [[z]].flatten.toArray e)).ownsRow 0 e 1 (.slice (some ⟨w.heap.size,0,none⟩) 1 1) 1 [z]:=by
  have:=World.ownsRow_lit (base:=0) (e:=e) (size:=1) w [z].toArray 1 (wU _) (by unfold maxLen;omega) (by simp);simpa using this
 have e3:upE E nx (⟨w.heap.size,1,false,noR⟩:Ent) nx=⟨w.heap.size,1,false,noR⟩:=by simp[upE]
 refine⟨D,upE E nx ⟨w.heap.size,1,false,noR⟩,h.newBlk hnx (mJ w _) (λ_=>⟨rfl,by rw[yG];omega⟩) ⟨[z],X,?_⟩,λb x=>?_⟩;intro i y hy;cases i with
 |succ i=>simp at hy|zero=>
  simp only[List.lookup,xE];refine⟨rfl,z,rfl,z3,zA5 (C:=⟨w,D,σ.m,E⟩) (C':=⟨w.alloc (.cells [[z]].flatten.toArray e),D,upM σ.m [(nx,.buf e (.sl f) [([]:List f.den)] [(0,.buf j n2)])],upE E nx ⟨w.heap.size,1,false,noR⟩⟩) ⟨λb hb=>hb,λb hb=>kC w _ b (h.dlt b hb)⟩ (λk hk=>?_) z2⟩;have ek:k=j:=by simpa[AV.names]using hk
  subst ek;intro b' g;replace g:upM σ.m [(nx,.buf e (.sl f) [([]:List f.den)] [(0,.buf k n2)])] k=some b':=g;rw[dc,if_neg hne]at g;exact⟨b',g,rfl,qM _,λ_=>by show upE E nx _ k=E k;simp[upE,hne]⟩
 replace x:upM σ.m [(nx,.buf e (.sl f) [([]:List f.den)] [(0,.buf j n2)])] nx=some b:=x;rw[dc,if_pos rfl]at x;cases x;refine⟨qM _,λ_=>?_⟩;show _=(upE E nx _ nx).handle _;rw[e3];rfl
def M6(P:Program)(t:TypeId)(s x:RV):Option Core:=match db P t,s,x with
 |some e',(.buf nm n,some (.mat el eli e xss [])),(.buf _ 1,some (.buf el3 (.sl e2) [_] [(0,v)]))=>if el=e' then match vy P el (.sl e)with
  |some bytes=>some {need:=[Dk xss=n]++mI (Ec n 1) bytes,val:=.buf nm (Ec n 1),upd:=[(nm,.mat el eli e (Ee (α:=List e.den) xss [[]]) [(Dk xss,v)])]}|none=>none
  else none
 |_,_,_=>none
def RF{S:Base}{σ:Sig}{a:Act}{w:World}(h:aQ S σ a w D E){t oty:TypeId}{s x:RV}{c:Core}{vs vx:Value}
  (hbs:s.2=cL σ.m s.1) (hbx:x.2=cL σ.m x.1) (hc:M6 S.P t s x=some c) (hn:∀q∈c.need,q)
  (hs:s.1.rel S.P ⟨w,D,σ.m,E⟩ vs) (hx:x.1.rel S.P ⟨w,D,σ.m,E⟩ vx):
  c.new=none/\∃r w',(Builtin.append_ #[t,t] oty #[vs,vx]).run S.P w=.ok r w'/\Outcome S ⟨σ.T,upM σ.m c.upd,σ.sv⟩ a c.val r w':=by
 unfold M6 at hc;split at hc;case h_2=>cases hc
 rename_i el' A n el G e xss f el3 e2 r0 v he;split at hc;case isFalse=>cases hc
 rename_i hel;subst hel;split at hc;case h_2=>cases hc
 rename_i bytes hz;cases hc;have hue:=cI he;obtain⟨i,z,hi,hz1,hz2,hz3,hz4⟩:=jD hz;have hzs:z.cells.size=(Ty.sl e).sz:=by rw[<- vU,hz4,bm]
 have hm:σ.m A=some (.mat el G e xss []):=hbs.symm;have hm3:σ.m f=some (.buf el3 (.sl e2) [r0] [(0,v)]):=hbx.symm;have hlen:xss.length=n:=hn _ (by simp);have hb1:(n+1)*bytes<=140737488355328:=hn _ (by simp only[mI,qJ];exact .inr (.head _));have hb2:n+1<=9223372036854775807:=hn _ (by simp only[mI,qJ];exact .inr (.tail _ (.head _)));have hv:=(hs _ hm).2 hlen;have hvx:=(hx _ hm3).2 rfl;obtain⟨hz0,raw,r1,r2⟩:=h.bl A _ hm;rw[hlen]at r1;obtain⟨V,t1,t2⟩:=h.bl f _ hm3;obtain⟨_,u,u1,u2,u3⟩:(Ty.sl e2).sz=1/\∃u,V[0]?=some u/\u.oneCell'=true/\v.rel S.P ⟨w,D,σ.m,E⟩ u:=by
  have:=t2 0 r0 rfl;simpa only[List.lookup,xE]using this
 have hl3:V.length=1:=t1.1;have hraw3:V=[u]:=by
  cases V with
  |nil=>simp at hl3|cons y l=>
   cases l with
   |nil=>simp at u1;rw[u1]|cons y2 l=>simp at hl3
 subst hraw3;have hnil3:(E f).isNil=false:=by
  cases hq:(E f).isNil with
  |false=>rfl|true=>
   have e3:(E f).handle ([r0]:List (Ty.sl e2).den).length=.slice none 0 0:=by unfold Ent.handle;rw[hq];rfl
   rw[e3]at t1;rcases t1.2 with⟨_,hz⟩|⟨g,cap,cur,hq,_⟩;simp at hz;cases hq
 have e30:(E f).handle ([r0]:List (Ty.sl e2).den).length=.slice (some ⟨(E f).b,0,none⟩) 1 (E f).cap:=by unfold Ent.handle;rw[hnil3];rfl
 have hvx2:vx=.slice (some ⟨(E f).b,0,none⟩) 1 (E f).cap:=by
  have:vx=(E f).handle ([r0]:List (Ty.sl e2).den).length:=hvx;rw[this,e30]
 rw[e30]at t1;have n2:=t1.cells rfl;have n1:([u]:Lv).length=1*(Ty.sl e).sz:=rfl;have n3:∀q∈([u]:Lv),q.oneCell'=true:=λq hq=>by rw[vI.1 hq];exact u2
 subst hvx2;have fin:∀(w':World) (v':Value) (bb cc:Nat),v'=.slice (some ⟨bb,0,none⟩) (n+1) cc->w'.os=w.os->w'.tape=w.tape->w'.output=w.output->w.heap.size<=w'.heap.size->
   (∀k,k<w.heap.size->((E A).isNil=false->k≠(E A).b)->w'.heap[k]?=w.heap[k]?)->
   ((bb=w.heap.size/\w.heap.size<w'.heap.size)\/((E A).isNil=false/\bb=(E A).b))->w'.ownsRow 0 el 1 v' (n+1) (raw++[u])->
   Outcome S ⟨σ.T,upM σ.m [(A,.mat el G e (xss++[[]]) [(xss.length,v)])],σ.sv⟩ a (.buf A (n+1)) v' w':=by
  intro w' v' bb cc hv' ho ht2 hout hsz hw hee hown;have hl2:(xss++[([]:List e.den)]).length=n+1:=by rw[qF,hlen];rfl
  have hle:(Blk.mat el G e xss []).len<=(Blk.mat el G e (xss++[[]]) [(xss.length,v)]).len:=by simp only[Blk.len,qF];omega
  have hsame:(Blk.mat el G e xss []).len=(Blk.mat el G e (xss++[[]]) [(xss.length,v)]).len->(⟨bb,cc,false,(E A).rb⟩:Ent)=E A:=λh0=>by
   simp only[Blk.len,qF,qL]at h0;omega
  obtain⟨L,N⟩:=h.turnLater (w':=w') (b:=.mat el G e (xss++[[]]) [(xss.length,v)]) hm (e:=⟨bb,cc,false,(E A).rb⟩) rfl hle hsame hw;refine⟨D,upE E A ⟨bb,cc,false,(E A).rb⟩,h.turnBlk hm (e:=⟨bb,cc,false,(E A).rb⟩) rfl hle hsame ho ht2 hout hsz hw (λ_=>hee) ⟨hz0,raw++[u],by rw[hl2];rw[hv']at hown;exact hown,λk row hk=>?_⟩ (λj k hr=>?_),λb hb=>?_⟩;have hk1:k<xss.length+1:=by have:=(qG.1 hk).1;rw[qF]at this;exact this
  have hrl:raw.length=xss.length:=by have:=r1.1;rw[xG]at this;omega
  by_cases hke:k=xss.length;subst hke;refine⟨u,by rw[vJ Z,hrl];simp,?_⟩;simp only[List.lookup,xE];exact⟨u2,zA5 L (λk _=>N k) u3⟩;have hklt:k<xss.length:=by omega
  rw[vS hklt]at hk;obtain⟨y,g1,g2⟩:=r2 k row hk;simp only[List.lookup]at g2;have hkb:(k==xss.length)=false:=by simpa using hke
  refine⟨y,by rw[vS Z];exact g1,?_⟩;simp only[List.lookup,hkb];obtain⟨ao,cap,r3,k1,k0,k2⟩:=g2;refine⟨ao,cap,r3,k1,k0,λhpr=>?_⟩;obtain⟨k3,k4,k5⟩:=k2 hpr;have hat:cB σ.m E A k ((E A).rb k).1:=⟨el,G,e,xss,[],row,hm,rfl,hk,hpr,rfl⟩;refine⟨k3,gn (λg' n' c hh=>?_) k4,bv (C:=⟨w,D,σ.m,E⟩) L (λA h=>by cases h) k5⟩;rw[k1,k3]at hh;simp at hh;rw[<- hh.1];exact hw _ (h.pv.own _ _ _ hat).2.1 λhi' ek=>h.pv.ent A k _ hat A _ hm hi' ek.symm;obtain⟨el2,eli2,t2',xs2,ov2,row2,hx2,s1,s2,s3,s4⟩:=hr;cases hx2;have hj:j≠xss.length:=λej=>by subst ej;simp[List.lookup]at s1
  have hjl:j<xss.length:=by
   have:=(qG.1 s2).1;rw[qF,qL]at this;omega
  rw[vS hjl]at s2;exact⟨el,G,e,xss,[],row2,rfl,rfl,s2,s3,s4⟩;replace hb:upM σ.m [(A,.mat el G e (xss++[[]]) [(xss.length,v)])] A=some b:=hb;rw[dc,if_pos rfl]at hb;cases hb;refine⟨by simp only[Blk.len];omega,λ_=>?_⟩;have:upE E A (⟨bb,cc,false,(E A).rb⟩:Ent) A=⟨bb,cc,false,(E A).rb⟩:=by simp[upE]
  show v'=(upE E A _ A).handle _;rw[this,hv'];rfl
 have h63:n+1<=maxLen:=by unfold maxLen;omega
 refine⟨rfl,?_⟩;obtain⟨v',w',q1,q2,O,_⟩:=qDy (P:=S.P) w 0 t oty el i z (Ty.sl e).sz bytes hue hi hz1 hz2 hz3 hzs (zA9 _) _ n raw r1 ⟨(E f).b,0,none⟩ 1 (E f).cap [u] n1 n2 n3 h63 hb1 (wU _);cases X:(E A).isNil with
 |true=>
  have e3:(E A).handle n=.slice none 0 0:=by unfold Ent.handle;rw[X];rfl
  have hn0:n=0:=by
   rw[e3]at r1;rcases r1.2 with⟨_,hz⟩|⟨g,cap,cur,hq,_⟩;exact hz;cases hq
  subst hn0;have hr:=qDz (P:=S.P) w t oty el i z hue hi hz1 ⟨(E f).b,0,none⟩ 1 (E f).cap [u] (by rw[hz2];exact n1) n2 Z Z (by rw[hz3];rw[zQ]at hb1;omega);rw[e3]at q1 O;rw[hr]at q1;cases q1;refine⟨_,_,by rw[hv,e3];exact hr,fin _ _ _ _ rfl O.os O.tape O.output O.size
   (λk hk _=>O.block k hk (by simp[Value.ownBlock])) (.inl ⟨rfl,by rw[yG];simp⟩) q2⟩
 |false=>
  have e3:(E A).handle n=.slice (some ⟨(E A).b,0,none⟩) n (E A).cap:=by unfold Ent.handle;rw[X];rfl
  rw[e3]at r1 q1 O;have hblk:∀k,k<w.heap.size->((E A).isNil=false->k≠(E A).b)->w'.heap[k]?=w.heap[k]?:=λk hk hne=>O.block k hk (by simp[Value.ownBlock];exact hne X);by_cases hroom:n+1<=(E A).cap;obtain⟨w2,p1,p2,p3⟩:=run_append_fits (P:=S.P) w 0 t oty el i (Ty.sl e).sz hue hi hz2 (E A).b n (E A).cap raw r1 ⟨(E f).b,0,none⟩ 1 (E f).cap [u] n1 n2 n3 hroom;rw[p1]at q1;cases q1;exact⟨_,_,by rw[hv,e3];exact p1,fin _ _ _ _ rfl O.os O.tape O.output O.size hblk (.inr ⟨X,rfl⟩) q2⟩;have hr:=run_append_grow (P:=S.P) w t oty el i z hue hi hz1 ⟨(E A).b,0,none⟩ n (E A).cap raw (by rw[hz2];exact r1.1) (r1.cells rfl) ⟨(E f).b,0,none⟩ 1 (E f).cap [u] (by rw[hz2];exact n1) n2 Z Z
   (growslice_fits Z (by rw[hz3];exact hb1))
  rw[hr]at q1;cases q1;refine⟨_,_,by rw[hv,e3];exact hr,fin _ _ _ _ rfl O.os O.tape O.output O.size hblk
   (.inl ⟨rfl,by rw[yG];simp⟩) q2⟩
end Go.Eng
namespace Go.Eng
open Go.RowKit
def zk(P:Program)(t:TypeId):Option Bool:=match P.underlying t with|some (.interface _)=>some true|some _=>some false|none=>none
def UL(P:Program)(t:TypeId)(x:AV):Option Core:=match zk P t with|some false=>some {val:=.ifc t x}|_=>none
def M4(P:Program)(asserted:TypeId)(ok:Bool)(x:AV):Option Core:=match zk P asserted,ok,x with|some false,true,.ifc t a=>if t=asserted then some {val:=.tup [a,.dat .bool true]} else none|_,_,_=>none
def Y3:Operand->Bool|.const _=>true|_=>false
def zo:AV->AV->Option Bool
 |.ifc _ _,.val u=>match u with|.nilIface=>some false|_=>none
 |.val u,.val v=>match u,v with|.nilIface,.nilIface=>some true|_,_=>none
 |_,_=>none
def Vi(P:Program)(op:BinOp)(t:TypeId)(y:Operand)(a b:AV):Option Core:=match zk P t,Y3 y,zo a b with
 |some true,true,some r=>match op with
  |.eql=>some {val:=.dat .bool r}|.neq=>some {val:=.dat .bool (Dj r)}|_=>none
 |_,_,_=>none
variable {t:TypeId}{P:Program}
def uq(h:zk P t=some false):∃d,P.underlying t=some d/\∀ms,d≠.interface ms:=by
 unfold zk at h;cases b:P.underlying t with
 |none=>rw[b]at h;cases h
 |some d=>
  rw[b]at h;exact⟨d,rfl,λms e=>by subst e;cases h⟩
def Me(h:zk P t=some true):∃ms,P.underlying t=some (.interface ms):=by
 unfold zk at h;split at h;rename_i ms b;exact⟨ms,b⟩;cases h;cases h
variable {c:Core}{w:World}{C:Ctx}
def UK{x:AV}{v:Value}(h:UL P t x=some c)(b:x.rel P C v):
  ∃r,(Instr.makeInterface t v).run P w=.ok r w/\c.val.rel P C r/\c.upd=[]/\c.new=none:=by
 unfold UL at h;split at h;rename_i f;cases h;obtain⟨d,e,hd⟩:=uq f;refine⟨.iface t v,?_,⟨v,rfl,b⟩,rfl,rfl⟩;unfold Instr.makeInterface;rw[wV,vN e];simp only[vZ];cases d<;>first|exact(hd _ rfl).elim|rfl
 cases h
def RD{xt t:TypeId}{ok:Bool}{x:AV}{v:Value}(h:M4 P t ok x=some c)(b:x.rel P C v):
  ∃r,(Instr.typeAssert v xt t ok).run P w=.ok r w/\c.val.rel P C r/\c.upd=[]/\c.new=none:=by
 unfold M4 at h;split at h;rename_i t' a g;split at h;rename_i e;subst e;cases h;obtain⟨d,f,hd⟩:=uq g;obtain⟨u,rfl,b⟩:=b;refine⟨.tuple #[u,.bool true],?_,⟨[u,.bool true],rfl,_,_,rfl,b,_,_,rfl,rfl,rfl⟩,rfl,rfl⟩;unfold Instr.typeAssert;rw[wV,vN f];simp only[vZ];cases d<;>first|exact(hd _ rfl).elim|simp
 cases h;cases h
def wn{ms:Array (String×TypeId)}{a b:AV}{u v:Value}{r:Bool}(f:P.underlying t=some (.interface ms))(h:zo a b=some r)(e:a.rel P C u)(hb:b.rel P C v)(w:World)(d:Nat):
  (Op.equalIn (d+1) t u v).run P w=.ok r w:=by
 unfold zo at h;split at h;split at h;cases h;obtain⟨x,rfl,_⟩:=e;have hb:v=.nilIface:=hb;subst hb;simp[Op.equalIn,vN f];cases h;split at h;cases h;have e:u=.nilIface:=e;have hb:v=.nilIface:=hb;subst e hb;simp[Op.equalIn,vN f];cases h;cases h
def ME{a b:AV}{u v:Value}{r:Bool}(h:zo a b=some r)(e:a.rel P C u)(hb:b.rel P C v):v=.nilIface/\((∃t x,u=.iface t x)\/u=.nilIface):=by
 unfold zo at h;split at h;split at h;obtain⟨x,rfl,_⟩:=e;exact⟨hb,.inl ⟨_,_,rfl⟩⟩;cases h;split at h;exact⟨hb,.inr e⟩;cases h;cases h
def Vh{op:BinOp}{x y:Operand}{a b:AV}{u v:Value}(h:Vi P op t y a b=some c)
  (z:a.rel P C u) (hb:b.rel P C v):∃r,(do eqGuard op t x y u v;binOp op t u v:Sem Value).run P w=.ok r w/\c.val.rel P C r/\c.upd=[]/\c.new=none:=by
 unfold Vi at h;split at h;case h_2=>cases h
 rename_i r O G i;obtain⟨ms,L⟩:=Me O;have f:=wn L i z hb w 9999;obtain⟨g,e⟩:=ME i z hb;have j:∀op,(eqGuard op t x y u v).run P w=.ok () w:=by
  intro op;obtain⟨A,rfl⟩:∃A,y=.const A:=by
   cases y<;>first|exact⟨_,rfl⟩|cases G
  subst g;unfold eqGuard;rcases e with⟨t1,x1,rfl⟩|rfl;cases op<;>simp;cases op<;>simp
 split at h;cases h;refine⟨.bool r,?_,rfl,rfl,rfl⟩;rw[wV,j,vZ];subst g;rcases e with⟨t1,x1,rfl⟩|rfl;simp[binOp,Op.equal,Op.maxDepth,f];simp[binOp,Op.equal,Op.maxDepth,f];cases h;refine⟨.bool (!r),?_,rfl,rfl,rfl⟩;rw[wV,j,vZ];subst g;rcases e with⟨t1,x1,rfl⟩|rfl;simp[binOp,Op.equal,Op.maxDepth,f];simp[binOp,Op.equal,Op.maxDepth,f];cases h
end Go.Eng
