/- H1 -/
import Derived.Orders
import Derived.Below
import Derived.Laws.Sem
import Derived.Laws.World
import Derived.Laws.OwnMore
import Derived.Laws.AppendOwn
import Derived.Deep.MidRow
import Derived.IntWalk
import Derived.Laws.BytesArg
import Derived.Laws.StructEq
import Derived.Lib.ConvBytes
set_option linter.unusedSimpArgs false
set_option linter.unusedVariables false
namespace Go.Eng
open Go.RowKit
theorem zoo{p:Prop}(h:p:=by omega):p:=h
theorem Z{p:Prop}(h:p:=by omega):p:=h
abbrev Li:=List Int
abbrev Lj:=List (List Int)
abbrev Lv:=List Value
abbrev qA:=@List.getD_eq_getElem?_getD
abbrev qB:=@List.getElem?_eq_getElem
abbrev qC:=@List.getElem?_eq_some_iff
abbrev qE:=@Bool.and_eq_true
abbrev qF:=@decide_eq_true_eq
abbrev qG:=@List.length_append
abbrev qH:=@World.size_alloc
abbrev qI:=@List.mem_append
abbrev qJ:=@Array.getElem?_eq_some_iff
abbrev qK:=@Nat.lt_of_lt_of_le
abbrev qL:=@Nat.le_refl
abbrev qM:=@List.take_of_length_le
abbrev qN:=@Int.le_refl
abbrev qO:=@List.length_take
abbrev qP:=@Array.getD_eq_getD_getElem?
abbrev qQ:=@List.getElem?_map
abbrev qR:=@decide_eq_true
abbrev qU:=@Int.natCast_nonneg
abbrev qV:=@List.getElem?_append_right
abbrev qW:=@List.all_eq_true
abbrev qX:=@List.mem_singleton
abbrev qY:=@decide_eq_false
abbrev qZ:=@List.mem_of_getElem?
abbrev vC:=@List.length_singleton
abbrev vF:=@List.getElem?_drop
abbrev vG:=@List.cons.injEq
abbrev vH:=@run_underlying
abbrev vI:=@Array.length_toList
abbrev vJ:=@Option.getD_some
abbrev vK:=@List.eq_nil_of_length_eq_zero
abbrev vO:=@of_decide_eq_true
abbrev vP:=@Nat.le_trans
abbrev vS:=@List.getElem?_set
abbrev vT:=@Option.some.injEq
abbrev vU:=@List.getElem?_append_left
abbrev vV:=@List.getElem?_take
abbrev vW:=@List.mem_map
abbrev vX:=@List.length_map
abbrev vY:=@and_true
abbrev vZ:=@List.length_drop
abbrev wB:=@Result.andThen_ok
abbrev wC:=@Int.toNat_of_nonneg
abbrev wE:=@Option.some.inj
abbrev wF:=@Bool.false_eq_true
abbrev wG:=@decide_eq_false_iff_not
abbrev wH:=@List.append_nil
abbrev wJ:=@List.mem_range
abbrev wK:=@Nat.zero_le
abbrev wL:=@List.mem_cons_self
abbrev wM:=@Nat.mul_le_mul_right
abbrev wO:=@Sem.run_bind
abbrev wP:=@Array.getElem?_eq_getElem
abbrev wQ:=@List.ext_getElem?
abbrev wR:=@List.length_cons
abbrev wS:=@List.getElem_mem
abbrev wU:=@List.getElem?_replicate
abbrev wV:=@List.map_cons
abbrev wW:=@Nat.lt_or_ge
abbrev wX:=@List.mem_cons_of_mem
abbrev wY:=@List.take_add_one
abbrev wZ:=@List.getElem?_eq_none
abbrev zB:=@Bool.not_eq_true'
abbrev zD:=@List.isEmpty_iff
abbrev zG:=@Nat.zero_add
abbrev zH:=@List.getElem?_range
abbrev zJ:=@List.append_assoc
abbrev zK:=@List.mem_cons
abbrev zO:=@Array.getElem?_setIfInBounds
abbrev zQ:=@Int.toNat_natCast
abbrev zS:=@List.map_append
abbrev zT:=@Nat.add_mul
abbrev zU:=@List.length_replicate
abbrev zV:=@List.getElem?_set_self
abbrev zW:=@List.getElem?_set_ne
abbrev zX:=@List.length_set
abbrev zY:=@List.map_congr_left
abbrev zZ:=@Option.map_some
abbrev yA:=@Nat.one_mul
abbrev yB:=@Array.getElem?_toList
abbrev yC:=@Bool.true_and
abbrev yD:=@List.drop_of_length_le
abbrev yE:=@true_and
abbrev yF:=@congrArg
abbrev yG:=@List.mem_iff_getElem
abbrev yH:=@Value.slice.injEq
abbrev yI:=@List.length_range
abbrev yJ:=@List.filter_append
abbrev yK:=@Nat.le_of_eq
abbrev yL:=@List.range_succ
abbrev yM:=@Bool.or_eq_true
abbrev yN:=@Sem.run_pure
abbrev yO:=@List.take_append_of_le_length
abbrev yP:=@List.filter_cons
abbrev yQ:=@Array.getElem?_replicate
abbrev yR:=@Array.ext'
abbrev yS:=@Bool.eq_false_iff
abbrev yU:=@List.drop_drop
abbrev yV:=@Bool.not_true
abbrev yX:=@beq_iff_eq
abbrev yY:=@List.mem_filter
abbrev yZ:=@List.length_nil
abbrev xA:=@List.mem_flatMap
abbrev xB:=@List.size_toArray
abbrev xC:=@List.Pairwise.nil
abbrev xE:=@Nat.zero_mul
abbrev xG:=@List.mapM_cons
abbrev xH:=@Bool.not_false
abbrev xI:=@Nat.mul_one
abbrev xJ:=@Option.bind_eq_some_iff
abbrev xK:=@List.getElem?_cons_zero
abbrev xM:=@if_false
abbrev xO:=@List.any_eq_true
abbrev xP:=@Nat.lt_irrefl
abbrev xQ:=@Bool.false_or
abbrev xR:=@Addr.add_mid
abbrev xU:=@List.nil_append
abbrev xW:=@List.find?_cons
abbrev xX:=@List.take_append_drop
abbrev xY:=@beq_self_eq_true
abbrev xZ:=@Nat.add_zero
abbrev kC:=@List.pairwise_cons
abbrev kD:=@Bool.not_eq_false'
abbrev kE:=@if_true
abbrev kF:=@heap_alloc_old
abbrev kG:=@List.flatten_cons
abbrev kH:=@Nat.min_eq_left
abbrev kJ:=@Array.getElem?_append_right
abbrev kK:=@List.length_eq_one_iff
abbrev kL:=@Prod.mk.injEq
abbrev kM:=@Array.getElem?_append_left
abbrev kN:=@World.cell?_alloc_new
abbrev kP:=@List.mem_iff_getElem?
abbrev kQ:=@List.getElem?_toArray
abbrev kR:=@Int.emod_lt_of_pos
abbrev kS:=@List.foldl_cons
abbrev kT:=@List.flatMap_cons
abbrev kU:=@Bool.or_false
abbrev kV:=@Bool.and_true
abbrev kW:=@List.drop_append_of_le_length
abbrev kX:=@List.flatMap_append
abbrev kY:=@List.take_length
abbrev kZ:=@Bool.and_false
abbrev gB:=@Option.map_eq_some_iff
abbrev gG:=@implies_true
abbrev gI:=@forall_const
abbrev gJ:=@Bool.true_eq_false
abbrev gK:=@List.mem_of_mem_head?
abbrev gQ:=@List.length_filter_le
abbrev gU:=@List.filter_nil
abbrev gV:=@List.all_append
abbrev qAa:=@Int.emod_nonneg
abbrev qAb:=@Nat.add_assoc
abbrev qAc:=@Int.mul_nonneg
abbrev qAd:=@Int.mul_le_mul
abbrev qAe:=@Bool.false_and
abbrev qAf:=@Option.isSome_iff_exists
abbrev qAg:=@Nat.sub_self
abbrev qAh:=@Bool.not_eq_true
abbrev qAi:=@Array.all_eq_true_iff_forall_mem
abbrev qAj:=@beq_eq_false_iff_ne
abbrev qAk:=@Addr.mk.injEq
abbrev qAm:=@ge_iff_le
abbrev qAn:=@Array.empty_append
abbrev qAp:=@List.filter_eq_nil_iff
abbrev qAq:=@List.any_eq_false
abbrev qAr:=@decide_false
abbrev qAs:=@List.filterMap_append
abbrev qAt:=@and_assoc
abbrev qAu:=@decide_eq_decide
abbrev qAv:=@List.range_eq_range'
abbrev qAw:=@List.range'_succ
abbrev qAx:=@Int.tmod_eq_emod
abbrev qAy:=@Array.toList_map
abbrev qAz:=@false_implies
abbrev qBa:=@List.all_cons
abbrev qBb:=@Bool.and_self
abbrev qBc:=@List.find?_some
abbrev qBd:=@imp_self
abbrev qBe:=@Nat.add_sub_cancel
abbrev qBf:=@List.map_nil
abbrev qBg:=@List.eq_of_mem_replicate
abbrev qBh:=@Bool.or_self
abbrev qBi:=@eq_self
abbrev qBj:=@List.drop_left
abbrev qBk:=@List.pairwise_singleton
abbrev qBm:=@World.ownsRow_nil
abbrev qBn:=@List.pairwise_map
abbrev qBp:=@List.foldl_append
abbrev qBq:=@List.all_eq_false
abbrev qBr:=@List.head?_eq_getElem?
abbrev qBs:=@List.append_eq_nil_iff
abbrev qBt:=@List.range'_zero
abbrev qBu:=@List.set_append_right
abbrev qBv:=@Nat.add_comm
abbrev qBw:=@List.mem_of_mem_take
abbrev qBx:=@List.map_map
abbrev qBy:=@List.any_append
abbrev qBz:=@Int.mul_le_mul_of_nonneg_right
abbrev qCa:=@propext
abbrev qCb:=@List.take_zero
abbrev qCc:=@List.take_take
abbrev qCd:=@List.drop_take
abbrev qCe:=@setRow_heap
abbrev qCf:=@run_loadCells_list
abbrev qCg:=@of_decide_eq_false
abbrev qCh:=@Option.toList_some
abbrev qCi:=@List.find?_eq_none
abbrev qCj:=@List.any_cons
abbrev qCk:=@Int.tmod_eq_emod_of_nonneg
abbrev qCm:=@Int.fdiv_eq_ediv_of_nonneg
abbrev qCn:=@Option.bind_assoc
abbrev qCp:=@List.getElem_take
abbrev qCq:=@bne_iff_ne
abbrev qCr:=@List.filterMap_eq_nil_iff
abbrev qCs:=@Array.mapM_eq_mapM_toList
abbrev qCt:=@List.take_append
abbrev qCu:=@List.length_filterMap_le
abbrev qCv:=@List.flatMap_nil
abbrev qCw:=@List.drop_append
abbrev qCx:=@List.cons_append
abbrev qCy:=@Int.mul_tdiv_cancel_left
abbrev qCz:=@Int.lt_or_le
abbrev qDa:=@Int.eq_ofNat_of_zero_le
abbrev qDb:=@List.nodup_cons
abbrev qDc:=@Bool.eq_iff_iff
abbrev qDd:=@decide_true
abbrev qDe:=@cell_of_row
abbrev qDf:=@List.drop_zero
abbrev qDg:=@false_imp_iff
abbrev qDh:=@Nat.mul_assoc
abbrev Ed(x y:Int):Bool:=x==y
abbrev Ea(x y:Int):Bool:=x != y
abbrev Dn(x y:Int):Bool:=decide (x<y)
abbrev Ef(x y:Int):Bool:=decide (x<=y)
abbrev Ee(x y:Int):Bool:=decide (x>y)
abbrev Eb(x y:Int):Bool:=decide (x≥y)
abbrev Ew(x y:Bool):Bool:=x==y
abbrev Gf(x y:ByteArray):Bool:=x.toList==y.toList
abbrev Gp(x y:ByteArray):Bool:=Op.bytesLess x.toList y.toList
abbrev Fz(s:ByteArray)(i:Int):Int:=((s.data.getD i.toNat 0).toNat:Int)
abbrev Dw{α:Type}(xs:List α)(i:Nat)(d:α):α:=xs.getD i d
abbrev Ep{α:Type}(xs:List α)(i:Nat)(x:α):List α:=xs.set i x
abbrev En{α:Type}(xs ys:List α):List α:=xs++ys
abbrev Fe{α:Type}(xs:List α)(l:Int):List α:=xs.drop l.toNat
abbrev Fb{α:Type}(xs:List α)(l h:Int):List α:=(xs.take h.toNat).drop l.toNat
abbrev Fj(k:IntKind)(x:Int):Int:=k.wrap x
abbrev Ey{α:Type}(n:Int)(x:α):List α:=List.replicate n.toNat x
abbrev Dc(i:Int):Nat:=i.toNat
abbrev Gm(s:ByteArray)(l:Int):ByteArray:=s.extract l.toNat s.size
abbrev Gj(s:ByteArray)(l h:Int):ByteArray:=s.extract l.toNat h.toNat
abbrev Fg(x y:Int):Int:=max x y
abbrev Eu(x y:Int):Int:=min x y
abbrev Gl(x y:Int):Int:=x.fdiv (2 ^ y.toNat)
abbrev Gs(x y:Int):Int:=x*2 ^ y.toNat
abbrev Gn{α:Type}(xs ys:List α):List α:=ys.take xs.length++xs.drop ys.length
abbrev Eo(j k:Nat)(i:Int):Nat:=j+i.toNat*k
abbrev Dt(x y:Int):Int:=x+y
abbrev Dk(x y:Int):Int:=x-y
abbrev Ej(x y:Int):Int:=x*y
abbrev Gq(x y:Int):Int:=x.tdiv y
abbrev Gg(x y:Int):Int:=x.tmod y
abbrev Fp(x:Int):Int:=-x
abbrev Es(x y:Int):Prop:=x≠y
abbrev Dp(x y:Int):Prop:=x<=y
abbrev Dq(x y:Int):Prop:=x<y
abbrev Dz(x y:Nat):Prop:=x<=y
abbrev Dx(x y:Nat):Prop:=x<y
abbrev Eh(x y:Nat):Nat:=x+y
abbrev Em(x y:Nat):Nat:=x*y
abbrev Ec(x:Nat):Int:=(x:Int)
abbrev Dl{α:Type}(xs:List α):Nat:=xs.length
abbrev Di{α:Type}(xs:List α):Int:=(xs.length:Int)
abbrev Ei(s:ByteArray):Int:=(s.size:Int)
abbrev Dj(x:Bool):Bool:=!x
abbrev Dh(x y:Bool):Bool:=x&&y
abbrev Et(x y:Bool):Bool:=x||y
abbrev Du(α:Type):List α:=[]
abbrev Dy{α:Type}(c:Bool)(x y:α):α:=bif c then x else y
abbrev Ez{α:Type}(xs:List α)(o n:Nat):List α:=(xs.drop o).take n
abbrev Fh{α:Type}(xs:List (List α)):Prop:=∀r∈xs,r=[]
abbrev Fv(s:ByteArray):Li:=s.data.toList.map λb=>(b.toNat:Int)
abbrev Gt(xs:Li):ByteArray:=strOfNums xs
inductive Ty where
 |int (k:IntKind)
 |bool
 |str
 |sl (e:Ty)
 |pair (a b:Ty)
 deriving DecidableEq
@[reducible] def Ty.den:Ty->Type
 |.int _=>Int|.bool=>Bool|.str=>ByteArray|.sl e=>List e.den|.pair a b=>a.den×b.den
def Ty.dflt:(t:Ty)->t.den|.int _=>(0:Int)|.bool=>false|.str=>ByteArray.empty|.sl _=>[]|.pair a b=>(a.dflt,b.dflt)
structure Ob where
 p:Prop
 b:Bool
 h:b=true->p
instance:CoeSort Ob Prop:=⟨Ob.p⟩
instance (priority:=low) obNo (p:Prop):CoeDep Prop p Ob:=⟨⟨p,false,nofun⟩⟩
instance obYes(p:Prop)[Decidable p]:CoeDep Prop p Ob:=⟨⟨p,decide p,vO⟩⟩
theorem Ob.get{ns:List Ob}(j:∀p∈ns,p){q:Prop}(h:∃o∈ns,o.p=q):q:=h.elim λo f=>f.2▸j o f.1
def Ob.under(g:Prop)[Decidable g](o:Ob):Ob:=⟨g->o.p,!decide g||o.b,λh e=>o.h (by simpa[e]using h)⟩
def Ty.eqb:(t:Ty)->t.den->t.den->Bool|.int _,x,y=>decide ((x:Int)=y)|.bool,x,y=>decide ((x:Bool)=y)|.str,x,y=>decide (x.data.toList=y.data.toList)|.sl e,xs,ys=>go e.eqb xs ys|.pair a b,x,y=>a.eqb x.1 y.1&&b.eqb x.2 y.2
 where go {α:Type} (f:α->α->Bool):List α->List α->Bool
 |[],[]=>true|x::xs,y::ys=>f x y&&go f xs ys|_,_=>false
theorem Ty.eqb_go{α:Type}{f:α->α->Bool}(h:∀x y,f x y=true↔x=y):∀xs ys:List α,Ty.eqb.go f xs ys=true↔xs=ys|[],[]=>by simp[Ty.eqb.go]|[],_::_=>by simp[Ty.eqb.go]|_::_,[]=>by simp[Ty.eqb.go]|x::xs,y::ys=>by simp[Ty.eqb.go,h,Ty.eqb_go h xs ys]
theorem Ty.eqb_iff:∀(t:Ty) (x y:t.den),t.eqb x y=true↔x=y|.int _,_,_=>decide_eq_true_iff|.bool,_,_=>decide_eq_true_iff|.str,⟨⟨_⟩⟩,⟨⟨_⟩⟩=>by simp[Ty.eqb]|.sl e,xs,ys=>Ty.eqb_go (Ty.eqb_iff e) xs ys|.pair a b,(_,_),(_,_)=>by simp only[Ty.eqb,qE,Ty.eqb_iff a,Ty.eqb_iff b,kL]
instance Ty.deq(t:Ty):DecidableEq t.den:=λx y=>decidable_of_iff _ (t.eqb_iff x y)
def Ty.sz:Ty->Nat|.pair a b=>a.sz+b.sz|_=>1
theorem Ty.sz_pos:(t:Ty)->0<t.sz|.int _|.bool|.str|.sl _=>by simp[Ty.sz]|.pair a b=>by have:=Ty.sz_pos a;simp only[Ty.sz];omega
abbrev cO(w:World)(b off:Nat)(us:Lv):Prop:=w.rangeAt b off us
def ae(w:World)(D:Nat->Prop):(t:Ty)->t.den->Lv->Prop
 |.int k,x,us=>us=[.int k x]|.bool,b,us=>us=[.bool b]|.str,s,us=>us=[.string s]|.sl e,xs,us=>∃(ao:Option Addr) (cap:Nat),us=[.slice ao (List.length xs) cap]/\List.length xs<=cap/\(ao=none->cap=0)/\
   (∀a,ao=some a->0<List.length xs->a.spot=none)/\
   ∀(i:Nat) (y:e.den),(xs:List e.den)[i]?=some y->∃(a:Addr) (ue:Lv),ao=some a/\D a.block/\cO w a.block (a.off+i*e.sz) ue/\ae w D e y ue
 |.pair a b,x,us=>∃u1 u2,us=u1++u2/\ae w D a x.1 u1/\ae w D b x.2 u2
variable {D:Nat->Prop}
theorem aS{w:World}:∀{t:Ty}{x:t.den}{us:Lv},ae w D t x us->us.length=t.sz
 |.int _,_,_,h=>by simp only[ae]at h;subst h;rfl|.bool,_,_,h=>by simp only[ae]at h;subst h;rfl|.str,_,_,h=>by simp only[ae]at h;subst h;rfl|.sl _,_,_,h=>by obtain⟨_,_,h,_⟩:=h;subst h;rfl
 |.pair a b,_,_,h=>by
  obtain⟨y,u,h,j,f⟩:=h;subst h;simp[Ty.sz,aS j,aS f]
theorem cell?_same {w w':World}{b o:Nat} (h:w'.heap[b]?=w.heap[b]?):w'.cell? ⟨b,o,none⟩=w.cell? ⟨b,o,none⟩:=by
 simp only[World.cell?,h]
theorem cO.same{w w':World}{b off:Nat}{us:Lv}(h:w'.heap[b]?=w.heap[b]?)(hc:cO w b off us):cO w' b off us:=
 λj u f=>(cell?_same h).trans (hc j u f)
theorem au{w w':World}{D D':Nat->Prop}(f:∀b,D b->D' b)(hw:∀b,D b->w'.heap[b]?=w.heap[b]?):
  ∀{t:Ty}{x:t.den}{us:Lv},ae w D t x us->ae w' D' t x us
 |.int _,_,_,h=>h|.bool,_,_,h=>h|.str,_,_,h=>h|.sl e,xs,us,h=>by
  obtain⟨ao,cap,u,j,h3,X,L⟩:=h;refine⟨ao,cap,u,j,h3,X,λi y G=>?_⟩;obtain⟨a,ue,g1,g2,g3,g4⟩:=L i y G;exact⟨a,ue,g1,f _ g2,g3.same (hw _ g2),au f hw g4⟩
 |.pair a b,_,_,h=>by
  obtain⟨A,z,h,u,j⟩:=h;exact⟨A,z,h,au f hw u,au f hw j⟩
def gv(w w':World)(b:Nat):Prop:=w.heap.size<=b/\b<w'.heap.size
def Kw(w:World)(D:Nat->Prop)(r:Ty)(y:r.den)(e:Ending)(w':World):Prop:=
 ∃v,e=.returned v/\Below w.heap.size w w'/\ae w' (λb=>D b\/gv w w' b) r y [v]
def goes(P:Program)(f:FuncId):Bool:=match P.funcs[f]? with
 |some fn=>fn.body.isSome&&fn.name != "runtime.NumGoroutine"
 |none=>false
inductive AV where
 |top
 |dat (t:Ty) (x:t.den)
 |agg (cs:List AV)
 |tup (vs:List AV)
 |val (v:Value)
 |buf (nm n:Nat)
 |ptr (nm g i c:Nat)
 |ip (t:Ty) (x:t.den)
 |fn (f:FuncId) (caps:List AV)
 |clo1 (a r:Ty) (pre:a.den->Prop) (g:a.den->r.den)
 |clo2 (a b r:Ty) (pre:a.den->b.den->Prop) (g:a.den->b.den->r.den)
 |ifc (t:TypeId) (v:AV)
 |grd (g:Bool) (v:AV)
 |ipv (v:AV)
 |ips (cs:List AV)
 |slv (cs:List AV)
 |ia (t:Ty) (xs:List t.den)
 |yld (l:Nat)
 |view (nm n:Nat)
 |av (t:Ty) (xs:List t.den)
 |sel (i:Int) (cs:List AV)
 |row (nm g i k:Nat)
 |rptr (nm g i k j:Nat)
 |pin (u:Value) (v:AV)
inductive Blk where
 |var (cs:List AV)
 |buf (el:TypeId) (t:Ty) (xs:List t.den) (ov:List (Nat×AV))
 |mat (el eli:TypeId) (e:Ty) (xss:List (List e.den)) (ov:List (Nat×AV))
def Blk.len:Blk->Nat|.var _=>1|.buf _ _ xs _=>xs.length|.mat _ _ _ xss _=>xss.length
def Blk.es:Blk->Nat|.var cs=>cs.length|.buf _ t _ _=>t.sz|.mat _ _ _ _ _=>1
structure Ent where
 b:Nat
 cap:Nat
 isNil:Bool
 rb:Nat->Nat×Nat
def noR:Nat->Nat×Nat:=λ_=>(0,0)
def Ent.handle(e:Ent)(n:Nat):Value:=if e.isNil then .slice none 0 0 else .slice (some ⟨e.b,0,none⟩) n e.cap
structure Ctx where
 w:World
 D:Nat->Prop
 m:Nat->Option Blk
 E:Nat->Ent
def rW(w:World)(D:Nat->Prop)(t:Ty)(xs:List t.den)(us:Lv):Prop:=
 us.length=xs.length*t.sz/\∀(i:Nat) (y:t.den),xs[i]?=some y->ae w D t y ((us.drop (i*t.sz)).take t.sz)
mutual
def AV.rel(P:Program)(C:Ctx):AV->Value->Prop
 |.top,_=>True|.dat t x,v=>ae C.w C.D t x [v]|.agg cs,v=>∃us:Lv,v=.agg us.toArray/\AV.relL P C cs us|.tup vs,v=>∃us:Lv,v=.tuple us.toArray/\AV.relL P C vs us|.val u,v=>v=u|.buf nm n,v=>∀b,C.m nm=some b->n<=b.len/\(b.len=n->v=(C.E nm).handle n)|.ptr nm g i c,v=>∀b,C.m nm=some b->g<=b.len/\(b.len=g->i<g/\(C.E nm).isNil=false/\v=.pointer (some ⟨(C.E nm).b,i*b.es+c,none⟩))|.ip t x,v=>∃b off us,v=.pointer (some ⟨b,off,none⟩)/\C.D b/\cO C.w b off us/\ae C.w C.D t x us|.fn f caps,v=>∃us:Lv,v=.func (.func f) #[] us.toArray/\AV.relL P C caps us|.clo1 a r pre g,v=>∃(f:FuncId) (caps:Array Value),v=.func (.func f) #[] caps/\goes P f=true/\
   ∀(w':World) (D':Nat->Prop),(∀b,C.D b->D' b)->(∀b,D' b->b<w'.heap.size)->(∀b,C.D b->w'.heap[b]?=C.w.heap[b]?)->
    ∀x u,pre x->ae w' D' a x [u]->Calls P f (#[u]++caps) w' (Kw w' D' r (g x))
 |.clo2 a b r pre g,v=>∃(f:FuncId) (caps:Array Value),v=.func (.func f) #[] caps/\goes P f=true/\
   ∀(w':World) (D':Nat->Prop),(∀b,C.D b->D' b)->(∀b,D' b->b<w'.heap.size)->(∀b,C.D b->w'.heap[b]?=C.w.heap[b]?)->
    ∀x y u v,pre x y->ae w' D' a x [u]->ae w' D' b y [v]->Calls P f (#[u,v]++caps) w' (Kw w' D' r (g x y))
 |.ifc t a,v=>∃u,v=.iface t u/\AV.rel P C a u|.grd g a,v=>(g=true->AV.rel P C a v)/\(g=false->v=undef)|.ipv a,v=>∃b off u,v=.pointer (some ⟨b,off,none⟩)/\C.D b/\C.w.cell? ⟨b,off,none⟩=some u/\AV.rel P C a u|.ips cs,v=>∃b off us,v=.pointer (some ⟨b,off,none⟩)/\C.D b/\cO C.w b off us/\AV.relL P C cs us|.slv cs,v=>∃b off us,v=.slice (some ⟨b,off,none⟩) cs.length cs.length/\C.D b/\cO C.w b off us/\AV.relL P C cs us|.ia t xs,v=>∃b off,v=.pointer (some ⟨b,off,none⟩)/\ae C.w C.D (.sl t) xs [.slice (some ⟨b,off,none⟩) (List.length xs) (List.length xs)]|.yld l,v=>v=.func (.yield l) #[] #[]|.view nm n,v=>∀b,C.m nm=some b->n<=b.len/\(b.len=n->(C.E nm).isNil=false/\∃c,n<=c/\v=.slice (some ⟨(C.E nm).b,0,none⟩) n c)|.av t xs,v=>∃us:Lv,v=.agg us.toArray/\rW C.w C.D t xs us|.sel i cs,v=>∃us:Lv,AV.relL P C cs us/\us[i.toNat]?=some v|.row nm g i k,v=>∀b,C.m nm=some b->g<=b.len/\(b.len=g->∃ao cap,v=.slice ao k cap/\(0<k->ao=some ⟨((C.E nm).rb i).1,0,none⟩))|.rptr nm g i k j,v=>∀b,C.m nm=some b->g<=b.len/\(b.len=g->j<k/\v=.pointer (some ⟨((C.E nm).rb i).1,j,none⟩))|.pin u a,v=>v=u/\AV.rel P C a v
def AV.relL(P:Program)(C:Ctx):List AV->Lv->Prop|[],us=>us=[]|a::qz,us=>∃u us',us=u::us'/\AV.rel P C a u/\AV.relL P C qz us'
end
mutual
def AV.names:AV->List Nat|.buf nm _=>[nm]|.view nm _=>[nm]|.ptr nm _ _ _=>[nm]|.agg cs=>AV.namesL cs|.tup cs=>AV.namesL cs|.fn _ cs=>AV.namesL cs|.ifc _ a=>a.names|.grd _ a=>a.names|.ipv a=>a.names|.ips cs=>AV.namesL cs|.slv cs=>AV.namesL cs|.sel _ cs=>AV.namesL cs|.row nm _ _ _=>[nm]|.rptr nm _ _ _ _=>[nm]|.pin _ a=>a.names|_=>[]
def AV.namesL:List AV->List Nat|[]=>[]|a::qz=>a.names++AV.namesL qz
end
def Blk.names:Blk->List Nat|.var cs=>AV.namesL cs|.buf _ _ _ ov=>AV.namesL (ov.map (·.2))|.mat _ _ _ _ ov=>AV.namesL (ov.map (·.2))
def oh(C C':Ctx)(nm:Nat):Prop:=
 ∀b',C'.m nm=some b'->∃b,C.m nm=some b/\b.es=b'.es/\b.len<=b'.len/\(b.len=b'.len->C'.E nm=C.E nm)
structure Later(C C':Ctx):Prop where
 D:∀b,C.D b->C'.D b
 w:∀b,C.D b->C'.w.heap[b]?=C.w.heap[b]?
mutual
theorem AV.rel_mono{P:Program}{C C':Ctx}(L:Later C C'):∀{a:AV}{v:Value},(∀nm∈a.names,oh C C' nm)->a.rel P C v->a.rel P C' v
 |.top,_,_,_=>trivial|.dat _ _,_,_,h=>au L.D L.w h|.agg cs,_,z,h=>by
  obtain⟨us,G,A⟩:=h;exact⟨us,G,AV.relL_mono L (by simpa[AV.names]using z) A⟩
 |.tup cs,_,z,h=>by
  obtain⟨us,G,A⟩:=h;exact⟨us,G,AV.relL_mono L (by simpa[AV.names]using z) A⟩
 |.val _,_,_,h=>h|.buf nm n,_,z,h=>by
  intro b' X;obtain⟨b,hb,_,hl,hE⟩:=z nm (by simp[AV.names]) b' X;obtain⟨g1,g2⟩:=h b hb;refine⟨vP g1 hl,λe=>?_⟩;have e1:b.len=n:=zoo;rw[hE zoo];exact g2 e1
 |.ptr nm g i c,_,z,h=>by
  intro b' X;obtain⟨b,hb,hes,hl,hE⟩:=z nm (by simp[AV.names]) b' X;obtain⟨g1,g2⟩:=h b hb;refine⟨vP g1 hl,λe=>?_⟩;have e1:b.len=g:=zoo;rw[hE zoo,<- hes];exact g2 e1
 |.ip t x,_,_,h=>by
  obtain⟨b,off,us,G,A,h3,h4⟩:=h;exact⟨b,off,us,G,L.D _ A,h3.same (L.w _ A),au L.D L.w h4⟩
 |.fn f caps,_,z,h=>by
  obtain⟨us,G,A⟩:=h;exact⟨us,G,AV.relL_mono L (by simpa[AV.names]using z) A⟩
 |.clo1 a r pre g,_,_,h=>by
  obtain⟨f,caps,G,h0,A⟩:=h;exact⟨f,caps,G,h0,λw' D' g1 g2 g3=>A w' D' (λb hb=>g1 b (L.D b hb)) g2 (λb hb=>(g3 b (L.D b hb)).trans (L.w b hb))⟩
 |.clo2 a b r pre g,_,_,h=>by
  obtain⟨f,caps,G,h0,A⟩:=h;exact⟨f,caps,G,h0,λw' D' g1 g2 g3=>A w' D' (λb hb=>g1 b (L.D b hb)) g2 (λb hb=>(g3 b (L.D b hb)).trans (L.w b hb))⟩
 |.ifc t a,_,z,h=>by
  obtain⟨u,G,A⟩:=h;exact⟨u,G,AV.rel_mono L (by simpa[AV.names]using z) A⟩
 |.grd g a,_,z,h=>⟨λhg=>AV.rel_mono L (by simpa[AV.names]using z) (h.1 hg),h.2⟩|.ipv a,_,z,h=>by
  obtain⟨b,off,u,G,A,h3,h5⟩:=h;exact⟨b,off,u,G,L.D _ A,(cell?_same (L.w _ A)).trans h3,AV.rel_mono L (by simpa[AV.names]using z) h5⟩
 |.ips cs,_,z,h|.slv cs,_,z,h=>by
  obtain⟨b,off,us,G,A,h3,h5⟩:=h;exact⟨b,off,us,G,L.D _ A,h3.same (L.w _ A),AV.relL_mono L (by simpa[AV.names]using z) h5⟩
 |.ia t xs,_,_,h=>by
  obtain⟨b,off,G,A⟩:=h;exact⟨b,off,G,au L.D L.w A⟩
 |.yld _,_,_,h=>h|.view nm n,_,z,h=>by
  intro b' X;obtain⟨b,hb,_,hl,hE⟩:=z nm (by simp[AV.names]) b' X;obtain⟨g1,g2⟩:=h b hb;refine⟨vP g1 hl,λe=>?_⟩;have e1:b.len=n:=zoo;rw[hE zoo];exact g2 e1
 |.av _ _,_,_,h=>by
  obtain⟨us,G,A,h3⟩:=h;exact⟨us,G,A,λi y hy=>au L.D L.w (h3 i y hy)⟩
 |.sel i cs,_,z,h=>by
  obtain⟨us,G,A⟩:=h;exact⟨us,AV.relL_mono L (by simpa[AV.names]using z) G,A⟩
 |.row nm g i k,_,z,h=>by
  intro b' X;obtain⟨b,hb,_,hl,hE⟩:=z nm (by simp[AV.names]) b' X;obtain⟨g1,g2⟩:=h b hb;refine⟨vP g1 hl,λe=>?_⟩;rw[hE zoo];exact g2 zoo
 |.rptr nm g i k j,_,z,h=>by
  intro b' X;obtain⟨b,hb,_,hl,hE⟩:=z nm (by simp[AV.names]) b' X;obtain⟨g1,g2⟩:=h b hb;refine⟨vP g1 hl,λe=>?_⟩;rw[hE zoo];exact g2 zoo
 |.pin u a,_,z,h=>⟨h.1,AV.rel_mono L (by simpa[AV.names]using z) h.2⟩
theorem AV.relL_mono{P:Program}{C C':Ctx}(L:Later C C'):∀{qz:List AV}{us:Lv},(∀nm∈AV.namesL qz,oh C C' nm)->AV.relL P C qz us->AV.relL P C' qz us
 |[],_,_,h=>h|a::qz,_,j,h=>by
  obtain⟨u,f,A,z,y⟩:=h;simp only[AV.namesL,qI]at j;exact⟨u,f,A,AV.rel_mono L (λnm h=>j nm (.inl h)) z,AV.relL_mono L (λnm h=>j nm (.inr h)) y⟩
end
theorem AV.relL_length{P:Program}{C:Ctx}:∀{qz:List AV}{us:Lv},AV.relL P C qz us->qz.length=us.length
 |[],_,h=>by simp only[AV.relL]at h;subst h;rfl|a::qz,_,h=>by
  obtain⟨u,f,y,_,j⟩:=h;subst y;simp[AV.relL_length j]
theorem AV.relL_get{P:Program}{C:Ctx}:∀{qz:List AV}{us:Lv},AV.relL P C qz us->∀{i:Nat}{a:AV},qz[i]?=some a->∃u,us[i]?=some u/\a.rel P C u
 |[],_,_,i,a,h=>by simp at h|a::qz,_,h,i,A,hi=>by
  obtain⟨u,f,z,y,j⟩:=h;subst z;cases i with
  |zero=>simp at hi;subst hi;exact⟨u,rfl,y⟩|succ i=>simpa using AV.relL_get j (by simpa using hi)
theorem AV.relL_mk{P:Program}{C:Ctx}:∀{qz:List AV}{us:Lv},qz.length=us.length->(∀(i:Nat) (a:AV) (u:Value),qz[i]?=some a->us[i]?=some u->a.rel P C u)->AV.relL P C qz us|[],[],_,_=>rfl|a::qz,u::us,j,h=>⟨u,us,rfl,h 0 a u rfl rfl,AV.relL_mk (by simpa using j) (λi A f z y=>h (i+1) A f (by simpa using z) (by simpa using y))⟩
theorem AV.relL_append{P:Program}{C:Ctx}{qz bs:List AV}{us vs:Lv}(h:AV.relL P C qz us)(y:AV.relL P C bs vs):AV.relL P C (qz++bs) (us++vs):=by
 induction qz generalizing us with
 |nil=>simp only[AV.relL]at h;subst h;exact y|cons a qz j=>
  obtain⟨u,f,e,z,g2⟩:=h;subst e;exact⟨u,f++vs,rfl,z,j g2⟩
theorem AV.relL_split{P:Program}{C:Ctx}{qz bs:List AV}{us:Lv}(h:AV.relL P C (qz++bs) us):∃f j,us=f++j/\AV.relL P C qz f/\AV.relL P C bs j:=by
 induction qz generalizing us with
 |nil=>exact⟨[],us,rfl,rfl,h⟩|cons a qz z=>
  obtain⟨u,y,e,L,g2⟩:=h;obtain⟨f,j,X,G,A⟩:=z g2;subst X;exact⟨u::f,j,e,⟨u,f,rfl,L,G⟩,A⟩
theorem AV.relL_drop{P:Program}{C:Ctx}{qz:List AV}{us:Lv}(h:AV.relL P C qz us)(n:Nat):AV.relL P C (qz.drop n) (us.drop n):=by
 refine AV.relL_mk (by rw[vZ,vZ,AV.relL_length h]) λi a u j f=>?_;rw[vF]at j f;obtain⟨A,z,y⟩:=AV.relL_get h j;rw[z]at f;cases f;exact y
theorem AV.relL_take{P:Program}{C:Ctx}{qz:List AV}{us:Lv}(h:AV.relL P C qz us)(n:Nat):AV.relL P C (qz.take n) (us.take n):=by
 refine AV.relL_mk (by rw[qO,qO,AV.relL_length h]) λi a u j f=>?_;rw[vV]at j f;split at j;rename_i y;rw[if_pos y]at f;obtain⟨G,A,z⟩:=AV.relL_get h j;rw[A]at f;cases f;exact z;cases j
def cellsOf:(t:Ty)->t.den->List AV|.pair a b,x=>cellsOf a x.1++cellsOf b x.2|.int k,x=>[.dat (.int k) x]|.bool,x=>[.dat .bool x]|.str,x=>[.dat .str x]|.sl e,x=>[.dat (.sl e) x]
theorem iQ:∀(t:Ty) (x:t.den),AV.namesL (cellsOf t x)=[]
 |.pair a b,x=>by
  have app:∀(l k:List AV),AV.namesL (l++k)=AV.namesL l++AV.namesL k:=by
   intro l k;induction l with
   |nil=>rfl|cons a l f=>simp[AV.namesL,f]
  simp only[cellsOf,app,iQ a,iQ b];rfl
 |.int _,_|.bool,_|.str,_|.sl _,_=>by simp[cellsOf,AV.namesL,AV.names]
variable {P:Program}{C:Ctx}
theorem b8:∀{t:Ty}{x:t.den}{us:Lv},ae C.w C.D t x us->AV.relL P C (cellsOf t x) us
 |.pair a b,x,us,h=>by
  obtain⟨z,y,h,j,f⟩:=h;subst h;exact AV.relL_append (b8 j) (b8 f)
 |.int k,x,us,h=>by
  have e:=aS h;obtain⟨u,rfl⟩:∃u,us=[u]:=kK.1 e;exact⟨u,[],rfl,h,rfl⟩
 |.bool,x,us,h=>by
  have e:=aS h;obtain⟨u,rfl⟩:∃u,us=[u]:=kK.1 e;exact⟨u,[],rfl,h,rfl⟩
 |.str,x,us,h=>by
  have e:=aS h;obtain⟨u,rfl⟩:∃u,us=[u]:=kK.1 e;exact⟨u,[],rfl,h,rfl⟩
 |.sl _,x,us,h=>by
  have e:=aS h;obtain⟨u,rfl⟩:∃u,us=[u]:=kK.1 e;exact⟨u,[],rfl,h,rfl⟩
theorem FT{w:World}{e:Ty}{xs:List e.den}{j:Addr}{cap:Nat}(h:ae w D (.sl e) xs [.slice (some j) (List.length xs) cap])(c:Nat)(hc:List.length xs<=c):
  ae w D (.sl e) xs [.slice (some j) (List.length xs) c]:=by
 obtain⟨L,u,f,G,A,z,y⟩:=h;simp only[vG,yH,vY,yE]at f;obtain⟨f,_⟩:=f;subst f;exact⟨some j,c,rfl,hc,(λh=>by cases h),z,y⟩
theorem bf(w:World)(D:Nat->Prop)(e:Ty):ae w D (.sl e) [] [.slice none 0 0]:=
 ⟨none,0,rfl,qL _,λ_=>rfl,λ_ h=>(by cases h),λi y h=>(by rw[List.getElem?_nil]at h;cases h)⟩
def AV.qz:AV->(t:Ty)->Option t.den|.dat t' x,t=>if h:t'=t then some (h▸x)else none|.val (.slice none 0 0),.sl _=>some []|_,_=>none
theorem AV.as_rel{P:Program}{C:Ctx}{a:AV}{t:Ty}{x:t.den}{v:Value}(h:a.qz t=some x)(f:a.rel P C v):ae C.w C.D t x [v]:=by
 unfold AV.qz at h;split at h;split at h;rename_i j;subst j;cases h;exact f;cases h;cases h;simp only[AV.rel]at f;subst f;exact bf _ _ _;cases h
def cV:(t:Ty)->List AV->Option (t.den×List AV)
 |.pair a b,cs=>match cV a cs with
  |some (x,cs)=>match cV b cs with
   |some (y,cs)=>some ((x,y),cs)|none=>none
  |none=>none
 |.int k,c::cs=>(c.qz (.int k)).map λx=>(x,cs)|.bool,c::cs=>(c.qz .bool).map λx=>(x,cs)|.str,c::cs=>(c.qz .str).map λx=>(x,cs)|.sl e,c::cs=>(c.qz (.sl e)).map λx=>(x,cs)|.int _,[]|.bool,[]|.str,[]|.sl _,[]=>none
theorem lq{t:Ty}{c:AV}{cs rest:List AV}{x:t.den}{us:Lv}
  (h:((c.qz t).map λx=>(x,cs))=some (x,rest)) (G:AV.relL P C (c::cs) us):
  ∃A z,us=A++z/\ae C.w C.D t x A/\AV.relL P C rest z:=by
 cases j:c.qz t with
 |none=>rw[j]at h;cases h
 |some y=>
  rw[j]at h;cases h;obtain⟨u,f,e,L,g2⟩:=G;subst e;exact⟨[u],f,rfl,AV.as_rel j L,g2⟩
theorem cy:∀{t:Ty}{cs rest:List AV}{x:t.den}{us:Lv},cV t cs=some (x,rest)->AV.relL P C cs us->
  ∃j u,us=j++u/\ae C.w C.D t x j/\AV.relL P C rest u
 |.pair a b,cs,rest,x,us,h,f=>by
  simp only[cV]at h;split at h;rename_i x1 cs1 G;split at h;rename_i x2 cs2 A;cases h;obtain⟨j,u,e,g1,g2⟩:=cy G f;obtain⟨y,z,e',X,L⟩:=cy A g2;subst e e';exact⟨j++y,z,by simp,⟨j,y,rfl,g1,X⟩,L⟩;cases h;cases h
 |.int k,c::cs,rest,x,us,h,f=>by simp only[cV]at h;exact lq h f|.bool,c::cs,rest,x,us,h,f=>by simp only[cV]at h;exact lq h f|.str,c::cs,rest,x,us,h,f=>by simp only[cV]at h;exact lq h f|.sl e,c::cs,rest,x,us,h,f=>by simp only[cV]at h;exact lq h f|.int _,[],_,_,_,h,_=>by simp[cV]at h|.bool,[],_,_,_,h,_=>by simp[cV]at h|.str,[],_,_,_,h,_=>by simp[cV]at h|.sl _,[],_,_,_,h,_=>by simp[cV]at h
end Go.Eng
namespace Go.Eng
open Go.RowKit
def bX(P:Program)(C:Ctx)(t:Ty)(xs:List t.den)(ov:List (Nat×AV))(raw:Lv):Prop:=
 ∀(i:Nat) (y:t.den),xs[i]?=some y->match ov.lookup i with|none=>ae C.w C.D t y ((raw.drop (i*t.sz)).take t.sz)|some a=>t.sz=1/\∃u,raw[i]?=some u/\u.oneCell'=true/\a.rel P C u
def IN(P:Program)(base:Nat)(C:Ctx)(e:Ent)(eli:TypeId)(t:Ty)(i:Nat)(row:List t.den)(u:Value):Prop:=
 ∃ao cap r2,u=.slice ao row.length cap/\(ao=none->cap=0)/\(0<row.length->ao=some ⟨(e.rb i).1,0,none⟩/\C.w.ownsRow base eli 1 u row.length r2/\bX P C t row [] r2)
def Y9(P:Program)(base:Nat)(C:Ctx)(e:Ent)(eli:TypeId)(t:Ty)(xss:List (List t.den))(ov:List (Nat×AV))(raw:Lv):Prop:=
 ∀(i:Nat) (row:List t.den),xss[i]?=some row->∃u,raw[i]?=some u/\match ov.lookup i with|none=>IN P base C e eli t i row u|some a=>u.oneCell'=true/\a.rel P C u
def cC(m:Nat->Option Blk)(E:Nat->Ent)(nm i b:Nat):Prop:=∃(el eli:TypeId) (t:Ty) (xss:List (List t.den)) (ov:List (Nat×AV)) (row:List t.den),
 m nm=some (.mat el eli t xss ov)/\ov.lookup i=none/\xss[i]?=some row/\0<row.length/\b=((E nm).rb i).1
structure fu(lo:Nat)(O:Nat->Prop)(m:Nat->Option Blk)(E:Nat->Ent)(n:Nat)(D:Nat->Prop):Prop where
 own:∀nm i b,cC m E nm i b->(lo<=b\/O b)/\b<n/\¬D b
 ent:∀nm i b,cC m E nm i b->∀nm' blk,m nm'=some blk->(E nm').isNil=false->(E nm').b≠b
 inj:∀nm i b nm' j,cC m E nm i b->cC m E nm' j b->nm=nm'/\i=j
def dQ(P:Program)(base:Nat)(C:Ctx)(e:Ent):Blk->Prop|.var cs=>e.isNil=false/\∃us el,C.w.heap[e.b]?=some (.cells us el (0,0))/\AV.relL P C cs us.toList|.buf el t xs ov=>∃raw,C.w.ownsRow base el t.sz (e.handle xs.length) xs.length raw/\bX P C t xs ov raw|.mat el eli t xss ov=>t.sz=1/\∃raw,C.w.ownsRow base el 1 (e.handle xss.length) xss.length raw/\Y9 P base C e eli t xss ov raw
structure Sig where
 T:Nat->AV
 m:Nat->Option Blk
 sv:List AV
structure Base where
 P:Program
 w0:World
 D0:Nat->Prop
 N:Nat
 O:Nat->Prop
 G:List (Nat×AV)
 sv:Lv
 rd:Option Nat
 nod:Bool
 gd:List Deferred:=[]
def Marks(nod:Bool)(base:Nat)(D:Nat->Prop)(w:World)(gd ds:List Deferred):Prop:=
 ((nod=true->ds=gd)/\(∃ms,ds=ms++gd)/\ds.Pairwise λd e=>d.target≠e.target)/\∀d∈ds,(d∈gd/\∀k,d.target≠.collected k)\/∃k,d={target:=.collected k,args:=#[]}/\base<=k/\D k/\w.heap[k]?=some (.deferred (some []))
structure Chg(O:Nat->Prop)(w w':World):Prop where
 os:w'.os=w.os
 tape:w'.tape=w.tape
 output:w'.output=w.output
 size:w.heap.size<=w'.heap.size
 block:∀k,k<w.heap.size->¬O k->w'.heap[k]?=w.heap[k]?
theorem Chg.refl(O:Nat->Prop)(w:World):Chg O w w:=⟨rfl,rfl,rfl,qL _,λ_ _ _=>rfl⟩
theorem Chg.step{O:Nat->Prop}{a b c:World}(h:Chg O a b)(A:c.os=b.os)(y:c.tape=b.tape)(u:c.output=b.output)(z:b.heap.size<=c.heap.size)
  (hb:∀k,k<a.heap.size->¬O k->c.heap[k]?=b.heap[k]?):Chg O a c:=
 ⟨A.trans h.os,y.trans h.tape,u.trans h.output,vP h.size z,λk j f=>(hb k j f).trans (h.block k j f)⟩
theorem Chg.below{O:Nat->Prop}{a b c:World}(h:Chg O a b)(k:Below b.heap.size b c):Chg O a c:=
 h.step k.os k.tape k.output k.size λi hi _=>k.block i (qK hi h.size)
def gsz:AV->Nat|.ia t xs=>List.length xs*t.sz|_=>0
def jG(P:Program)(C:Ctx)(G:List (Nat×AV)):Prop:=∀p∈G,p.2.names=[]/\p.2.rel P C (.pointer (some ⟨p.1,0,none⟩))/\C.D p.1/\∃cs el fr,C.w.heap[p.1]?=some (.cells cs el fr)/\cs.size=gsz p.2
theorem jG.mono{P:Program}{C C':Ctx}{G:List (Nat×AV)}(L:Later C C')(h:jG P C G):jG P C' G:=λp f=>
 ⟨(h p f).1,AV.rel_mono L (λnm hm=>by rw[(h p f).1]at hm;cases hm) (h p f).2.1,L.D _ (h p f).2.2.1,by rw[L.w _ (h p f).2.2.1];exact(h p f).2.2.2⟩
structure aL(S:Base)(σ:Sig)(a:Act)(w:World)(D:Nat->Prop)(E:Nat->Ent):Prop where
 sz:a.tmps.size=S.N
 df:Marks S.nod S.w0.heap.size D w S.gd a.defers
 tm:∀t,(σ.T t).rel S.P ⟨w,D,σ.m,E⟩ (a.tmps.getD t undef)
 bl:∀nm b,σ.m nm=some b->dQ S.P 0 ⟨w,D,σ.m,E⟩ (E nm) b
 own:∀nm b,σ.m nm=some b->(E nm).isNil=false->(S.w0.heap.size<=(E nm).b\/S.O (E nm).b)/\(E nm).b<w.heap.size/\¬D (E nm).b
 inj:∀nm nm' b b',σ.m nm=some b->σ.m nm'=some b'->(E nm).isNil=false->(E nm').isNil=false->(E nm).b=(E nm').b->nm=nm'
 low:Chg S.O S.w0 w
 dlt:∀b,D b->b<w.heap.size
 dlo:∀b,S.D0 b->D b
 dhi:∀b,D b->S.D0 b\/S.w0.heap.size<=b\/S.O b
 gl:jG S.P ⟨w,D,σ.m,E⟩ S.G
 svr:AV.relL S.P ⟨w,D,σ.m,E⟩ σ.sv S.sv
 pv:fu S.w0.heap.size S.O σ.m E w.heap.size D
def Sim(S:Base)(σ:Sig)(a:Act)(w:World):Prop:=∃D E,aL S σ a w D E
def upT(T:Nat->AV)(d:Option Tmp)(v:AV):Nat->AV:=λt=>if some t=d then v else T t
def upM(m:Nat->Option Blk)(u:List (Nat×Blk)):Nat->Option Blk:=λnm=>match u.lookup nm with|some b=>some b|none=>m nm
def Unm(nm:Nat)(σ:Sig):Prop:=σ.m nm=none/\(∀t,nm∉(σ.T t).names)/\(∀nm' b,σ.m nm'=some b->nm∉b.names)/\nm∉AV.namesL σ.sv
variable {ov:List (Nat×AV)}
theorem Lu{i:Nat}{a:AV}(f:ov.lookup i=some a){nm:Nat}(h:nm∈a.names):nm∈AV.namesL (ov.map (·.2)):=by
 induction ov with
 |nil=>simp at f|cons p ov u=>
  obtain⟨j,b⟩:=p;simp only[List.lookup]at f;simp only[wV,AV.namesL,qI];split at f;cases f;exact .inl h;exact .inr (u f)
theorem bh{P:Program}{C C':Ctx}(L:Later C C'){t:Ty}{xs:List t.den}{raw:Lv}
  (z:∀nm∈AV.namesL (ov.map (·.2)),oh C C' nm) (h:bX P C t xs ov raw):bX P C' t xs ov raw:=by
 intro i y j;have g:=h i y j;cases f:ov.lookup i with
 |none=>rw[f]at g;exact au L.D L.w g|some a=>
  rw[f]at g;obtain⟨X,u,g2,A,G⟩:=g;exact⟨X,u,g2,A,AV.rel_mono L (λnm h=>z nm (Lu f h)) G⟩
def rowsOf(e:Ent)(b:Blk)(i k:Nat):Prop:=∃(el eli:TypeId) (t:Ty) (xss:List (List t.den)) (ov:List (Nat×AV)) (row:List t.den),
 b=.mat el eli t xss ov/\ov.lookup i=none/\xss[i]?=some row/\0<row.length/\k=(e.rb i).1
theorem aK{m:Nat->Option Blk}{E:Nat->Ent}{nm i k:Nat}:cC m E nm i k↔∃b,m nm=some b/\rowsOf (E nm) b i k:=by
 constructor;rintro⟨el,f,t,xss,ov,row,j,h⟩;exact⟨_,j,el,f,t,xss,ov,row,rfl,h⟩;rintro⟨b,j,el,f,t,xss,ov,row,rfl,h⟩;exact⟨el,f,t,xss,ov,row,j,h⟩
theorem hC{w w':World}{base:Nat}{el:TypeId}{sz n:Nat}{v:Value}{raw:Lv}(u:∀g j c,v=.slice (some ⟨g,0,none⟩) j c->w'.heap[g]?=w.heap[g]?)
  (h:w.ownsRow base el sz v n raw):w'.ownsRow base el sz v n raw:=by
 refine⟨h.1,?_⟩;rcases h.2 with h|⟨g,cap,f,e,z,y,r⟩;exact .inl h;exact .inr ⟨g,cap,f,e,z,(u g n cap e).trans y,r⟩
theorem HW{e:Ent}{n g j c:Nat}(h:e.handle n=.slice (some ⟨g,0,none⟩) j c):e.isNil=false/\g=e.b:=by
 unfold Ent.handle at h;cases f:e.isNil with
 |true=>rw[f]at h;cases h
 |false=>
  rw[f]at h;simp at h;exact⟨rfl,h.1.symm⟩
theorem dQ.mono{P:Program}{base:Nat}{C C':Ctx}(L:Later C C'){e:Ent}{b:Blk}(X:∀nm∈b.names,oh C C' nm)
  (hw:e.isNil=false->C'.w.heap[e.b]?=C.w.heap[e.b]?) (hr:∀i k,rowsOf e b i k->C'.w.heap[k]?=C.w.heap[k]?) (h:dQ P base C e b):dQ P base C' e b:=by
 cases b with
 |var cs=>
  obtain⟨G,us,el,j,y⟩:=h;exact⟨G,us,el,(hw G).trans j,AV.relL_mono L X y⟩
 |buf el t xs ov=>
  obtain⟨raw,j,y⟩:=h;refine⟨raw,⟨j.1,?_⟩,bh L X y⟩;rcases j.2 with h|⟨g,cap,cur,f,hg,hh,r⟩;exact .inl h;refine .inr ⟨g,cap,cur,f,hg,?_,r⟩;unfold Ent.handle at f;split at f;cases f;rename_i hi;simp only[yH,vT,qAk,vY,yE]at f;rw[<- f.1];rw[hw (by simpa using hi),f.1];exact hh
 |mat el eli t xss ov=>
  obtain⟨G,raw,j,y⟩:=h;refine⟨G,raw,?_,λi row hi=>?_⟩;refine hC (λg' n' c h=>?_) j;obtain⟨z,rfl⟩:=HW h;exact hw z;obtain⟨u,g1,g2⟩:=y i row hi;refine⟨u,g1,?_⟩;cases A:ov.lookup i with
  |some a=>
   rw[A]at g2;exact⟨g2.1,AV.rel_mono L (λnm h=>X nm (Lu A h)) g2.2⟩
  |none=>
   rw[A]at g2;obtain⟨ao,cap,r2,z,q0,q2⟩:=g2;refine⟨ao,cap,r2,z,q0,λhp=>?_⟩;obtain⟨k1,k2,k3⟩:=q2 hp;refine⟨k1,hC (λg' n' c h=>?_) k2,bh L (λnm h=>by cases h) k3⟩;rw[z,k1]at h;simp at h;rw[<- h.1];exact hr i _ ⟨el,eli,t,xss,ov,row,rfl,A,hi,hp,rfl⟩
theorem aL.put{S:Base}{σ:Sig}{a:Act}{w:World}{D:Nat->Prop}{E:Nat->Ent}(h:aL S σ a w D E){d:Option Tmp}{v:Value}{x:AV}
  (hd:∀t,d=some t->t<S.N) (u:x.rel S.P ⟨w,D,σ.m,E⟩ v):aL S ⟨upT σ.T d x,σ.m,σ.sv⟩ (a.put d v) w D E:=by
 cases d with
 |none=>exact⟨h.sz,h.df,λt=>by simpa[upT,Act.put]using h.tm t,h.bl,h.own,h.inj,h.low,h.dlt,h.dlo,h.dhi,h.gl,h.svr,h.pv⟩|some d=>
  refine⟨by simpa[Act.put]using h.sz,h.df,λt=>?_,h.bl,h.own,h.inj,h.low,h.dlt,h.dlo,h.dhi,h.gl,h.svr,h.pv⟩;have f:d<a.tmps.size:=by rw[h.sz];exact hd d rfl
  by_cases e:t=d;subst e;have j:(a.tmps.setIfInBounds t v).getD t undef=v:=by simp[Array.getD,f]
  simp only[upT,kE,Act.put];rw[j];exact u;have:(a.tmps.setIfInBounds d v).getD t undef=a.tmps.getD t undef:=by
   simp only[qP,zO];rw[if_neg (λh=>e h.symm)]
  simp only[upT,vT,e,xM,Act.put];rw[this];exact h.tm t
def Outcome(S:Base)(σ:Sig)(a:Act)(x:AV)(v:Value)(w:World):Prop:=
 ∃D E,aL S σ a w D E/\x.rel S.P ⟨w,D,σ.m,E⟩ v
theorem aL.go{S:Base}{σ:Sig}{a:Act}{w w':World}{D D':Nat->Prop}{E E':Nat->Ent}{m':Nat->Option Blk}(h:aL S σ a w D E)
  (L:Later ⟨w,D,σ.m,E⟩ ⟨w',D',m',E'⟩)
  (hn:∀nm,oh ⟨w,D,σ.m,E⟩ ⟨w',D',m',E'⟩ nm\/Unm nm σ)
  (hb:∀nm b,m' nm=some b->(σ.m nm=some b/\E' nm=E nm/\((E nm).isNil=false->w'.heap[(E nm).b]?=w.heap[(E nm).b]?)/\∀i k,rowsOf (E nm) b i k->w'.heap[k]?=w.heap[k]?)\/dQ S.P 0 ⟨w',D',m',E'⟩ (E' nm) b)
  (ho:∀nm b,m' nm=some b->(E' nm).isNil=false->(S.w0.heap.size<=(E' nm).b\/S.O (E' nm).b)/\(E' nm).b<w'.heap.size/\¬D' (E' nm).b)
  (hi:∀nm f b b',m' nm=some b->m' f=some b'->(E' nm).isNil=false->(E' f).isNil=false->(E' nm).b=(E' f).b->nm=f)
  (hl:Chg S.O S.w0 w') (h1:∀b,D' b->b<w'.heap.size) (h2:∀b,D' b->D b\/S.w0.heap.size<=b\/S.O b) (X:fu S.w0.heap.size S.O m' E' w'.heap.size D'):
  aL S ⟨σ.T,m',σ.sv⟩ a w' D' E':=by
 have u:∀(l:List Nat),(∀nm∈l,Unm nm σ->False)->∀nm∈l,oh ⟨w,D,σ.m,E⟩ ⟨w',D',m',E'⟩ nm:=
  λl j nm hm=>(hn nm).resolve_right (j nm hm)
 refine⟨h.sz,⟨h.df.1,λd hd=>?_⟩,λt=>?_,λnm b hm=>?_,ho,hi,hl,h1,λb hb=>L.D b (h.dlo b hb),λb hb=>?_,h.gl.mono L,AV.relL_mono L (u _ (λnm hm j=>j.2.2.2 hm)) h.svr,X⟩;rcases h.df.2 d hd with g|⟨k,z,g2,y,G⟩;exact .inl g;exact .inr ⟨k,z,g2,L.D k y,(L.w k y).trans G⟩;exact AV.rel_mono L (u _ (λnm hm j=>j.2.1 t hm)) (h.tm t);rcases hb nm b hm with⟨z,g2,y,G⟩|g;rw[g2];exact dQ.mono L (u _ (λf A j=>j.2.2.1 nm b z A)) y G (h.bl nm b z);exact g;rcases h2 b hb with g|g;exact h.dhi b g;exact .inr g
theorem fu.step{lo:Nat}{O:Nat->Prop}{m m':Nat->Option Blk}{E E':Nat->Ent}{n X:Nat}{D D':Nat->Prop}(h:fu lo O m E n D)
  (hm:∀nm i b,cC m' E' nm i b->cC m E nm i b) (hn:n<=X)
  (hD:∀b,D' b->D b\/n<=b\/∃nm blk,m nm=some blk/\(E nm).isNil=false/\b=(E nm).b)
  (hE:∀nm blk,m' nm=some blk->(E' nm).isNil=false->n<=(E' nm).b\/∃f u,m f=some u/\(E f).isNil=false/\(E' nm).b=(E f).b):fu lo O m' E' X D':=by
 refine⟨λnm i b hb=>?_,λnm i b hb y blk L hi e=>?_,λnm i b y j h1 h2=>h.inj nm i b y j (hm _ _ _ h1) (hm _ _ _ h2)⟩;obtain⟨g1,g2,g3⟩:=h.own nm i b (hm _ _ _ hb);refine⟨g1,qK g2 hn,λhd=>?_⟩;rcases hD b hd with q|q|⟨f,blk,G,A,z⟩;exact g3 q;omega;exact h.ent nm i b (hm _ _ _ hb) f blk G A z.symm;obtain⟨g1,g2,g3⟩:=h.own nm i b (hm _ _ _ hb);rcases hE y blk L hi with q|⟨f,u,G,A,z⟩;omega;exact h.ent nm i b (hm _ _ _ hb) f u G A (z.symm.trans e)
theorem fu.lt{lo:Nat}{O:Nat->Prop}{m:Nat->Option Blk}{E:Nat->Ent}{n:Nat}{D:Nat->Prop}(h:fu lo O m E n D){nm i k:Nat}{b:Blk}(hm:m nm=some b)(f:rowsOf (E nm) b i k):k<n:=
 (h.own nm i k (aK.2 ⟨b,hm,f⟩)).2.1
theorem aL.world{S:Base}{σ:Sig}{a:Act}{w w':World}{D D':Nat->Prop}{E:Nat->Ent}(h:aL S σ a w D E)
  (hw:Below w.heap.size w w') (f:∀b,D' b↔D b\/(gv w w' b/\D' b)) (y:∀b,D' b->b<w'.heap.size):aL S σ a w' D' E:=by
 have j:=h.low.size;refine h.go (m':=σ.m) ⟨λb hb=>(f b).2 (.inl hb),λb hb=>hw.block b (h.dlt b hb)⟩ (λnm=>.inl λb hb=>⟨b,hb,rfl,qL _,λ_=>rfl⟩)
  (λnm b hm=>.inl ⟨hm,rfl,λhi=>hw.block _ (h.own nm b hm hi).2.1,λi k u=>hw.block _ (h.pv.lt hm u)⟩) (λnm b hm hi=>?_) h.inj (h.low.below hw) y (λb hb=>?_)
  (h.pv.step (λ_ _ _ g=>g) hw.size (λb hb=>((f b).1 hb).imp id λg=>.inl g.1.1) λnm blk hm hi=>.inr ⟨nm,blk,hm,hi,rfl⟩)
 obtain⟨A,g2,z⟩:=h.own nm b hm hi;refine⟨A,qK g2 hw.size,λhd=>?_⟩;rcases(f _).1 hd with g|g;exact z g;exact xP _ (qK g2 g.1.1);rcases(f b).1 hb with g|g;exact .inl g;exact .inr (.inl (vP j g.1.1))
end Go.Eng
namespace Go.Eng
open Go.RowKit
def DO(e e':Ent):Prop:=e.isNil=e'.isNil/\(e.isNil=false->e.b=e'.b/\e.cap=e'.cap)
theorem DO.handle{e f:Ent}(h:DO e f)(n:Nat):e.handle n=f.handle n:=by
 unfold Ent.handle;rw[<- h.1];cases j:e.isNil with
 |true=>rfl|false=>obtain⟨u,g2⟩:=h.2 j;simp[u,g2]
theorem Vt{e u:Ent}{n:Nat}(h:e.handle n=u.handle n):DO e u:=by
 unfold Ent.handle at h;cases j:e.isNil<;>cases f:u.isNil<;>simp[j,f]at h;exact⟨j.trans f.symm,λ_=>h⟩;exact⟨j.trans f.symm,λe=>by rw[j]at e;cases e⟩
mutual
def AV.simple:AV->Bool|.agg cs=>AV.simpleL cs|.tup cs=>AV.simpleL cs|.fn _ cs=>AV.simpleL cs|.ifc _ a=>a.simple|.grd _ a=>a.simple|.ipv a=>a.simple|.ips cs=>AV.simpleL cs|.slv cs=>AV.simpleL cs|.sel _ cs=>AV.simpleL cs|.row _ _ _ _=>false|.rptr _ _ _ _ _=>false|.pin _ a=>a.simple|_=>true
def AV.simpleL:List AV->Bool|[]=>true|a::qz=>a.simple&&AV.simpleL qz
end
def Blk.simple:Blk->Bool|.var cs=>AV.simpleL cs|.buf _ _ _ ov=>AV.simpleL (ov.map (·.2))|.mat _ _ _ _ _=>false
mutual
theorem AV.rel_ent{P:Program}{w:World}{D:Nat->Prop}{m:Nat->Option Blk}{E E':Nat->Ent}{s:Bool}(L:∀nm b,m nm=some b->DO (E nm) (E' nm)/\(s=true->(E nm).rb=(E' nm).rb)):∀{a:AV}{v:Value},(s=false->a.simple=true)->a.rel P ⟨w,D,m,E⟩ v->a.rel P ⟨w,D,m,E'⟩ v
 |.top,_,_,_=>trivial|.dat _ _,_,_,h=>h|.agg cs,_,y,h=>by obtain⟨us,A,z⟩:=h;exact⟨us,A,AV.relL_ent L (by simpa[AV.simple]using y) z⟩
 |.tup cs,_,y,h=>by obtain⟨us,A,z⟩:=h;exact⟨us,A,AV.relL_ent L (by simpa[AV.simple]using y) z⟩
 |.val _,_,_,h=>h|.buf nm n,v,_,h=>λb hb=>by
  obtain⟨G,g2⟩:=h b hb;exact⟨G,λe=>(g2 e).trans ((L nm b hb).1.handle n)⟩
 |.ptr nm g i c,v,_,h=>λb hb=>by
  obtain⟨G,g2⟩:=h b hb;refine⟨G,λe=>?_⟩;obtain⟨q1,X,q3⟩:=g2 e;obtain⟨r1,r2⟩:=(L nm b hb).1;refine⟨q1,r1.symm.trans X,?_⟩;show v=.pointer (some ⟨(E' nm).b,_,none⟩);rw[<- (r2 X).1];exact q3
 |.ip t x,_,_,h=>h|.fn f caps,_,y,h=>by obtain⟨us,A,z⟩:=h;exact⟨us,A,AV.relL_ent L (by simpa[AV.simple]using y) z⟩
 |.clo1 a r pre g,_,_,h=>h|.clo2 a b r pre g,_,_,h=>h|.ifc t a,_,y,h=>by obtain⟨u,A,z⟩:=h;exact⟨u,A,AV.rel_ent L (by simpa[AV.simple]using y) z⟩
 |.grd g a,_,y,h=>⟨λhg=>AV.rel_ent L (by simpa[AV.simple]using y) (h.1 hg),h.2⟩|.ipv a,_,y,h=>by
  obtain⟨b,off,u,A,z,h3,h5⟩:=h;exact⟨b,off,u,A,z,h3,AV.rel_ent L (by simpa[AV.simple]using y) h5⟩
 |.ips cs,_,y,h|.slv cs,_,y,h=>by
  obtain⟨b,off,us,A,z,h3,h5⟩:=h;exact⟨b,off,us,A,z,h3,AV.relL_ent L (by simpa[AV.simple]using y) h5⟩
 |.ia t xs,_,_,h=>h|.yld _,_,_,h=>h|.view nm n,v,_,h=>λb hb=>by
  obtain⟨G,g2⟩:=h b hb;refine⟨G,λe=>?_⟩;obtain⟨q1,c,X,q3⟩:=g2 e;obtain⟨r1,r2⟩:=(L nm b hb).1;refine⟨r1.symm.trans q1,c,X,?_⟩;show v=.slice (some ⟨(E' nm).b,0,none⟩) n c;rw[<- (r2 q1).1];exact q3
 |.av _ _,_,_,h=>h|.sel i cs,_,y,h=>by
  obtain⟨us,A,z⟩:=h;exact⟨us,AV.relL_ent L (by simpa[AV.simple]using y) A,z⟩
 |.row nm g i k,v,y,h=>λb hb=>by
  cases s with
  |false=>exact absurd (y rfl) (by simp[AV.simple])|true=>
   obtain⟨G,g2⟩:=h b hb;refine⟨G,λe=>?_⟩;have:=(L nm b hb).2 rfl;show ∃ao cap,v=.slice ao k cap/\(0<k->ao=some ⟨((E' nm).rb i).1,0,none⟩);rw[<- this];exact g2 e
 |.rptr nm g i k j,v,y,h=>λb hb=>by
  cases s with
  |false=>exact absurd (y rfl) (by simp[AV.simple])|true=>
   obtain⟨G,g2⟩:=h b hb;refine⟨G,λe=>?_⟩;have:=(L nm b hb).2 rfl;show j<k/\v=.pointer (some ⟨((E' nm).rb i).1,j,none⟩);rw[<- this];exact g2 e
 |.pin u a,_,y,h=>⟨h.1,AV.rel_ent L (by simpa[AV.simple]using y) h.2⟩
theorem AV.relL_ent{P:Program}{w:World}{D:Nat->Prop}{m:Nat->Option Blk}{E E':Nat->Ent}{s:Bool}(L:∀nm b,m nm=some b->DO (E nm) (E' nm)/\(s=true->(E nm).rb=(E' nm).rb)):∀{qz:List AV}{us:Lv},(s=false->AV.simpleL qz=true)->AV.relL P ⟨w,D,m,E⟩ qz us->AV.relL P ⟨w,D,m,E'⟩ qz us
 |[],_,_,h=>h|a::qz,_,j,h=>by
  obtain⟨u,f,A,z,y⟩:=h;exact⟨u,f,A,AV.rel_ent L (λg=>(by have:=j g;simp[AV.simpleL]at this;exact this.1)) z,AV.relL_ent L (λg=>(by have:=j g;simp[AV.simpleL]at this;exact this.2)) y⟩
end
theorem Rk{ov:List (Nat×AV)}(h:AV.simpleL (ov.map (·.2))=true){i:Nat}{a:AV}(f:ov.lookup i=some a):a.simple=true:=by
 induction ov with
 |nil=>cases f
 |cons p ov j=>
  simp only[wV,AV.simpleL,qE]at h;obtain⟨k,v⟩:=p;simp only[List.lookup]at f;split at f;cases f;exact h.1;exact j h.2 f
theorem dQ.ent{P:Program}{base:Nat}{w:World}{D:Nat->Prop}{m:Nat->Option Blk}{E E':Nat->Ent}{s:Bool}(L:∀nm b,m nm=some b->DO (E nm) (E' nm)/\(s=true->(E nm).rb=(E' nm).rb)){e e':Ent}(j:DO e e'/\(s=true->e.rb=e'.rb)){b:Blk}
  (X:s=false->b.simple=true) (h:dQ P base ⟨w,D,m,E⟩ e b):dQ P base ⟨w,D,m,E'⟩ e' b:=by
 cases b with
 |var cs=>
  obtain⟨G,us,el,A,z⟩:=h;exact⟨j.1.1.symm.trans G,us,el,by rw[<- (j.1.2 G).1];exact A,AV.relL_ent L (by simpa[Blk.simple]using X) z⟩
 |buf el t xs ov=>
  obtain⟨raw,A,z⟩:=h;refine⟨raw,by rw[<- j.1.handle];exact A,λi y hy=>?_⟩;have g:=z i y hy;cases f:ov.lookup i with
  |none=>rw[f]at g;exact g|some a=>
   rw[f]at g;obtain⟨g1,u,g2,g4,g3⟩:=g;exact⟨g1,u,g2,g4,AV.rel_ent L (λq=>Rk (by simpa[Blk.simple]using X q) f) g3⟩
 |mat el eli t xss ov=>
  cases s with
  |false=>exact absurd (X rfl) (by simp[Blk.simple])|true=>
   obtain⟨G,raw,A,z⟩:=h;refine⟨G,raw,by rw[<- j.1.handle];exact A,λi row hi=>?_⟩;obtain⟨u,g1,g2⟩:=z i row hi;refine⟨u,g1,?_⟩;cases f:ov.lookup i with
   |some a=>
    rw[f]at g2;exact⟨g2.1,AV.rel_ent L (λq=>by cases q) g2.2⟩
   |none=>
    rw[f]at g2;obtain⟨ao,cap,r2,q1,q0,q2⟩:=g2;exact⟨ao,cap,r2,q1,q0,λhp=>by rw[<- j.2 rfl];exact q2 hp⟩
mutual
def kb:AV->AV|.buf _ _=>.top|.view _ _=>.top|.ptr _ _ _ _=>.top|.row _ _ _ _=>.top|.rptr _ _ _ _ _=>.top|.slv _=>.top|.agg cs=>.agg (tu cs)|.tup cs=>.tup (tu cs)|.fn f cs=>.fn f (tu cs)|.ipv a=>.ipv (kb a)|.ips cs=>.ips (tu cs)|.ifc t a=>.ifc t (kb a)|.grd g a=>.grd g (kb a)|.sel i cs=>.sel i (tu cs)|.pin u a=>.pin u (kb a)|a=>a
def tu:List AV->List AV|[]=>[]|a::qz=>kb a::tu qz
end
mutual
theorem AV.rel_forg{P:Program}{C:Ctx}:∀{a:AV}{v:Value},a.rel P C v->(kb a).rel P C v
 |.top,_,h=>h|.dat _ _,_,h=>h|.agg cs,_,h=>by obtain⟨us,y,j⟩:=h;exact⟨us,y,AV.relL_forg j⟩
 |.tup cs,_,h=>by obtain⟨us,y,j⟩:=h;exact⟨us,y,AV.relL_forg j⟩
 |.val _,_,h=>h|.buf _ _,_,_=>trivial|.view _ _,_,_=>trivial|.ptr _ _ _ _,_,_=>trivial|.row _ _ _ _,_,_=>trivial|.rptr _ _ _ _ _,_,_=>trivial|.slv _,_,_=>trivial|.ip _ _,_,h=>h|.fn f caps,_,h=>by obtain⟨us,y,j⟩:=h;exact⟨us,y,AV.relL_forg j⟩
 |.clo1 _ _ _ _,_,h=>h|.clo2 _ _ _ _ _,_,h=>h|.ifc t a,_,h=>by obtain⟨u,y,j⟩:=h;exact⟨u,y,AV.rel_forg j⟩
 |.grd g a,_,h=>⟨λG=>AV.rel_forg (h.1 G),h.2⟩|.ipv a,_,h=>by obtain⟨b,off,u,y,j,A,z⟩:=h;exact⟨b,off,u,y,j,A,AV.rel_forg z⟩
 |.ips cs,_,h=>by obtain⟨b,off,us,y,j,A,z⟩:=h;exact⟨b,off,us,y,j,A,AV.relL_forg z⟩
 |.ia _ _,_,h=>h|.yld _,_,h=>h|.av _ _,_,h=>h|.sel i cs,_,h=>by obtain⟨us,y,j⟩:=h;exact⟨us,AV.relL_forg y,j⟩
 |.pin u a,_,h=>⟨h.1,AV.rel_forg h.2⟩
theorem AV.relL_forg{P:Program}{C:Ctx}:∀{qz:List AV}{us:Lv},AV.relL P C qz us->AV.relL P C (tu qz) us
 |[],_,h=>h|a::qz,_,h=>by
  obtain⟨u,f,z,y,j⟩:=h;exact⟨u,f,z,AV.rel_forg y,AV.relL_forg j⟩
end
mutual
theorem fJ:∀(a:AV),(kb a).names=[]|.top|.dat _ _|.val _|.buf _ _|.view _ _|.ptr _ _ _ _|.row _ _ _ _|.rptr _ _ _ _ _|.ip _ _|.clo1 _ _ _ _|.clo2 _ _ _ _ _|.ia _ _|.yld _|.av _ _|.slv _=>rfl|.agg cs=>by simp only[kb,AV.names,dW]|.tup cs=>by simp only[kb,AV.names,dW]|.fn _ cs=>by simp only[kb,AV.names,dW]|.ifc _ a=>by simp only[kb,AV.names,fJ]|.grd _ a=>by simp only[kb,AV.names,fJ]|.ipv a=>by simp only[kb,AV.names,fJ]|.ips cs=>by simp only[kb,AV.names,dW]|.sel _ cs=>by simp only[kb,AV.names,dW]|.pin _ a=>by simp only[kb,AV.names,fJ]
theorem dW:∀(qz:List AV),AV.namesL (tu qz)=[]|[]=>rfl|a::qz=>by simp only[tu,AV.namesL,fJ,dW,wH]
end
mutual
def gM(nx:Nat):AV->AV|.buf _ n=>.buf nx n|.view _ n=>.view nx n|.ptr _ g i c=>.ptr nx g i c|.agg cs=>.agg (gL nx cs)|.tup cs=>.tup (gL nx cs)|.fn f cs=>.fn f (gL nx cs)|.ifc t a=>.ifc t (gM nx a)|.grd g a=>.grd g (gM nx a)|.ipv a=>.ipv (gM nx a)|.ips cs=>.ips (gL nx cs)|.slv _=>.top|.sel i cs=>.sel i (gL nx cs)|.row _ g i k=>.row nx g i k|.rptr _ g i k j=>.rptr nx g i k j|.pin u a=>.pin u (gM nx a)|a=>a
def gL(nx:Nat):List AV->List AV|[]=>[]|a::qz=>gM nx a::gL nx qz
end
mutual
theorem AV.rel_ren{P:Program}{w:World}{D:Nat->Prop}{m m':Nat->Option Blk}{E E':Nat->Ent}{k nx:Nat}(hm:m' nx=m k)(z:E' nx=E k):∀{a:AV}{v:Value},(∀x∈a.names,x=k)->a.rel P ⟨w,D,m,E⟩ v->(gM nx a).rel P ⟨w,D,m',E'⟩ v
 |.top,_,_,_=>trivial|.slv _,_,_,_=>trivial|.dat _ _,_,_,h=>h|.agg cs,_,y,h=>by obtain⟨us,G,A⟩:=h;exact⟨us,G,AV.relL_ren hm z (by simpa[AV.names]using y) A⟩
 |.tup cs,_,y,h=>by obtain⟨us,G,A⟩:=h;exact⟨us,G,AV.relL_ren hm z (by simpa[AV.names]using y) A⟩
 |.val _,_,_,h=>h|.buf nm n,v,y,h=>λb hb=>by
  have e:=y nm (by simp[AV.names]);subst e;have L:m nm=some b:=hm.symm.trans hb;obtain⟨X,g2⟩:=h b L;refine⟨X,λe=>?_⟩;show v=(E' nx).handle n;rw[z];exact g2 e
 |.view nm n,v,y,h=>λb hb=>by
  have e:=y nm (by simp[AV.names]);subst e;have L:m nm=some b:=hm.symm.trans hb;obtain⟨X,g2⟩:=h b L;refine⟨X,λe=>?_⟩;show(E' nx).isNil=false/\∃c,n<=c/\v=.slice (some ⟨(E' nx).b,0,none⟩) n c;rw[z];exact g2 e
 |.ptr nm g i c,v,y,h=>λb hb=>by
  have e:=y nm (by simp[AV.names]);subst e;have L:m nm=some b:=hm.symm.trans hb;obtain⟨X,g2⟩:=h b L;refine⟨X,λe=>?_⟩;show i<g/\(E' nx).isNil=false/\v=.pointer (some ⟨(E' nx).b,i*b.es+c,none⟩);rw[z];exact g2 e
 |.ip t x,_,_,h=>h|.fn f caps,_,y,h=>by obtain⟨us,G,A⟩:=h;exact⟨us,G,AV.relL_ren hm z (by simpa[AV.names]using y) A⟩
 |.clo1 a r pre g,_,_,h=>h|.clo2 a b r pre g,_,_,h=>h|.ifc t a,_,y,h=>by obtain⟨u,G,A⟩:=h;exact⟨u,G,AV.rel_ren hm z (by simpa[AV.names]using y) A⟩
 |.grd g a,_,y,h=>⟨λhg=>AV.rel_ren hm z (by simpa[AV.names]using y) (h.1 hg),h.2⟩|.ipv a,_,y,h=>by
  obtain⟨b,off,u,G,A,h3,h5⟩:=h;exact⟨b,off,u,G,A,h3,AV.rel_ren hm z (by simpa[AV.names]using y) h5⟩
 |.ips cs,_,y,h=>by
  obtain⟨b,off,us,G,A,h3,h5⟩:=h;exact⟨b,off,us,G,A,h3,AV.relL_ren hm z (by simpa[AV.names]using y) h5⟩
 |.ia t xs,_,_,h=>h|.yld _,_,_,h=>h|.av _ _,_,_,h=>h|.sel i cs,_,y,h=>by
  obtain⟨us,G,A⟩:=h;exact⟨us,AV.relL_ren hm z (by simpa[AV.names]using y) G,A⟩
 |.row nm g i kk,v,y,h=>λb hb=>by
  have e:=y nm (by simp[AV.names]);subst e;have:=h b (hm.symm.trans hb);refine⟨this.1,λe=>?_⟩;show ∃ao cap,v=.slice ao kk cap/\(0<kk->ao=some ⟨((E' nx).rb i).1,0,none⟩);rw[z];exact this.2 e
 |.rptr nm g i kk j,v,y,h=>λb hb=>by
  have e:=y nm (by simp[AV.names]);subst e;have:=h b (hm.symm.trans hb);refine⟨this.1,λe=>?_⟩;show j<kk/\v=.pointer (some ⟨((E' nx).rb i).1,j,none⟩);rw[z];exact this.2 e
 |.pin u a,_,y,h=>⟨h.1,AV.rel_ren hm z (by simpa[AV.names]using y) h.2⟩
theorem AV.relL_ren{P:Program}{w:World}{D:Nat->Prop}{m m':Nat->Option Blk}{E E':Nat->Ent}{k nx:Nat}(hm:m' nx=m k)(z:E' nx=E k):∀{qz:List AV}{us:Lv},(∀x∈AV.namesL qz,x=k)->AV.relL P ⟨w,D,m,E⟩ qz us->AV.relL P ⟨w,D,m',E'⟩ (gL nx qz) us
 |[],_,_,h=>h|a::qz,_,y,h=>by
  obtain⟨u,f,L,G,A⟩:=h;simp only[AV.namesL,qI]at y;exact⟨u,f,L,AV.rel_ren hm z (λx j=>y x (.inl j)) G,AV.relL_ren hm z (λx j=>y x (.inr j)) A⟩
end
structure Core where
 need:List Ob:=[]
 val:AV
 upd:List (Nat×Blk):=[]
 new:Option Nat:=none
def GH:Value->AV|.int k n=>.dat (.int k) n|.bool b=>.dat .bool b|.string s=>.dat .str s|v=>.val v
variable {C:Ctx}{P:Program}
theorem GG(v:Value):(GH v).rel P C v:=by
 cases v<;>simp[GH,AV.rel,ae]
def inR:IntKind->Int->Prop|.i8,n=>-128<=n/\n<=127|.i16,n=>-32768<=n/\n<=32767|.i32,n=>-2147483648<=n/\n<=2147483647|.i64,n=>-9223372036854775808<=n/\n<=9223372036854775807|.u8,n=>0<=n/\n<=255|.u16,n=>0<=n/\n<=65535|.u32,n=>0<=n/\n<=4294967295|.u64,n=>0<=n/\n<=18446744073709551615
instance (k:IntKind) (n:Int):Decidable (inR k n):=by
 cases k<;>(unfold inR;infer_instance)
variable {k:IntKind}
theorem ky{n:Int}(h:inR k n):k.wrap n=n:=by
 cases k;exact IntWalk.i8_in n h;exact IntWalk.i16_in n h;exact IntWalk.i32_in n h;exact IntWalk.i64_in n h;exact IntWalk.u8_in n h;exact IntWalk.u16_in n h;exact IntWalk.u32_in n h;exact IntWalk.u64_in n h
def aFj(op:BinOp)(k:IntKind)(x y:Int):Option Core:=
 match op with
 |.add=>some {need:=[inR k (x+y)],val:=.dat (.int k) (x+y)}|.sub=>some {need:=[inR k (x-y)],val:=.dat (.int k) (x-y)}|.mul=>some {need:=[inR k (x*y)],val:=.dat (.int k) (x*y)}|.quo=>some {need:=[y≠0,inR k (x.tdiv y)],val:=.dat (.int k) (x.tdiv y)}|.rem=>some {need:=[y≠0],val:=.dat (.int k) (x.tmod y)}|.eql=>some {val:=.dat .bool (Ed x y)}|.neq=>some {val:=.dat .bool (Ea x y)}|.lss=>some {val:=.dat .bool (Dn x y)}|.leq=>some {val:=.dat .bool (Ef x y)}|.gtr=>some {val:=.dat .bool (Ee x y)}|.geq=>some {val:=.dat .bool (Eb x y)}|_=>none
def aET(op:BinOp)(x y:ByteArray):Option Core:=
 match op with
 |.eql=>some {val:=.dat .bool (Gf x y)}|.neq=>some {val:=.dat .bool (!(Gf x y))}|.lss=>some {val:=.dat .bool (Gp x y)}|.leq=>some {val:=.dat .bool (Gp x y||Gf x y)}|.gtr=>some {val:=.dat .bool (!(Gp x y||Gf x y))}|.geq=>some {val:=.dat .bool (!Gp x y)}|.add=>some {need:=[((x.size+y.size:Nat):Int)<=9223372036854775807],val:=.dat .str (x++y)}|_=>none
def SA(P:Program)(t:TypeId):Bool:=match P.underlying t with|some .bool=>true|_=>false
def shE(op:BinOp)(k:IntKind)(x y:Int):Option Core:=
 match op with
 |.shr=>some {need:=[0<=y,Dc y<=k.bits],val:=.dat (.int k) (Gl x y)}|.shl=>some {need:=[0<=y,Dc y<=k.bits,inR k (Gs x y)],val:=.dat (.int k) (Gs x y)}|_=>none
def aFz(P:Program)(op:BinOp)(xT:TypeId):AV->AV->Option Core
 |.dat (.int k) x,.dat (.int k') y=>match shE op k x y with
  |some c=>some c|none=>if k=k' then aFj op k x y else none
 |.dat .str x,.dat .str y=>aET op x y|.dat .bool x,.dat .bool y=>if SA P xT then match op with
  |.eql=>some {val:=.dat .bool (Ew x y)}|.neq=>some {val:=.dat .bool (!(Ew x y))}|_=>none else none
 |_,_=>none
variable {t:TypeId}
theorem xx{x y:Int}:binOp .add t (.int k x) (.int k y)=Op.intArith .add k x y/\binOp .sub t (.int k x) (.int k y)=Op.intArith .sub k x y/\binOp .mul t (.int k x) (.int k y)=Op.intArith .mul k x y:=
 ⟨if_neg (λh=>h rfl),if_neg (λh=>h rfl),if_neg (λh=>h rfl)⟩
theorem TY{x y:Int}:binOp .quo t (.int k x) (.int k y)=Op.intDiv .quo k x y/\binOp .rem t (.int k x) (.int k y)=Op.intDiv .rem k x y:=
 ⟨if_neg (λh=>h rfl),if_neg (λh=>h rfl)⟩
theorem DJ{x y:Int}:binOp .eql t (.int k x) (.int k y)=Op.intCmp .eql x y/\binOp .neq t (.int k x) (.int k y)=Op.intCmp .neq x y/\binOp .lss t (.int k x) (.int k y)=Op.intCmp .lss x y:=
 ⟨if_neg (λh=>h rfl),if_neg (λh=>h rfl),if_neg (λh=>h rfl)⟩
theorem DI{x y:Int}:binOp .leq t (.int k x) (.int k y)=Op.intCmp .leq x y/\binOp .gtr t (.int k x) (.int k y)=Op.intCmp .gtr x y/\binOp .geq t (.int k x) (.int k y)=Op.intCmp .geq x y:=
 ⟨if_neg (λh=>h rfl),if_neg (λh=>h rfl),if_neg (λh=>h rfl)⟩
variable {c:Core}{op:BinOp}{w:World}
theorem VG{x y:Int}(h:aFj op k x y=some c)(j:∀p∈c.need,p):
  ∃v,(binOp op t (.int k x) (.int k y)).run P w=.ok v w/\c.val.rel P C v/\c.upd=[]:=by
 have R:∀n,(AV.dat (.int k) n).rel P C (.int k n):=λn=>rfl;have B:∀b,(AV.dat .bool b).rel P C (.bool b):=λb=>rfl;unfold aFj at h;cases op<;>simp only[reduceCtorEq]at h<;>cases h;case add=>
  have f:inR k (x+y):=Ob.get j (by simp);exact⟨.int k (x+y),by(rw[xx.1];simp only[Op.intArith,ky f];rfl),R _,rfl⟩
 case sub=>
  have f:inR k (x-y):=Ob.get j (by simp);exact⟨.int k (x-y),by(rw[xx.2.1];simp only[Op.intArith,ky f];rfl),R _,rfl⟩
 case mul=>
  have f:inR k (x*y):=Ob.get j (by simp);exact⟨.int k (x*y),by(rw[xx.2.2];simp only[Op.intArith,ky f];rfl),R _,rfl⟩
 case quo=>
  have f:y≠0:=Ob.get j (by simp);have u:inR k (x.tdiv y):=Ob.get j (by simp);exact⟨.int k (x.tdiv y),by(rw[TY.1];simp only[Op.intDiv,if_neg f,ky u];rfl),R _,rfl⟩
 case rem=>
  have f:y≠0:=Ob.get j (by simp);exact⟨.int k (x.tmod y),by(rw[TY.2];simp only[Op.intDiv,if_neg f];rfl),R _,rfl⟩
 case eql=>exact⟨.bool (x==y),by(rw[DJ.1];rfl),B _,rfl⟩
 case neq=>exact⟨.bool (x != y),by(rw[DJ.2.1];rfl),B _,rfl⟩
 case lss=>exact⟨.bool (decide (x<y)),by(rw[DJ.2.2];rfl),B _,rfl⟩
 case leq=>exact⟨.bool (decide (x<=y)),by(rw[DI.1];rfl),B _,rfl⟩
 case gtr=>exact⟨.bool (decide (x>y)),by(rw[DI.2.1];rfl),B _,rfl⟩
 case geq=>exact⟨.bool (decide (x≥y)),by(rw[DI.2.2];rfl),B _,rfl⟩
theorem Z5{k k':IntKind}{x y:Int}(h:shE op k x y=some c)(f:∀p∈c.need,p):
  ∃v,(binOp op t (.int k x) (.int k' y)).run P w=.ok v w/\c.val.rel P C v/\c.upd=[]:=by
 unfold shE at h;split at h;cases h;have z:0<=y:=Ob.get f (by simp);have j:y.toNat<=k.bits:=Ob.get f (by simp);refine⟨.int k (x.fdiv (2 ^ y.toNat)),?_,rfl,rfl⟩;show(Op.shift .shr k x k' y).run P w=_;simp only[Op.shift,if_neg (show ¬y<0 by omega),kH j];rfl;cases h;have z:0<=y:=Ob.get f (by simp);have j:y.toNat<=k.bits:=Ob.get f (by simp);have u:inR k (x*2 ^ y.toNat):=Ob.get f (by simp);refine⟨.int k (x*2 ^ y.toNat),?_,rfl,rfl⟩;show(Op.shift .shl k x k' y).run P w=_;simp only[Op.shift,if_neg (show ¬y<0 by omega),kH j,ky u];rfl;cases h
theorem VD{x y:ByteArray}(h:aET op x y=some c)(f:∀p∈c.need,p):
  ∃v,(binOp op t (.string x) (.string y)).run P w=.ok v w/\c.val.rel P C v/\c.upd=[]:=by
 have B:∀b,(AV.dat .bool b).rel P C (.bool b):=λb=>rfl;unfold aET at h;cases op<;>simp only[reduceCtorEq]at h<;>cases h;case add=>
  have u:((x.size+y.size:Nat):Int)<=9223372036854775807:=Ob.get f (by simp);have j:¬((x.size+y.size:Nat):Int)>IntKind.i64.max:=by
   have:IntKind.i64.max=9223372036854775807:=by decide
   omega
  exact⟨.string (x++y),by(show(Op.stringOp .add x y).run P w=_;simp only[Op.stringOp,if_neg j];rfl),rfl,rfl⟩
 all_goals exact⟨_,rfl,B _,rfl⟩
theorem lX(op:BinOp)(t:TypeId)(x y:Operand)(k k':IntKind)(a b:Int):(eqGuard op t x y (.int k a) (.int k' b)).run P w=.ok () w:=by
 unfold eqGuard;cases op<;>simp
theorem uA(op:BinOp)(t:TypeId)(x y:Operand)(a b:ByteArray):(eqGuard op t x y (.string a) (.string b)).run P w=.ok () w:=by
 unfold eqGuard;cases op<;>simp
theorem lK(op:BinOp)(t:TypeId)(x y:Operand)(a b:Bool):(eqGuard op t x y (.bool a) (.bool b)).run P w=.ok () w:=by
 unfold eqGuard;cases op<;>simp
theorem run_equalIn_bool(d:Nat)(f:P.underlying t=some .bool)(a b:Bool):(Op.equalIn (d+1) t (.bool a) (.bool b)).run P w=.ok (a==b) w:=by
 simp[Op.equalIn,vH f]
theorem run_equal_bool(f:P.underlying t=some .bool)(a b:Bool):(Op.equal t (.bool a) (.bool b)).run P w=.ok (a==b) w:=
 run_equalIn_bool 9999 f a b
theorem run_eql_bool(f:P.underlying t=some .bool)(a b:Bool):(binOp .eql t (.bool a) (.bool b)).run P w=.ok (.bool (a==b)) w:=by
 show(do pure (Value.bool (<- Op.equal t (.bool a) (.bool b))):Sem Value).run P w=_;rw[wO,run_equal_bool f];rfl
theorem run_neq_bool(f:P.underlying t=some .bool)(a b:Bool):(binOp .neq t (.bool a) (.bool b)).run P w=.ok (.bool (!(a==b))) w:=by
 show(do pure (Value.bool (!(<- Op.equal t (.bool a) (.bool b)))):Sem Value).run P w=_;rw[wO,run_equal_bool f];rfl
theorem VJ{x y:Operand}{a b:AV}{u v:Value}(h:aFz P op t a b=some c)(G:∀p∈c.need,p)
  (f:a.rel P C u) (hb:b.rel P C v):
  ∃r,(do eqGuard op t x y u v;binOp op t u v).run P w=.ok r w/\c.val.rel P C r/\c.upd=[]:=by
 unfold aFz at h;split at h;split at h;rename_i A;cases h;simp only[AV.rel,ae,vG,vY]at f hb;subst f hb;rename_i k xv k' yv _;obtain⟨r,z,j⟩:=Z5 (C:=C) (w:=w) (P:=P) (k':=k') (t:=t) A G;exact⟨r,by simp[lX,z],j⟩;split at h;rename_i hk;subst hk;simp only[AV.rel,ae,vG,vY]at f hb;subst f hb;obtain⟨r,z,j⟩:=VG (C:=C) (w:=w) (P:=P) (t:=t) h G;exact⟨r,by simp[lX,z],j⟩;cases h;simp only[AV.rel,ae,vG,vY]at f hb;subst f hb;obtain⟨r,z,j⟩:=VD (C:=C) (w:=w) (P:=P) (t:=t) h G;exact⟨r,by simp[uA,z],j⟩;split at h;rename_i L;simp only[AV.rel,ae,vG,vY]at f hb;subst f hb;have X:P.underlying t=some .bool:=by
  unfold SA at L;split at L;assumption;cases L
 split at h;cases h;exact⟨.bool (_==_),by rw[wO,lK,wB,run_eql_bool X],rfl,rfl⟩;cases h;exact⟨.bool (!(_==_)),by rw[wO,lK,wB,run_neq_bool X],rfl,rfl⟩;cases h;cases h;cases h
def unE(op:UnOp):AV->Option Core
 |.dat .bool b=>match op with|.not=>some {val:=.dat .bool (!b)}|_=>none
 |.dat (.int k) n=>match op with|.neg=>some {need:=[inR k (-n)],val:=.dat (.int k) (-n)}|_=>none
 |_=>none
theorem Z4{op:UnOp}{a:AV}{u:Value}(h:unE op a=some c)(j:∀p∈c.need,p)(f:a.rel P C u):
  ∃r,(Op.unary op u).run P w=.ok r w/\c.val.rel P C r/\c.upd=[]:=by
 unfold unE at h;split at h;simp only[AV.rel,ae,vG,vY]at f;subst f;split at h;cases h;exact⟨.bool _,rfl,rfl,rfl⟩;cases h;simp only[AV.rel,ae,vG,vY]at f;subst f;split at h;rename_i k n _;cases h;have y:inR k (-n):=Ob.get j (by simp);exact⟨.int k (-n),by(show(Op.intArith .sub k 0 n).run P w=_;simp only[Op.intArith,Int.zero_sub,ky y];rfl),rfl,rfl⟩;cases h;cases h
def aAK(P:Program)(src dst:TypeId):AV->Option Core
 |.dat (.int _) n=>match P.underlying src,P.underlying dst with
  |some _,some (.int k)=>some {need:=[inR k n],val:=.dat (.int k) n}|_,_=>none
 |_=>none
theorem QQ{src dst:TypeId}{a:AV}{u:Value}(h:aAK P src dst a=some c)(y:∀p∈c.need,p)(f:a.rel P C u):
  ∃r,(convert src dst u).run P w=.ok r w/\c.val.rel P C r/\c.upd=[]:=by
 unfold aAK at h;split at h;simp only[AV.rel,ae,vG,vY]at f;subst f;split at h;rename_i n _ _ d k j hd;cases h;have z:inR k n:=Ob.get y (by simp);refine⟨.int k n,?_,rfl,rfl⟩;cases d<;>simp[convert,vH j,vH hd,Conv.intToInt,ky z];cases h;cases h
def aBj(isMax:Bool)(k:IntKind):Int->List AV->Option Int
 |x,[]=>some x|x,a::r=>match a with
  |.dat (.int k') y=>if k=k' then aBj isMax k (if isMax then Fg x y else Eu x y) r else none|_=>none
theorem BH{P : Program}{C : Ctx}{w : World}(isMax : Bool)(k : IntKind):∀ (vs : List AV) (us : Lv) (x y : Int),aBj isMax k x vs = some y → AV.relL P C vs us →
    (us.foldlM (if isMax then Builtin.max2 else Builtin.min2) (.int k x)).run P w = .ok (.int k y) w
  |[],us,x,y,h,hv =>by
    simp only [aBj] at h; cases h;simp only [AV.relL] at hv; subst hv; rfl
  |a :: vs,us,x,y,h,hv =>by
    simp only [aBj] at h;split at h
    · rename_i k' z
      split at h
      · rename_i hk; subst hk
        obtain ⟨u,us',e,g1,g2⟩ := hv;simp only [AV.rel,ae,vG,vY] at g1;subst e g1;have ih := BH (w := w) isMax k vs us' _ y h g2;cases isMax
        · have : (if (z : Int) < x then (z : Int) else x) = min x z := (fun (a b : Int) =>(by omega : (if b < a then b else a) = min a b)) x z
          simp only [List.foldlM_cons,wO,wF,xM,Builtin.min2,yN,wB] at ih ⊢;rw [this]; exact ih
        · have : (if (z : Int) > x then (z : Int) else x) = max x z := (fun (a b : Int) =>(by omega : (if b > a then b else a) = max a b)) x z
          simp only [List.foldlM_cons,wO,kE,Builtin.max2,yN,wB] at ih ⊢;rw [this]; exact ih
      · cases h
    · cases h
end Go.Eng
namespace Go.Eng
open Go.RowKit
abbrev RV:=AV×Option Blk
def da(m:Nat->Option Blk):AV->Option Blk|.buf nm _=>m nm|.view nm _=>m nm|.ptr nm _ _ _=>m nm|.row nm _ _ _=>m nm|.rptr nm _ _ _ _=>m nm|_=>none
def ga(P:Program)(t:TypeId):Option Bool:=match P.underlying t with|some (.struct _)=>some true|some (.array _ _)=>some true|some _=>some false|none=>none
def sizeT(P:Program)(t:TypeId):Option Nat:=(P.info? t).map (·.size)
variable {P:Program}{t:TypeId}
theorem jP{b:Bool}(h:ga P t=some b)(w:World):(isAgg t).run P w=.ok b w:=by
 unfold ga at h;unfold isAgg;cases f:P.underlying t with
 |none=>rw[f]at h;cases h
 |some d=>
  rw[f]at h;rw[wO,vH f w];cases d<;>simp_all
theorem bB{n:Nat}(h:sizeT P t=some n)(w:World):(sizeOf t).run P w=.ok n w:=by
 unfold sizeT at h;cases hi:P.info? t with
 |none=>rw[hi]at h;cases h
 |some i=>
  rw[hi]at h;cases h;simp[sizeOf,typeInfo,hi]
def behind:AV->Option Blk->Option (List Ob×List AV)|.ip t x,_=>some ([],cellsOf t x)|.ipv x,_=>some ([],[x])|.ips cs,_=>some ([],cs)|.ptr _ g i c,some (.var cs)=>some ([1=g,i=0],cs.drop c)|.ptr _ g i c,some (.buf _ t xs [])=>some ([xs.length=g],(cellsOf t (Dw xs i t.dflt)).drop c)|.ptr _ g i 0,some (.buf _ t xs ((j,v)::_))=>if t.sz=1 then some ([xs.length=g,i=j],[v])else none|_,_=>none
variable {S:Base}{D:Nat->Prop}{a:Act}{w:World}{E:Nat->Ent}{v:Value}{σ:Sig}
theorem Bf(h:aL S σ a w D E){p:AV}{b:Option Blk}{ns:List Ob}{cs:List AV}
  (hb:b=da σ.m p) (hc:behind p b=some (ns,cs)) (hn:∀q∈ns,q) (hp:p.rel S.P ⟨w,D,σ.m,E⟩ v):
  ∃bl off us,v=.pointer (some ⟨bl,off,none⟩)/\cO w bl off us/\AV.relL S.P ⟨w,D,σ.m,E⟩ cs us:=by
 unfold behind at hc;split at hc;cases hc;obtain⟨bl,off,us,f,z,h3,h4⟩:=hp;exact⟨bl,off,us,f,h3,b8 h4⟩;cases hc;obtain⟨bl,off,u,f,z,h3,h4⟩:=hp;exact⟨bl,off,[u],f,λj q y=>by
  cases j with
  |zero=>simp at y;subst y;exact h3|succ j=>simp at y,u,[],rfl,h4,rfl⟩
 cases hc;obtain⟨bl,off,us,f,z,h3,h4⟩:=hp;exact⟨bl,off,us,f,h3,h4⟩;rename_i nm g i c cs;cases hc;have hm:σ.m nm=some (.var cs):=hb.symm;obtain⟨g1,g2⟩:=hp _ hm;have A:1=g:=Ob.get hn (by simp);have e2:i=0:=Ob.get hn (by simp);obtain⟨g3,g4,g5⟩:=g2 A;obtain⟨_,us,el,f,z⟩:=h.bl nm _ hm;subst e2;have hl:=AV.relL_length z;refine⟨(E nm).b,c,us.toList.drop c,by simpa using g5,?_,?_⟩;intro j u y;rw[vF]at y;have hh:w.heap[(E nm).b]?=some (.cells us el (0,0)):=f;rw[qDe w _ _ us el (0,0) hh];simpa using y;have e:cs=cs.take c++cs.drop c:=(xX c cs).symm;rw[e]at z;obtain⟨u1,u2,A,r1,r2⟩:=AV.relL_split z;have L:=AV.relL_length r1;by_cases hlt:c<=cs.length;have:u1.length=c:=by rw[<- L,qO];omega
 have e3:us.toList.drop c=u2:=by rw[A,<- this,qBj]
 rw[e3];exact r2;have e3:cs.drop c=[]:=yD Z;have e4:us.toList.drop c=[]:=yD Z;rw[e3,e4];rfl;rename_i nm g i c el t xs;cases hc;have hm:σ.m nm=some (.buf el t xs []):=hb.symm;obtain⟨g1,g2⟩:=hp _ hm;have A:xs.length=g:=Ob.get hn (by simp);obtain⟨g3,g4,g5⟩:=g2 A;obtain⟨raw,f,z⟩:=h.bl nm _ hm;have hi:i<xs.length:=Z;have hx:xs[i]?=some (xs.getD i t.dflt):=by rw[qA,qB hi];rfl
 have hr:=z i _ hx;simp only[List.lookup]at hr;have G:=b8 (P:=S.P) (C:=⟨w,D,σ.m,E⟩) hr;have hl:=AV.relL_length G;have X:(E nm).handle xs.length=.slice (some ⟨(E nm).b,0,none⟩) xs.length (E nm).cap:=by unfold Ent.handle;rw[g4];rfl
 rw[X]at f;have hsz:(raw.drop (i*t.sz)).take t.sz=(raw.drop (i*t.sz)).take t.sz:=rfl;have hrl:=f.1;have hmul:i*t.sz+t.sz<=xs.length*t.sz:=by
  have:=wM t.sz (show i+1<=xs.length from hi);rw[zT,yA]at this;exact this
 refine⟨(E nm).b,i*t.sz+c,((raw.drop (i*t.sz)).take t.sz).drop c,g5,?_,?_⟩;intro j u y;rw[vF,vV]at y;split at y;rename_i hlt;rw[vF]at y;show w.cell? ⟨(E nm).b,i*t.sz+c+j,none⟩=some u;have hlt2:i*t.sz+c+j<xs.length*t.sz:=Z;rw[f.cellAt (i*t.sz+c+j) hlt2,<- y,qAb];cases y;have e:cellsOf t (xs.getD i t.dflt)=(cellsOf t (xs.getD i t.dflt)).take c++(cellsOf t (xs.getD i t.dflt)).drop c:=(xX c _).symm;rw[e]at G;obtain⟨u1,u2,A,r1,r2⟩:=AV.relL_split G;have L:=AV.relL_length r1;by_cases hlt:c<=(cellsOf t (xs.getD i t.dflt)).length;have:u1.length=c:=by rw[<- L,qO];omega
 have e3:((raw.drop (i*t.sz)).take t.sz).drop c=u2:=by rw[A,<- this,qBj]
 rw[e3];exact r2;have e3:(cellsOf t (xs.getD i t.dflt)).drop c=[]:=yD Z;have e4:((raw.drop (i*t.sz)).take t.sz).drop c=[]:=yD Z;rw[e3,e4];rfl;rename_i nm g i el t xs j av rest;split at hc;rename_i ht;cases hc;have hm:σ.m nm=some (.buf el t xs ((j,av)::rest)):=hb.symm;obtain⟨g1,g2⟩:=hp _ hm;have A:xs.length=g:=Ob.get hn (by simp);have e2:i=j:=Ob.get hn (by simp);obtain⟨g3,g4,g5⟩:=g2 A;obtain⟨raw,f,z⟩:=h.bl nm _ hm;have hi:i<xs.length:=Z;have hx:xs[i]?=some (xs.getD i t.dflt):=by rw[qA,qB hi];rfl
 have hr:=z i _ hx;subst e2;simp only[List.lookup,xY]at hr;obtain⟨_,u,hu,_,hru⟩:=hr;have X:(E nm).handle xs.length=.slice (some ⟨(E nm).b,0,none⟩) xs.length (E nm).cap:=by unfold Ent.handle;rw[g4];rfl
 rw[X]at f;refine⟨(E nm).b,i*t.sz+0,[u],g5,?_,⟨u,[],rfl,hru,rfl⟩⟩;intro k q hk;cases k with
 |zero=>
  simp at hk;subst hk;show w.cell? ⟨(E nm).b,i*t.sz+0+0,none⟩=some u;rw[f.cellAt _ (by rw[ht];omega),<- hu,ht];simp
 |succ k=>simp at hk
 cases hc;cases hc
def WO(P:Program)(t:TypeId)(p:RV):Option Core:=
 match behind p.1 p.2,ga P t,sizeT P t with
 |some (ns,cs),some true,some k=>if k<=cs.length then some {need:=ns,val:=.agg (cs.take k)} else none|some (ns,c::_),some false,_=>some {need:=ns,val:=c}|_,_,_=>none
variable {c:Core}{p:RV}
theorem LL(h:aL S σ a w D E)
  (hb:p.2=da σ.m p.1) (hc:WO S.P t p=some c) (hn:∀q∈c.need,q) (hp:p.1.rel S.P ⟨w,D,σ.m,E⟩ v):
  ∃r,(Instr.loadAt t v).run S.P w=.ok r w/\c.val.rel S.P ⟨w,D,σ.m,E⟩ r/\c.upd=[]/\c.new=none:=by
 unfold WO at hc;split at hc;rename_i ns cs k h1 y h3;split at hc;rename_i hk;cases hc;obtain⟨bl,off,us,rfl,g1,g2⟩:=Bf h hb h1 hn hp;have hl:=AV.relL_length g2;have f:cO w bl off (us.take k):=λj u A=>by
  rw[vV]at A;split at A;exact g1 j u A;cases A
 have hu:∃d,S.P.underlying t=some d/\d.isRow=true:=by
  unfold ga at y;cases hd:S.P.underlying t with
  |none=>rw[hd]at y;cases y
  |some d=>exact⟨d,rfl,by rw[hd]at y;cases d<;>simp_all⟩
 obtain⟨d,X,L⟩:=hu;refine⟨.agg (us.take k).toArray,run_loadAt_mid (P:=S.P) w bl off t (us.take k) d f X L ?_,?_,rfl,rfl⟩;have:(us.take k).length=k:=by rw[qO];omega
 rw[this];exact h3;refine⟨us.take k,rfl,?_⟩;have e:cs=cs.take k++cs.drop k:=(xX k cs).symm;rw[e]at g2;obtain⟨u1,u2,e1,z,r2⟩:=AV.relL_split g2;have G:=AV.relL_length z;have:u1.length=k:=by rw[<- G,qO];omega
 have e3:us.take k=u1:=by rw[e1,<- this,List.take_left]
 rw[e3];exact z;cases hc;rename_i ns c' cs' h1 y;cases hc;obtain⟨bl,off,us,rfl,g1,g2⟩:=Bf h hb h1 hn hp;obtain⟨u,us',e,z,r2⟩:=g2;subst e;refine⟨u,?_,z,rfl,rfl⟩;have:=g1 0 u rfl;simp only[xZ]at this;simp[Instr.loadAt,Instr.sureAddr,loadVar,jP y,this];cases hc
def pj:(t:Ty)->t.den->Nat->Option AV|.pair a b,x,off=>if off=0 then some (.ip (.pair a b) x)else if a.sz<=off then pj b x.2 (off-a.sz)else none|.int k,x,off=>if off=0 then some (.ip (.int k) x)else none|.bool,x,off=>if off=0 then some (.ip .bool x)else none|.str,x,off=>if off=0 then some (.ip .str x)else none|.sl e,x,off=>if off=0 then some (.ip (.sl e) x)else none
variable {C:Ctx}
theorem zn {P : Program} {C : Ctx} : ∀ {t : Ty} {x : t.den} {off : Nat} {q : AV} {bl o : Nat} {us : Lv}, pj t x off = some q → C.D bl → cO C.w bl o us → ae C.w C.D t x us →
    q.rel P C (.pointer (some ⟨bl, o + off, none⟩))
  | .pair a b, x, off, q, bl, o, us, h, hD, hc, hr => by
    simp only [pj] at h
    split at h
    · rename_i h0; subst h0; cases h
      exact ⟨bl, o, us, rfl, hD, hc, hr⟩
    · split at h
      · rename_i h0 hle
        obtain ⟨u1, u2, e, r1, r2⟩ := hr
        have hl := aS r1
        subst e
        have hc2 : cO C.w bl (o + a.sz) u2 := fun j u hj => by
          have := hc (a.sz + j) u (by rw [qV (by omega)]; rw [hl]; simpa using hj)
          rw [qAb]; exact this
        have := zn (P := P) h hD hc2 r2
        rw [show o + off = o + a.sz + (off - a.sz) by omega]
        exact this
      · cases h
  | .int k, x, off, q, bl, o, us, h, hD, hc, hr => by
    simp only [pj] at h
    split at h
    · rename_i h0; subst h0; cases h; exact ⟨bl, o, us, rfl, hD, hc, hr⟩
    · cases h
  | .bool, x, off, q, bl, o, us, h, hD, hc, hr => by
    simp only [pj] at h
    split at h
    · rename_i h0; subst h0; cases h; exact ⟨bl, o, us, rfl, hD, hc, hr⟩
    · cases h
  | .str, x, off, q, bl, o, us, h, hD, hc, hr => by
    simp only [pj] at h
    split at h
    · rename_i h0; subst h0; cases h; exact ⟨bl, o, us, rfl, hD, hc, hr⟩
    · cases h
  | .sl _, x, off, q, bl, o, us, h, hD, hc, hr => by
    simp only [pj] at h
    split at h
    · rename_i h0; subst h0; cases h; exact ⟨bl, o, us, rfl, hD, hc, hr⟩
    · cases h
def rE(P:Program)(s:TypeId)(f:Nat)(p:RV):Option Core:=
 match P.underlying s with
 |some (.struct fs)=>match fs[f]? with
  |some fd=>match sizeT P fd.type with
   |some (_+1)=>match p with
    |(.ip t x,_)=>(pj t x fd.offset).map λq=>{val:=q}|(.ips cs,_)=>some {val:=.ips (cs.drop fd.offset)}|(.ptr nm g i c,some b)=>some {need:=[b.len=g],val:=.ptr nm g i (c+fd.offset)}|_=>none
   |_=>none
  |none=>none
 |_=>none
theorem CS(_h:aL S σ a w D E){s:TypeId}{f:Nat}
  (hb:p.2=da σ.m p.1) (hc:rE S.P s f p=some c) (hn:∀q∈c.need,q) (z:p.1.rel S.P ⟨w,D,σ.m,E⟩ v):
  ∃r,(Instr.fieldAt s v f).run S.P w=.ok r w/\c.val.rel S.P ⟨w,D,σ.m,E⟩ r/\c.upd=[]/\c.new=none:=by
 unfold rE at hc;split at hc;rename_i fs hu;split at hc;rename_i fd hf;split at hc;rename_i n hs;have h:∀bl o,(Instr.fieldAt s (.pointer (some ⟨bl,o,none⟩)) f).run S.P w=.ok (.pointer (some ⟨bl,o+fd.offset,none⟩)) w:=by
  intro bl o;have h0:=bB hs w;simp[Instr.fieldAt,vH hu,hf,Instr.sureAddr,fieldPlace,h0,xR]
 split at hc;rename_i t x b2;cases y:pj t x fd.offset with
 |none=>rw[y]at hc;cases hc
 |some q=>
  rw[y]at hc;cases hc;obtain⟨bl,off,us,rfl,h2,X,L⟩:=z;exact⟨_,h bl off,zn y h2 X L,rfl,rfl⟩
 rename_i cs b2;cases hc;obtain⟨bl,off,us,rfl,h2,X,L⟩:=z;refine⟨_,h bl off,⟨bl,off+fd.offset,us.drop fd.offset,rfl,h2,λj u hj=>?_,AV.relL_drop L _⟩,rfl,rfl⟩;rw[vF]at hj;rw[qAb];exact X _ u hj;rename_i nm g i c0 b;cases hc;have hm:σ.m nm=some b:=hb.symm;have A:b.len=g:=Ob.get hn (by simp);obtain⟨g1,g2⟩:=z b hm;obtain⟨g3,g4,rfl⟩:=g2 A;refine⟨_,h _ _,λb' G=>?_,rfl,rfl⟩;have e:b'=b:=wE (G.symm.trans hm);subst e;exact⟨g1,λ_=>⟨g3,g4,by rw[qAb]⟩⟩;cases hc;cases hc;cases hc;cases hc
def eH(P:Program)(t:TypeId):Option TypeId:=match P.underlying t with|some (.slice e)=>some e|_=>none
theorem dz{t e:TypeId}(h:eH P t=some e):P.underlying t=some (.slice e):=by
 unfold eH at h;split at h;cases h;assumption;cases h
def aFh(ty:Ty)(xs:List ty.den)(i:Int):Core:={need:=[0<=i,i<(xs.length:Int)],val:=.ip ty (Dw xs (Dc i) ty.dflt)}
def tr(nm n len:Nat)(i:Int):Core:={need:=[len=n,0<=i,i<(len:Int)],val:=.ptr nm n (Dc i) 0}
theorem getElem?_getD {α:Type}{xs:List α}{i:Nat}{d:α} (h:i<xs.length):xs[i]?=some (xs.getD i d):=by
 rw[qA,qB h];rfl
def aDM(ty:Ty)(xs:List ty.den)(n:Nat)(i:Int):Core:={need:=[xs.length=n,0<=i,i<(n:Int)],val:=.ip ty (Dw xs (Dc i) ty.dflt)}
def Sz(nm g j k n len:Nat)(i:Int):Core:={need:=[len=g,0<=i,i<(n:Int),Eo j k n<=g],val:=.ptr nm g (Eo j k i) 0}
def wz(P:Program)(t:TypeId)(p:RV)(i:AV):Option Core:=
 match P.underlying t,i with
 |some (.array n e),.dat (.int _) i=>match p with
  |(.ia ty xs,_)=>if sizeT P e=some ty.sz then some (aDM ty xs n i)else none|(.ptr nm g j 0,some (.buf _ ty xs _))=>match sizeT P e with
   |some se=>if se=se/ty.sz*ty.sz/\0<se/ty.sz then some (Sz nm g j (se/ty.sz) n xs.length i)else none|none=>none
  |_=>none
 |_,_=>none
theorem Xb{j k n g i:Nat}(hi:i<n)(f:0<k)(h:j+n*k<=g):j+i*k<g:=by
 have:(i+1)*k<=n*k:=wM k hi;rw[zT,yA]at this;omega
theorem HN(_h:aL S σ a w D E){i:AV}{v vi:Value}
  (hb:p.2=da σ.m p.1) (hc:wz S.P t p i=some c) (h:∀q∈c.need,q) (hp:p.1.rel S.P ⟨w,D,σ.m,E⟩ v) (hi:i.rel S.P ⟨w,D,σ.m,E⟩ vi):
  ∃r,(Instr.indexAt t v vi).run S.P w=.ok r w/\c.val.rel S.P ⟨w,D,σ.m,E⟩ r/\c.upd=[]/\c.new=none:=by
 unfold wz at hc;split at hc;case h_2=>cases hc
 rename_i n e k i hu;simp only[AV.rel,ae,vG,vY]at hi;subst hi;obtain⟨i,rfl⟩:∃j:Int,j=i:=⟨i,rfl⟩;have run:∀(bl o se:Nat),sizeT S.P e=some se->0<=i->i<(n:Int)->(Instr.indexAt t (.pointer (some ⟨bl,o,none⟩)) (.int k i)).run S.P w=.ok (.pointer (some ⟨bl,o+i.toNat*se,none⟩)) w:=by
  intro bl o se y L G;have hsz:=bB y w;simp[Instr.indexAt,asIntOf,vH hu,Instr.sureAddr,L,G,hsz,xR]
 split at hc;rename_i ty xs b2;split at hc;case isFalse=>cases hc
 rename_i y;cases hc;have hl:List.length xs=n:=Ob.get h (by simp[aDM]);have L:(0:Int)<=i:=Ob.get h (by simp[aDM]);have G:i<(n:Int):=Ob.get h (by simp[aDM]);obtain⟨bl,off,rfl,ao,cap,u,g2,g3,g4,g5⟩:=hp;simp only[vG,yH,vY,yE]at u;obtain⟨u,_⟩:=u;subst u;have hlt:i.toNat<List.length xs:=Z;obtain⟨ad,ue,q1,r1,r2,r3⟩:=g5 i.toNat _ (getElem?_getD hlt);cases q1;exact⟨_,run bl off _ y L G,⟨bl,_,ue,rfl,r1,r2,r3⟩,rfl,rfl⟩;rename_i nm g j el ty xs ov;split at hc;case h_2=>cases hc
 rename_i se y;split at hc;case isFalse=>cases hc
 rename_i f;obtain⟨f,A⟩:=f;cases hc;obtain⟨X,hkk⟩:∃X,X=se/ty.sz:=⟨_,rfl⟩;rw[<- hkk]at f A h ⊢;have z:xs.length=g:=Ob.get h (by simp[Sz]);have L:(0:Int)<=i:=Ob.get h (by simp[Sz]);have G:i<(n:Int):=Ob.get h (by simp[Sz]);have h2:Eo j X (n:Int)<=g:=Ob.get h (by simp[Sz]);have h2:j+n*X<=g:=by simpa[Eo]using h2
 have hm:σ.m nm=some (.buf el ty xs ov):=hb.symm;obtain⟨u,g2⟩:=hp _ hm;obtain⟨g3,g4,rfl⟩:=g2 z;refine⟨_,run _ _ se y L G,λb' hb'=>?_,rfl,rfl⟩;have e:b'=.buf el ty xs ov:=wE (hb'.symm.trans hm);subst e;refine⟨u,λ_=>⟨Xb (n:=n) Z A h2,g4,?_⟩⟩;simp only[Blk.es,xZ];rw[zT,qDh,<- f];cases hc
def ry(P:Program)(t:TypeId)(p:RV)(i:AV):Option Core:=
 match eH P t,i with
 |some e,.dat (.int _) i=>match p with
  |(.dat (.sl ty) xs,_)=>if sizeT P e=some ty.sz then
    some (aFh ty xs i)else none
  |(.buf nm n,some (.buf _ ty xs _))=>if sizeT P e=some ty.sz then
    some (tr nm n xs.length i)else none
  |(.view nm n,some (.buf _ ty xs _))=>if sizeT P e=some ty.sz then
    some (tr nm n xs.length i)else none
  |(.slv cs,_)=>if sizeT P e=some 1 then some {need:=[Dp 0 i,Dq i (Ec cs.length)],val:=.ips (cs.drop i.toNat)} else none|_=>none
 |_,_=>wz P t p i
theorem CH(_h:aL S σ a w D E){i:AV}{v vi:Value}
  (hb:p.2=da σ.m p.1) (hc:ry S.P t p i=some c) (A:∀q∈c.need,q) (hp:p.1.rel S.P ⟨w,D,σ.m,E⟩ v) (hi:i.rel S.P ⟨w,D,σ.m,E⟩ vi):
  ∃r,(Instr.indexAt t v vi).run S.P w=.ok r w/\c.val.rel S.P ⟨w,D,σ.m,E⟩ r/\c.upd=[]/\c.new=none:=by
 unfold ry at hc;split at hc;rename_i e k i he;have hu:=dz he;simp only[AV.rel,ae,vG,vY]at hi;subst hi;split at hc;rename_i ty xs b2;split at hc;rename_i hs;cases hc;obtain⟨i,rfl⟩:∃j:Int,j=i:=⟨i,rfl⟩;have h0:(0:Int)<=i:=Ob.get A (by simp[aFh]);have L:i<(List.length xs:Int):=Ob.get A (by simp[aFh]);obtain⟨ao,cap,g1,g2,g3,g4,g5⟩:=hp;simp only[vG,vY]at g1;subst g1;have hlt:i.toNat<List.length xs:=Z;obtain⟨X,ue,rfl,r1,r2,r3⟩:=g5 i.toNat _ (getElem?_getD hlt);have z:=g4 X rfl Z;have hadd:X.add (i.toNat*ty.sz)=⟨X.block,X.off+i.toNat*ty.sz,none⟩:=by
  cases X with|mk b o s=>simp only at z;subst z;exact xR b o _
 refine⟨.pointer (some ⟨X.block,X.off+i.toNat*ty.sz,none⟩),?_,⟨X.block,_,ue,rfl,r1,r2,r3⟩,rfl,rfl⟩;have h:=bB hs w;simp[Instr.indexAt,asIntOf,vH hu,h0,L,h,hadd];cases hc;rename_i nm n el ty xs ov;split at hc;rename_i hs;cases hc;obtain⟨i,rfl⟩:∃j:Int,j=i:=⟨i,rfl⟩;have f:List.length xs=n:=Ob.get A (by simp[tr]);have h0:(0:Int)<=i:=Ob.get A (by simp[tr]);have L:i<(List.length xs:Int):=Ob.get A (by simp[tr]);have hm:σ.m nm=some (.buf el ty xs ov):=hb.symm;obtain⟨g1,g2⟩:=hp _ hm;have e2:=g2 f;have h:=bB hs w;have y:(E nm).isNil=false:=by
  cases hq:(E nm).isNil with
  |false=>rfl|true=>
   obtain⟨raw,r1,r2⟩:=_h.bl nm _ hm;have e3:(E nm).handle xs.length=.slice none 0 0:=by unfold Ent.handle;rw[hq];rfl
   rw[e3]at r1;rcases r1.2 with⟨_,hz⟩|⟨g,cap,cur,hv,_⟩;have hz':List.length xs=0:=hz;rw[hz']at L;omega;cases hv
 have e3:(E nm).handle n=.slice (some ⟨(E nm).b,0,none⟩) n (E nm).cap:=by unfold Ent.handle;rw[y];rfl
 have e4:v=.slice (some ⟨(E nm).b,0,none⟩) n (E nm).cap:=e2.trans e3;subst e4;have G:i<(n:Int):=by rw[<- f];exact L
 refine⟨.pointer (some ⟨(E nm).b,i.toNat*ty.sz,none⟩),?_,λb' hb'=>?_,rfl,rfl⟩;simp[Instr.indexAt,asIntOf,vH hu,h0,G,h,xR];have e:b'=.buf el ty xs ov:=wE (hb'.symm.trans hm);subst e;exact⟨yK f.symm,λ_=>⟨(by have h9:i<(n:Int):=G;exact(show i.toNat<n by omega)),y,by simp[Blk.es]⟩⟩;cases hc;rename_i nm n el ty xs ov;split at hc;rename_i hs;cases hc;obtain⟨i,rfl⟩:∃j:Int,j=i:=⟨i,rfl⟩;have f:List.length xs=n:=Ob.get A (by simp[tr]);have h0:(0:Int)<=i:=Ob.get A (by simp[tr]);have L:i<(List.length xs:Int):=Ob.get A (by simp[tr]);have hm:σ.m nm=some (.buf el ty xs ov):=hb.symm;obtain⟨g1,g2⟩:=hp _ hm;obtain⟨y,cap,_,e4⟩:=g2 f;have h:=bB hs w;subst e4;have G:i<(n:Int):=by rw[<- f];exact L
 refine⟨.pointer (some ⟨(E nm).b,i.toNat*ty.sz,none⟩),?_,λb' hb'=>?_,rfl,rfl⟩;simp[Instr.indexAt,asIntOf,vH hu,h0,G,h,xR];have e:b'=.buf el ty xs ov:=wE (hb'.symm.trans hm);subst e;exact⟨yK f.symm,λ_=>⟨(by have h9:i<(n:Int):=G;exact(show i.toNat<n by omega)),y,by simp[Blk.es]⟩⟩;cases hc;rename_i cs b2;split at hc;rename_i hs;cases hc;have h0:(0:Int)<=i:=Ob.get A (by simp);have L:i<((cs.length:Nat):Int):=Ob.get A (by simp);obtain⟨b,off,us,rfl,r1,r2,r3⟩:=hp;have h:=bB hs w;refine⟨.pointer (some ⟨b,off+i.toNat,none⟩),?_,⟨b,off+i.toNat,us.drop i.toNat,rfl,r1,λj u hj=>?_,?_⟩,rfl,rfl⟩;simp[Instr.indexAt,asIntOf,vH hu,h0,L,h,xR];rw[vF]at hj;rw[qAb];exact r2 _ u hj;exact AV.relL_drop r3 _;cases hc;cases hc;exact HN _h hb hc A hp hi
def aFb(P:Program)(t:TypeId)(p:RV):Option Core:=
 match P.underlying t,p with
 |some .string,(.dat .str s,_)=>some {val:=.dat (.int .i64) (s.size:Int)}|some (.slice _),(.dat (.sl _) xs,_)=>some {val:=.dat (.int .i64) (List.length xs:Int)}|some (.slice _),(.buf _ n,some b)=>some {need:=[b.len=n],val:=.dat (.int .i64) (n:Int)}|some (.slice _),(.view _ n,some b)=>some {need:=[b.len=n],val:=.dat (.int .i64) (n:Int)}|some (.slice _),(.val (.slice none 0 0),_)=>some {val:=.dat (.int .i64) 0}|some (.slice _),(.slv cs,_)=>some {val:=.dat (.int .i64) ((cs.length:Nat):Int)}|some (.slice _),(.row _ g _ k,some b)=>some {need:=[b.len=g],val:=.dat (.int .i64) (k:Int)}|some (.array n _),_=>some {val:=.dat (.int .i64) (n:Int)}|_,_=>none
theorem xV(h:aL S σ a w D E){t ty:TypeId}{ts:Array TypeId}(j:ts[0]?=some t)
  (hb:p.2=da σ.m p.1) (hc:aFb S.P t p=some c) (hn:∀q∈c.need,q) (y:p.1.rel S.P ⟨w,D,σ.m,E⟩ v):
  ∃r,(Builtin.len_ ts ty #[v]).run S.P w=.ok r w/\c.val.rel S.P ⟨w,D,σ.m,E⟩ r/\c.upd=[]/\c.new=none:=by
 unfold aFb at hc;split at hc;rename_i s b u;cases hc;simp only[AV.rel,ae,vG,vY]at y;subst y;exact⟨_,by simp[Builtin.len_,j,vH u,goInt];try rfl,rfl,rfl,rfl⟩;rename_i e ty xs b u;cases hc;obtain⟨G,cap,g1,g2,g3,g4,g5⟩:=y;simp only[vG,vY]at g1;subst g1;exact⟨_,by simp[Builtin.len_,j,vH u,goInt];try rfl,rfl,rfl,rfl⟩;rename_i e nm n b u;cases hc;have f:b.len=n:=Ob.get hn (by simp);have hm:σ.m nm=some b:=hb.symm;obtain⟨g1,g2⟩:=y _ hm;have e2:=g2 f;have:∃G cap,v=.slice G n cap:=by
  rw[e2];unfold Ent.handle;split;rename_i hq;have z:=h.bl nm b hm;cases b with
  |var cs=>exact absurd hq (by rw[z.1];simp)|buf el ty xs ov=>
   obtain⟨raw,A,r2⟩:=z;have e3:(E nm).handle xs.length=.slice none 0 0:=by unfold Ent.handle;rw[hq];rfl
   rw[e3]at A;rcases A.2 with⟨_,L⟩|⟨g,cap,cur,X,_⟩;have:n=0:=by rw[<- f];exact L
   subst this;exact⟨none,0,rfl⟩;cases X
  |mat el eli ty xss ov=>
   obtain⟨_,raw,A,r2⟩:=z;have e3:(E nm).handle xss.length=.slice none 0 0:=by unfold Ent.handle;rw[hq];rfl
   rw[e3]at A;rcases A.2 with⟨_,L⟩|⟨g,cap,cur,X,_⟩;have:n=0:=by rw[<- f];exact L
   subst this;exact⟨none,0,rfl⟩;cases X
  exact⟨_,_,rfl⟩
 obtain⟨G,cap,rfl⟩:=this;exact⟨_,by simp[Builtin.len_,j,vH u,goInt];try rfl,rfl,rfl,rfl⟩;rename_i e nm n b u;cases hc;have f:b.len=n:=Ob.get hn (by simp);obtain⟨_,cap,_,rfl⟩:=(y _ hb.symm).2 f;exact⟨_,by simp[Builtin.len_,j,vH u,goInt];try rfl,rfl,rfl,rfl⟩;rename_i e b u;cases hc;simp only[AV.rel]at y;subst y;exact⟨_,by simp[Builtin.len_,j,vH u,goInt];try rfl,rfl,rfl,rfl⟩;rename_i e cs b u;cases hc;obtain⟨b,off,us,rfl,A,r2,r3⟩:=y;exact⟨_,by simp[Builtin.len_,j,vH u,goInt];try rfl,rfl,rfl,rfl⟩;rename_i e nm g i k b u;cases hc;have f:b.len=g:=Ob.get hn (by simp);obtain⟨G,cap,rfl,_⟩:=(y _ hb.symm).2 f;exact⟨_,by simp[Builtin.len_,j,vH u,goInt];try rfl,rfl,rfl,rfl⟩;rename_i n e u;cases hc;refine⟨.int .i64 n,?_,rfl,rfl,rfl⟩;cases v<;>simp[Builtin.len_,j,vH u,goInt];cases hc
def CX(i:Nat):AV->Option Core
 |.tup vs=>match vs[i]? with|some v=>some {val:=v}|none=>none
 |_=>none
theorem J3{i:Nat}{p:AV}(hc:CX i p=some c)(h:p.rel P C v):
  ∃r,(Instr.extract v i).run P w=.ok r w/\c.val.rel P C r/\c.upd=[]/\c.new=none:=by
 unfold CX at hc;split at hc;split at hc;rename_i vs a f;cases hc;obtain⟨us,rfl,z⟩:=h;obtain⟨u,y,j⟩:=AV.relL_get z f;exact⟨u,by simp[Instr.extract,y],j,rfl,rfl⟩;cases hc;cases hc
def Tf(P:Program)(t:TypeId)(f:Nat):AV->Option Core
 |.agg cs=>match P.underlying t with
  |some (.struct fs)=>match fs[f]? with
   |some fd=>match ga P fd.type,sizeT P fd.type with
    |some true,some k=>if fd.offset+k<=cs.length then some {val:=.agg ((cs.drop fd.offset).take k)} else none|some false,_=>match cs[fd.offset]? with|some v=>some {val:=v}|none=>none
    |_,_=>none
   |none=>none
  |_=>none
 |_=>none
theorem Td{f:Nat}{p:AV}(hc:Tf P t f p=some c)(G:p.rel P C v):
  ∃r,(Instr.field t v f).run P w=.ok r w/\c.val.rel P C r/\c.upd=[]/\c.new=none:=by
 unfold Tf at hc;split at hc;rename_i cs;obtain⟨us,rfl,j⟩:=G;split at hc;rename_i fs y;split at hc;rename_i fd z;split at hc;rename_i k h h4;split at hc;rename_i L;cases hc;have hl:=AV.relL_length j;refine⟨.agg (us.toArray.extract fd.offset (fd.offset+k)),?_,⟨(us.drop fd.offset).take k,?_,AV.relL_take (AV.relL_drop j _) _⟩,rfl,rfl⟩;simp[Instr.field,vH y,z,part,jP h,asAgg,bB h4];congr 1;apply yR;simp;cases hc;rename_i h;split at hc;rename_i v A;cases hc;obtain⟨u,h5,X⟩:=AV.relL_get j A;refine⟨u,?_,X,rfl,rfl⟩;simp[Instr.field,vH y,z,part,jP h,asAgg,h5];cases hc;cases hc;cases hc;cases hc;cases hc
def Ss(s:ByteArray)(i:Int):Core:={need:=[0<=i,i<(s.size:Int)],val:=.dat (.int .u8) (Fz s i)}
def SG(P:Program)(t:TypeId):AV->AV->Option Core
 |.dat .str s,.dat (.int _) i=>match P.underlying t with
  |some .string=>some (Ss s i)|_=>none
 |_,_=>none
theorem SE{p i:AV}{v h:Value}(hc:SG P t p i=some c)(y:∀q∈c.need,q)(u:p.rel P C v)(hi:i.rel P C h):
  ∃r,(Instr.index t v h).run P w=.ok r w/\c.val.rel P C r/\c.upd=[]/\c.new=none:=by
 unfold SG at hc;split at hc;rename_i s k i;split at hc;rename_i z;cases hc;simp only[AV.rel,ae,vG,vY]at u hi;subst u hi;obtain⟨i,rfl⟩:∃j:Int,j=i:=⟨i,rfl⟩;obtain⟨s,rfl⟩:∃j:ByteArray,j=s:=⟨s,rfl⟩;have G:(0:Int)<=i:=Ob.get y (by simp[Ss]);have X:i<(s.size:Int):=Ob.get y (by simp[Ss]);have f:i.toNat<s.size:=Z;refine⟨.int .u8 ((s.data.getD i.toNat 0).toNat:Int),?_,rfl,rfl,rfl⟩;have e:s[i.toNat]?=some (s.data.getD i.toNat 0):=by
  have A:i.toNat<s.data.size:=f;rw[getElem?_pos s i.toNat f];show some (s.data[i.toNat])=_;have L:s.data.getD i.toNat 0=s.data[i.toNat]:=by unfold Array.getD;rw[dif_pos A];rfl
  rw[L]
 simp[Instr.index,asIntOf,vH z,G,e];cases hc;cases hc
def ET(s:ByteArray)(l:Int)(h:Option Int):Core:=
 match h with
 |none=>{need:=[0<=l,l<=(s.size:Int)],val:=.dat .str (Gm s l)}|some h=>{need:=[0<=l,l<=h,h<=(s.size:Int)],val:=.dat .str (Gj s l h)}
def EU(ty:Ty)(xs:List ty.den)(l:Int)(h:Option Int):Core:=
 match h with
 |none=>{need:=[0<=l,l<=(xs.length:Int)],val:=.dat (.sl ty) (Fe xs l)}|some h=>{need:=[0<=l,l<=h,h<=(xs.length:Int)],val:=.dat (.sl ty) (Fb xs l h)}
def aDW:Option AV->Option (Option Int)|none=>some none|some (.dat (.int _) i)=>some (some i)|_=>none
def zq(P:Program)(t:TypeId)(x:AV)(lo hi:Option AV):Option Core:=
 match x,P.underlying t,aDW lo,aDW hi with
 |.dat .str s,some .string,some l,some h=>some (ET s (l.getD 0) h)|.dat (.sl ty) xs,some (.slice e),some l,some h=>if sizeT P e=some ty.sz then some (EU ty xs (l.getD 0) h)else none|_,_,_,_=>none
def aDH(P:Program)(C:Ctx):Option AV->Option Value->Prop|none,none=>True|some a,some v=>a.rel P C v|_,_=>False
theorem ub{a:Option AV}{v:Option Value}{r:Option Int}(h:aDW a=some r)(f:aDH P C a v):
  (r=none/\v=none)\/∃k i,r=some i/\v=some (.int k i):=by
 cases a with
 |none=>
  cases v with
  |none=>cases h;exact .inl ⟨rfl,rfl⟩
  |some v=>exact f.elim
 |some a=>
  cases v with
  |none=>exact f.elim|some v=>
   unfold aDW at h;split at h;rename_i j;cases j;rename_i k i j;cases j;cases h;simp only[aDH,AV.rel,ae,vG,vY]at f;subst f;exact .inr ⟨k,i,rfl,rfl⟩;cases h
theorem run_sliceBound{k:IntKind}{i:Int}{y:Nat}{code:BoundsCode}(h:0<=i)(f:i<=y):(Instr.sliceBound (.int k i) y code).run P w=.ok i.toNat w:=by
 simp[Instr.sliceBound,asIntOf,h,f]
theorem pw{x:AV}{lo hi:Option AV}{vl vh:Option Value}(hc:zq P t x lo hi=some c)(u:∀q∈c.need,q)
  (hx:x.rel P C v) (hl:aDH P C lo vl) (hh:aDH P C hi vh):
  ∃r,(Instr.sliceAt t v vl vh none).run P w=.ok r w/\c.val.rel P C r/\c.upd=[]/\c.new=none:=by
 unfold zq at hc;split at hc;rename_i s l h A X hbh;cases hc;simp only[AV.rel,ae,vG,vY]at hx;subst hx;obtain⟨s,rfl⟩:∃j:ByteArray,j=s:=⟨s,rfl⟩;have hsl:∀vl vh,Instr.slice t (.string s) vl vh none=Instr.slice t (.string s) vl vh none:=λ_ _=>rfl;rcases ub hbh hh with⟨rfl,rfl⟩|⟨kh,f,rfl,rfl⟩<;>rcases ub X hl with⟨rfl,rfl⟩|⟨kl,z,rfl,rfl⟩
 refine⟨_,?_,rfl,rfl,rfl⟩;simp[Instr.sliceAt,vH A,Instr.slice,Instr.sliceBounds,Gm,Gj];have h0:0<=z:=Ob.get u (by simp[ET]);have L:z<=(s.size:Int):=Ob.get u (by simp[ET]);refine⟨_,?_,rfl,rfl,rfl⟩;simp[Instr.sliceAt,vH A,Instr.slice,Instr.sliceBounds,Gm,Gj,run_sliceBound h0 L];have L:(0:Int)<=f:=Ob.get u (by simp[ET]);have h2:f<=(s.size:Int):=Ob.get u (by simp[ET]);refine⟨_,?_,rfl,rfl,rfl⟩;simp[Instr.sliceAt,vH A,Instr.slice,Instr.sliceBounds,Gm,Gj,run_sliceBound L h2];have h0:0<=z:=Ob.get u (by simp[ET]);have L:z<=f:=Ob.get u (by simp[ET]);have h2:f<=(s.size:Int):=Ob.get u (by simp[ET]);refine⟨_,?_,rfl,rfl,rfl⟩;have h3:z<=(f.toNat:Int):=Z;simp[Instr.sliceAt,vH A,Instr.slice,Instr.sliceBounds,Gm,Gj,run_sliceBound (show(0:Int)<=f by omega) h2,run_sliceBound h0 h3];rename_i ty xs e l h A X hbh;split at hc;rename_i hs;cases hc;obtain⟨xs,rfl⟩:∃j:List ty.den,j=xs:=⟨xs,rfl⟩;have G:=bB hs w;obtain⟨ao,cap,g1,g2,g3,g4,g5⟩:=hx;simp only[vG,vY]at g1;subst g1;have part:∀(l h:Nat),l<=h->h<=xs.length->
   (AV.dat (.sl ty) ((xs.take h).drop l)).rel P C (.slice (if cap=l then ao else ao.map (·.add (l*ty.sz))) (h-l) (cap-l)):=by
  intro l h hlh hhx;refine⟨_,cap-l,by rw[vZ,qO,kH hhx],by rw[vZ,qO];omega,?_,?_,?_⟩;intro hno;split at hno;rename_i he;omega;cases ao with
  |none=>have:=g3 rfl;omega|some a=>cases hno
  intro a ha hpos;rw[vZ,qO]at hpos;have hp0:0<xs.length:=Z;split at ha;exact g4 a ha hp0;cases ao with
  |none=>cases ha
  |some a0=>
   cases ha;have:=g4 a0 rfl hp0;cases a0 with|mk b o s=>simp only at this;subst this;simp only[xR]
  intro i y hy;rw[vF,vV]at hy;split at hy;rename_i hlt;obtain⟨a,ue,rfl,r1,r2,r3⟩:=g5 (l+i) y hy;have hlt':=(qC.1 hy).1;have hsp:=g4 a rfl (Nat.lt_of_le_of_lt (wK _) hlt');have hadd:a.add (l*ty.sz)=⟨a.block,a.off+l*ty.sz,none⟩:=by
   cases a with|mk b o s=>simp only at hsp;subst hsp;exact xR b o _
  refine⟨⟨a.block,a.off+l*ty.sz,none⟩,ue,?_,r1,?_,r3⟩;rw[if_neg Z];simp[hadd];have:a.off+(l+i)*ty.sz=a.off+l*ty.sz+i*ty.sz:=by rw[zT];omega
  rw[<- this];exact r2;cases hy
 rcases ub hbh hh with⟨rfl,rfl⟩|⟨kh,f,rfl,rfl⟩<;>rcases ub X hl with⟨rfl,rfl⟩|⟨kl,z,rfl,rfl⟩
 have:=part 0 xs.length (wK _) (qL _);rw[kY]at this;refine⟨_,?_,this,rfl,rfl⟩;simp[Instr.sliceAt,vH A,Instr.slice,Instr.sliceBounds,G];have h0:0<=z:=Ob.get u (by simp[EU]);have L:z<=(xs.length:Int):=Ob.get u (by simp[EU]);have:=part z.toNat xs.length Z (qL _);rw[kY]at this;refine⟨_,?_,this,rfl,rfl⟩;simp[Instr.sliceAt,vH A,Instr.slice,Instr.sliceBounds,G,run_sliceBound h0 L];have L:(0:Int)<=f:=Ob.get u (by simp[EU]);have h2:f<=(xs.length:Int):=Ob.get u (by simp[EU]);have h2':f<=(cap:Int):=Z;have:=part 0 f.toNat (wK _) Z;refine⟨_,?_,this,rfl,rfl⟩;simp[Instr.sliceAt,vH A,Instr.slice,Instr.sliceBounds,G,run_sliceBound L h2'];have h0:0<=z:=Ob.get u (by simp[EU]);have L:z<=f:=Ob.get u (by simp[EU]);have h2:f<=(xs.length:Int):=Ob.get u (by simp[EU]);have h2':f<=(cap:Int):=Z;have h3:z<=(f.toNat:Int):=Z;have:=part z.toNat f.toNat Z Z;refine⟨_,?_,this,rfl,rfl⟩;simp[Instr.sliceAt,vH A,Instr.slice,Instr.sliceBounds,G,run_sliceBound (show(0:Int)<=f by omega) h2',run_sliceBound h0 h3];cases hc;cases hc
end Go.Eng
namespace Go.Eng
open Go.RowKit
def l7:Ty->Ty->Ty|.pair a b,c=>.pair a (l7 b c)|a,c=>.pair a c
def rowOf:List (Option Ty)->Option Ty
 |[]=>none|[a]=>a|a::b::r=>match a,rowOf (b::r)with
  |some a,some c=>some (l7 a c)|_,_=>none
def aEe(P:Program):Nat->TypeId->Option Ty
 |0,_=>none|n+1,t=>match P.underlying t with
  |some (.int k)=>some (.int k)|some .bool=>some .bool|some .string=>some .str|some (.slice e)=>match aEe P n e with|some ty=>some (.sl ty)|none=>none
  |some (.struct fs)=>rowOf (fs.toList.map λf=>aEe P n f.type)|_=>none
def cI:AV->List AV|.agg cs=>cs|v=>[v]
def uV:RV->Option (List Ob)|(.dat t _,_)=>if t.sz=1 then some []else none|(.val u,_)=>if u.oneCell' then some []else none|(.buf _ n,some b)=>some [b.len=n]|(.ptr _ g _ _,some b)=>some [b.len=g]|(.ip _ _,_)=>some []|(.ips _,_)=>some []|(.fn _ _,_)=>some []|(.clo1 _ _ _ _,_)=>some []|(.clo2 _ _ _ _ _,_)=>some []|(.ifc _ _,_)=>some []|_=>none
theorem Ent.handle_one(e:Ent)(n:Nat):(e.handle n).oneCell'=true:=by
 unfold Ent.handle;split<;>rfl
theorem fK{w:World}{D:Nat->Prop}:∀{t:Ty}{x:t.den}{us:Lv},ae w D t x us->∀u∈us,u.oneCell'=true
 |.int _,_,_,h,u,f=>by simp only[ae]at h;subst h;simp at f;subst f;rfl|.bool,_,_,h,u,f=>by simp only[ae]at h;subst h;simp at f;subst f;rfl|.str,_,_,h,u,f=>by simp only[ae]at h;subst h;simp at f;subst f;rfl|.sl _,_,_,h,u,f=>by obtain⟨_,_,h,_⟩:=h;subst h;simp at f;subst f;rfl
 |.pair a b,_,_,h,u,f=>by
  obtain⟨A,z,h,y,j⟩:=h;subst h;rcases qI.1 f with g|g;exact fK y u g;exact fK j u g
variable {P:Program}{C:Ctx}
theorem Rm{p:RV}{ns:List Ob}{v:Value}(hb:p.2=none\/p.2=da C.m p.1)(h:uV p=some ns)(j:∀q∈ns,q)(f:p.1.rel P C v):v.oneCell'=true:=by
 unfold uV at h;split at h;exact fK f v (by simp);rename_i u b;split at h;rename_i y;simp only[AV.rel]at f;subst f;exact y;cases h;rename_i nm n b;cases h;have hm:C.m nm=some b:=(hb.resolve_left (by simp)).symm;rw[((f b hm).2 (Ob.get j (by simp)))];exact Ent.handle_one _ _;rename_i nm g i c b;cases h;have hm:C.m nm=some b:=(hb.resolve_left (by simp)).symm;obtain⟨_,_,e⟩:=(f b hm).2 (Ob.get j (by simp));rw[e];rfl;obtain⟨_,_,_,e,_⟩:=f;rw[e];rfl;obtain⟨_,_,_,e,_⟩:=f;rw[e];rfl;obtain⟨_,e,_⟩:=f;rw[e];rfl;obtain⟨_,_,e,_⟩:=f;rw[e];rfl;obtain⟨_,_,e,_⟩:=f;rw[e];rfl;obtain⟨_,e,_⟩:=f;rw[e];rfl;cases h
def Wg:List AV->Option (List Ob)
 |[]=>some []|c::cs=>match uV (c,none),Wg cs with
  |some a,some b=>some (a++b)|_,_=>none
def Jq:RV->Option (List Ob)|(.agg cs,_)=>Wg cs|p=>uV p
theorem Ly:∀{cs:List AV}{ns:List Ob}{us:Lv},Wg cs=some ns->(∀q∈ns,q)->AV.relL P C cs us->∀u∈us,u.oneCell'=true
 |[],_,us,_,_,f,u,j=>by simp only[AV.relL]at f;subst f;simp at j|c::cs,ns,us,h,z,f,u,j=>by
  simp only[Wg]at h;split at h;rename_i a b L G;cases h;obtain⟨v,A,e,X,g2⟩:=f;subst e;rcases zK.1 j with g|g;subst g;exact Rm (.inl rfl) L (λq y=>z q (qI.2 (.inl y))) X;exact Ly G (λq y=>z q (qI.2 (.inr y))) g2 u g;cases h
theorem pL{p:RV}{ns:List Ob}{v:Value}(hb:p.2=da C.m p.1)(h:Jq p=some ns)(y:∀q∈ns,q)(f:p.1.rel P C v):
  ∃us:Lv,v.cells=us.toArray/\AV.relL P C (cI p.1) us/\∀u∈us,u.oneCell'=true:=by
 unfold Jq at h;split at h;rename_i cs b;obtain⟨us,e,g⟩:=f;subst e;exact⟨us,rfl,g,Ly h y g⟩;rename_i j;have z:=Rm (.inr hb) h y f;refine⟨[v],?_,?_,by simpa using z⟩;cases v<;>first|rfl|cases z
 obtain⟨a,b⟩:=p;cases a<;>first|exact(j _ _ rfl).elim|exact⟨v,[],rfl,f,rfl⟩
theorem aL.newData{S:Base}{σ:Sig}{a:Act}{w:World}{D:Nat->Prop}{E:Nat->Ent}(h:aL S σ a w D E)(o:Obj):
  aL S σ a (w.alloc o) (λb=>D b\/b=w.heap.size) E:=by
 have e:(w.alloc o).heap.size=w.heap.size+1:=qH w o;refine h.world ⟨rfl,rfl,rfl,by rw[e];omega,λk f=>kF w o k f⟩ (λb=>⟨λhb=>?_,λhb=>?_⟩) (λb hb=>?_);rcases hb with g|g;exact .inl g;exact .inr ⟨⟨Z,by rw[e];omega⟩,.inr g⟩;rcases hb with g|⟨_,g⟩;exact .inl g;exact g;rcases hb with g|g;have:=h.dlt b g;rw[e];omega;rw[e];omega
def upE(E:Nat->Ent)(nm:Nat)(e:Ent):Nat->Ent:=λk=>if k=nm then e else E k
theorem dR{m:Nat->Option Blk}{nm:Nat}{b:Blk}(k:Nat):upM m [(nm,b)] k=if k=nm then some b else m k:=by
 unfold upM;simp only[List.lookup];by_cases e:k=nm;subst e;simp;have:(k==nm)=false:=by simpa using e
 simp[this,e]
theorem aL.newBlk{S:Base}{σ:Sig}{a:Act}{w w':World}{D:Nat->Prop}{E:Nat->Ent}(h:aL S σ a w D E){nm:Nat}(hu:Unm nm σ){b:Blk}{e:Ent}
  (hw:Below w.heap.size w w') (he:e.isNil=false->e.b=w.heap.size/\w.heap.size<w'.heap.size)
  (hb:dQ S.P 0 ⟨w',D,upM σ.m [(nm,b)],upE E nm e⟩ e b) (hpr:∀i k,rowsOf e b i k->False:=by(intro i k h;obtain⟨_,_,_,_,_,_,h,_⟩:=h;cases h)):
  aL S ⟨σ.T,upM σ.m [(nm,b)],σ.sv⟩ a w' D (upE E nm e):=by
 have hs:=h.low.size;have old:∀k u,upM σ.m [(nm,b)] k=some u->(k=nm/\u=b)\/(k≠nm/\σ.m k=some u):=λk u y=>by
  rw[dR]at y;split at y;rename_i L;cases y;exact .inl ⟨L,rfl⟩;rename_i L;exact .inr ⟨L,y⟩
 have j:∀k,k≠nm->upE E nm e k=E k:=λk y=>by simp[upE,y]
 have A:upE E nm e nm=e:=by simp[upE]
 refine h.go (m':=upM σ.m [(nm,b)]) ⟨λb hb=>hb,λb hb=>hw.block b (h.dlt b hb)⟩ (λk=>?_) (λk u y=>?_) (λk u y hi=>?_) (λk k' b1 b2 y hk' hi z f=>?_)
  (h.low.below hw) (λb hb=>qK (h.dlt b hb) hw.size) (λb hb=>.inl hb)
  (h.pv.step (λk i r hr=>by
   obtain⟨u,G,g2⟩:=aK.1 hr;rcases old k u G with⟨rfl,rfl⟩|⟨q1,q2⟩;rw[A]at g2;exact(hpr i r g2).elim;rw[j k q1]at g2;exact aK.2 ⟨u,q2,g2⟩) hw.size (λb hb=>.inl hb) λk u y hi=>by
   rcases old k u y with⟨rfl,rfl⟩|⟨q1,q2⟩;rw[A]at hi ⊢;exact .inl (yK (he hi).1.symm);rw[j k q1]at hi ⊢;exact .inr ⟨k,u,q2,hi,rfl⟩)
 by_cases L:k=nm;subst L;exact .inr hu;refine .inl λu hb'=>?_;rcases old k u hb' with⟨g,_⟩|⟨_,g⟩;exact(L g).elim;exact⟨u,g,rfl,qL _,λ_=>j k L⟩;rcases old k u y with⟨rfl,rfl⟩|⟨G,g2⟩;right;rw[A];exact hb;left;exact⟨g2,j k G,λhi=>hw.block _ (h.own k u g2 hi).2.1,λi r hr=>hw.block _ (h.pv.lt g2 hr)⟩;rcases old k u y with⟨rfl,rfl⟩|⟨G,g2⟩;rw[A]at hi ⊢;obtain⟨g3,X⟩:=he hi;rw[g3];exact⟨.inl hs,X,λhd=>xP _ (h.dlt _ hd)⟩;rw[j k G]at hi ⊢;obtain⟨g3,X,g5⟩:=h.own k u g2 hi;exact⟨g3,qK X hw.size,g5⟩;rcases old k b1 y with⟨rfl,rfl⟩|⟨G,g2⟩<;>rcases old k' b2 hk' with⟨rfl,rfl⟩|⟨g3,X⟩
 rfl;rw[A]at hi f;rw[j k' g3]at z f;have:=(h.own k' b2 X z).2.1;rw[<- f,(he hi).1]at this;exact(xP _ this).elim;rw[A]at z f;rw[j k G]at hi f;have:=(h.own k b1 g2 hi).2.1;rw[f,(he z).1]at this;exact(xP _ this).elim;rw[j k G]at hi f;rw[j k' g3]at z f;exact h.inj k k' b1 b2 g2 X hi z f
theorem aL.turnBlk{S:Base}{σ:Sig}{a:Act}{w w':World}{D:Nat->Prop}{E:Nat->Ent}(h:aL S σ a w D E){nm:Nat}{b0 b:Blk}(hm:σ.m nm=some b0){e:Ent}
  (hes:b0.es=b.es) (hlen:b0.len<=b.len) (hsame:b0.len=b.len->e=E nm)
  (hos:w'.os=w.os) (htape:w'.tape=w.tape) (hout:w'.output=w.output) (u:w.heap.size<=w'.heap.size)
  (hw:∀k,k<w.heap.size->((E nm).isNil=false->k≠(E nm).b)->w'.heap[k]?=w.heap[k]?)
  (he:e.isNil=false->(e.b=w.heap.size/\w.heap.size<w'.heap.size)\/((E nm).isNil=false/\e.b=(E nm).b))
  (hb:dQ S.P 0 ⟨w',D,upM σ.m [(nm,b)],upE E nm e⟩ e b) (hpr:∀i k,rowsOf e b i k->rowsOf (E nm) b0 i k:=by(intro i k h;obtain⟨_,_,_,_,_,_,h,_⟩:=h;cases h)):
  aL S ⟨σ.T,upM σ.m [(nm,b)],σ.sv⟩ a w' D (upE E nm e):=by
 have hs:=h.low.size;have old:∀k y,upM σ.m [(nm,b)] k=some y->(k=nm/\y=b)\/(k≠nm/\σ.m k=some y):=λk y z=>by
  rw[dR]at z;split at z;rename_i ek;cases z;exact .inl ⟨ek,rfl⟩;rename_i ek;exact .inr ⟨ek,z⟩
 have A:∀k,k≠nm->upE E nm e k=E k:=λk z=>by simp[upE,z]
 have G:upE E nm e nm=e:=by simp[upE]
 have hD:∀b,D b->w'.heap[b]?=w.heap[b]?:=λk z=>hw k (h.dlt k z) λhi ek=>(h.own nm b0 hm hi).2.2 (ek▸z);have hlow:Chg S.O S.w0 w':=h.low.step hos htape hout u λk z hno=>hw k (qK z hs) λhi ek=>by
  rcases(h.own nm b0 hm hi).1 with g|g;omega;exact hno (ek▸g)
 refine h.go (m':=upM σ.m [(nm,b)]) ⟨λb hb=>hb,hD⟩ (λk=>.inl λy hb'=>?_) (λk y z=>?_) (λk y z hi=>?_) (λk k' b1 b2 z hk' hi f j=>?_)
  hlow (λb hb=>qK (h.dlt b hb) u) (λb hb=>.inl hb)
  (h.pv.step (λk i r hr=>by
   obtain⟨y,L,g2⟩:=aK.1 hr;rcases old k y L with⟨rfl,rfl⟩|⟨q1,q2⟩;rw[G]at g2;exact aK.2 ⟨b0,hm,hpr i r g2⟩;rw[A k q1]at g2;exact aK.2 ⟨y,q2,g2⟩) u (λb hb=>.inl hb) λk y z hi=>by
   rcases old k y z with⟨rfl,rfl⟩|⟨q1,q2⟩;rw[G]at hi ⊢;rcases he hi with⟨q3,_⟩|⟨q3,q4⟩;exact .inl (yK q3.symm);exact .inr ⟨k,b0,hm,q3,q4⟩;rw[A k q1]at hi ⊢;exact .inr ⟨k,y,q2,hi,rfl⟩)
 rcases old k y hb' with⟨rfl,rfl⟩|⟨L,g2⟩;exact⟨b0,hm,hes,hlen,λe'=>G.trans (hsame e')⟩;exact⟨y,g2,rfl,qL _,λ_=>A k L⟩;rcases old k y z with⟨rfl,rfl⟩|⟨L,g2⟩;right;rw[G];exact hb;left;refine⟨g2,A k L,λhi=>hw _ (h.own k y g2 hi).2.1 λf ek=>L (h.inj k nm y b0 g2 hm hi f ek),λi r hr=>hw _ (h.pv.lt g2 hr) λf ek=>?_⟩;exact h.pv.ent k i r (aK.2 ⟨y,g2,hr⟩) nm b0 hm f ek.symm;rcases old k y z with⟨rfl,rfl⟩|⟨L,g2⟩;rw[G]at hi ⊢;rcases he hi with⟨g3,X⟩|⟨g3,X⟩;rw[g3];exact⟨.inl hs,X,λhd=>xP _ (h.dlt _ hd)⟩;rw[X];obtain⟨g5,g6,g7⟩:=h.own k b0 hm g3;exact⟨g5,qK g6 u,g7⟩;rw[A k L]at hi ⊢;obtain⟨g3,X,g5⟩:=h.own k y g2 hi;exact⟨g3,qK X u,g5⟩;have key:∀k' b2,k'≠nm->σ.m k'=some b2->(E k').isNil=false->e.isNil=false->e.b=(E k').b->False:=λk' b2 g3 X f hi j=>by
  rcases he hi with⟨g5,_⟩|⟨g5,g6⟩;have:=(h.own k' b2 X f).2.1;rw[<- j,g5]at this;exact xP _ this;exact g3 (h.inj k' nm b2 b0 X hm f g5 (j.symm.trans g6))
 rcases old k b1 z with⟨rfl,rfl⟩|⟨L,g2⟩<;>rcases old k' b2 hk' with⟨rfl,rfl⟩|⟨g3,X⟩
 rfl;rw[G]at hi j;rw[A k' g3]at f j;exact(key k' b2 g3 X f hi j).elim;rw[G]at f j;rw[A k L]at hi j;exact(key k b1 L g2 hi f j.symm).elim;rw[A k L]at hi j;rw[A k' g3]at f j;exact h.inj k k' b1 b2 g2 X hi f j
theorem aL.turnLater{S:Base}{σ:Sig}{a:Act}{w w':World}{D:Nat->Prop}{E:Nat->Ent}(h:aL S σ a w D E){nm:Nat}{b0 b:Blk}(hm:σ.m nm=some b0){e:Ent}
  (z:b0.es=b.es) (u:b0.len<=b.len) (j:b0.len=b.len->e=E nm)
  (hw:∀k,k<w.heap.size->((E nm).isNil=false->k≠(E nm).b)->w'.heap[k]?=w.heap[k]?):
  Later ⟨w,D,σ.m,E⟩ ⟨w',D,upM σ.m [(nm,b)],upE E nm e⟩/\∀k,oh ⟨w,D,σ.m,E⟩ ⟨w',D,upM σ.m [(nm,b)],upE E nm e⟩ k:=by
 refine⟨⟨λb hb=>hb,λk A=>hw k (h.dlt k A) λhi y=>(h.own nm b0 hm hi).2.2 (y▸A)⟩,λk G f=>?_⟩;replace f:upM σ.m [(nm,b)] k=some G:=f;rw[dR]at f;split at f;rename_i y;subst y;cases f;exact⟨b0,hm,z,u,λL=>by show upE E k e k=E k;simp[upE];exact j L⟩;rename_i y;exact⟨G,f,rfl,qL _,λ_=>by show upE E nm e k=E k;simp[upE,y]⟩
end Go.Eng
namespace Go.Eng
open Go.RowKit
def Yields(S:Base)(σ':Sig)(a:Act)(x:AV)(r:Result Next):Prop:=
 (∃v w',r=.ok (.value v) w'/\Outcome S σ' a x v w')\/(∃w',r=.ok .skip w'/\Outcome S σ' a x undef w')\/
 (∃f args w',r=.ok (.enter f args) w'/\Calls S.P f args w' λe w''=>∃v,e=.returned v/\Outcome S σ' a x v w'')
def PZ(P:Program)(t:TypeId):Option Ty:=match aEe P 12 t with|some ty=>if sizeT P t=some ty.sz then some ty else none|none=>none
variable {P:Program}{t:TypeId}
theorem PY{ty:Ty}(h:PZ P t=some ty):sizeT P t=some ty.sz:=by
 unfold PZ at h;split at h;split at h;rename_i f;cases h;exact f;cases h;cases h
def aFy(P:Program)(mt:Bool)(nx:Nat)(elem:TypeId)(p:RV):Option Core:=
 match Jq p with
 |some ns=>match mt,PZ P elem with
  |false,some ty=>match cV ty (cI p.1)with
   |some (x,[])=>some {need:=ns,val:=.ip ty x}|_=>some {need:=ns,val:=.ptr nx 1 0 0,upd:=[(nx,.var (cI p.1))],new:=some nx}
  |_,_=>some {need:=ns,val:=.ptr nx 1 0 0,upd:=[(nx,.var (cI p.1))],new:=some nx}
 |none=>none
variable {S:Base}{D:Nat->Prop}{a:Act}{nx:Nat}{w:World}{E:Nat->Ent}{σ:Sig}
theorem YV(h:aL S σ a w D E)(hu:Unm nx σ){cs:List AV}{us:Lv}(el:TypeId)
  (hr:AV.relL S.P ⟨w,D,σ.m,E⟩ cs us) (y:nx∉AV.namesL cs):
  Outcome S ⟨σ.T,upM σ.m [(nx,.var cs)],σ.sv⟩ a (.ptr nx 1 0 0) (.pointer (some ⟨w.heap.size,0,none⟩)) (w.alloc (.cells us.toArray el)):=by
 have L:(w.alloc (.cells us.toArray el)).heap.size=w.heap.size+1:=qH _ _;have j:Below w.heap.size w (w.alloc (.cells us.toArray el)):=⟨rfl,rfl,rfl,by rw[L];omega,λk z=>kF w _ k z⟩;have u:Later ⟨w,D,σ.m,E⟩ ⟨w.alloc (.cells us.toArray el),D,upM σ.m [(nx,.var cs)],upE E nx ⟨w.heap.size,0,false,noR⟩⟩:=
  ⟨λb hb=>hb,λb hb=>j.block b (h.dlt b hb)⟩
 refine⟨D,upE E nx ⟨w.heap.size,0,false,noR⟩,h.newBlk hu j (λ_=>⟨rfl,by rw[L];omega⟩) ⟨rfl,us.toArray,el,heap_alloc_new w _,?_⟩,λb hb=>?_⟩;refine AV.relL_mono u (λk z X f=>?_) (by simpa using hr);have A:k≠nx:=λe=>y (e▸z);replace f:upM σ.m [(nx,.var cs)] k=some X:=f;rw[dR,if_neg A]at f;exact⟨X,f,rfl,qL _,λ_=>by show upE E nx _ k=E k;simp[upE,A]⟩;replace hb:upM σ.m [(nx,.var cs)] nx=some b:=hb;rw[dR,if_pos rfl]at hb;cases hb;have G:upE E nx (⟨w.heap.size,0,false,noR⟩:Ent) nx=⟨w.heap.size,0,false,noR⟩:=by simp[upE]
 refine⟨qL _,λ_=>⟨Z,?_,?_⟩⟩;show(upE E nx _ nx).isNil=false;rw[G];show _=Value.pointer (some ⟨(upE E nx _ nx).b,_,_⟩);rw[G];simp
variable {c:Core}{elem:TypeId}
theorem aAS(h:aL S σ a w D E){mt:Bool}{p:RV}{v:Value}
  (hb:p.2=da σ.m p.1) (hc:aFy S.P mt nx elem p=some c) (X:∀q∈c.need,q) (hu:∀k,c.new=some k->Unm k σ/\k∉AV.namesL (cI p.1)) (L:p.1.rel S.P ⟨w,D,σ.m,E⟩ v):
  ∃r w',(Instr.box elem v).run S.P w=.ok r w'/\Outcome S ⟨σ.T,upM σ.m c.upd,σ.sv⟩ a c.val r w':=by
 have run:∀us:Lv,v.cells=us.toArray->(Instr.box elem v).run S.P w=.ok (.pointer (some ⟨w.heap.size,0,none⟩)) (w.alloc (.cells us.toArray elem)):=by
  intro us y;simp[Instr.box,newVar,newRow,y]
 have var:∀ns,Jq p=some ns->c={need:=ns,val:=.ptr nx 1 0 0,upd:=[(nx,.var (cI p.1))],new:=some nx}->
   ∃r w',(Instr.box elem v).run S.P w=.ok r w'/\Outcome S ⟨σ.T,upM σ.m c.upd,σ.sv⟩ a c.val r w':=by
  intro ns f hc;subst hc;obtain⟨us,z,g2,_⟩:=pL hb f X L;obtain⟨G,A⟩:=hu nx rfl;exact⟨_,_,run us z,YV h G elem g2 A⟩
 unfold aFy at hc;split at hc;rename_i ns f;split at hc;split at hc;rename_i x hx;cases hc;obtain⟨us,z,g2,_⟩:=pL hb f X L;obtain⟨G,A,e,r1,r2⟩:=cy hx g2;simp only[AV.relL]at r2;subst r2;simp only[wH]at e;subst e;refine⟨_,_,run _ z,λb=>D b\/b=w.heap.size,E,h.newData _,w.heap.size,0,us,rfl,.inr rfl,?_,?_⟩;intro j u hj;rw[zG];show(w.alloc _).cell? ⟨w.heap.size,j,none⟩=some u;rw[kN];simpa using hj;exact au (λb hb=>.inl hb) (λb hb=>kF w _ b (h.dlt b hb)) r1;cases hc;exact var _ f rfl;cases hc;exact var _ f rfl;cases hc
def Uj(P:Program)(nx:Nat)(elem:TypeId):Option Core:=
 match(P.info? elem).bind (·.zero)with
 |some z=>some {val:=.ptr nx 1 0 0,upd:=[(nx,.var (z.cells.toList.map GH))],new:=some nx}|none=>none
theorem sd:∀l:Lv,AV.namesL (l.map GH)=[]
 |[]=>rfl|v::l=>by
  simp only[wV,AV.namesL,sd l,wH];cases v<;>rfl
variable {C:Ctx}
theorem rc:∀l:Lv,AV.relL P C (l.map GH) l|[]=>rfl|v::l=>⟨v,l,rfl,GG v,rc l⟩
theorem Ui(h:aL S σ a w D E)
  (hc:Uj S.P nx elem=some c) (u:∀k,c.new=some k->Unm k σ):
  ∃r w',(Instr.alloc elem true (.tuple #[])).run S.P w=.ok r w'/\Outcome S ⟨σ.T,upM σ.m c.upd,σ.sv⟩ a c.val r w':=by
 unfold Uj at hc;split at hc;rename_i z f;cases hc;cases hi:S.P.info? elem with
 |none=>rw[hi]at f;cases f
 |some i=>
  have j:i.zero=some z:=by rw[hi]at f;exact f
  refine⟨_,w.alloc (.cells z.cells elem),?_,YV h (u nx rfl) elem (us:=z.cells.toList) (rc _) (by rw[sd];simp)⟩;simp[Instr.alloc,zeroValue,typeInfo,hi,j,newVar,newRow]
 cases hc
theorem BJ{cs new:List AV}{us vs:Lv}(h:AV.relL P C cs us)(f:AV.relL P C new vs)(c:Nat)(hc:c+new.length<=cs.length):
  AV.relL P C (cs.take c++new++cs.drop (c+new.length)) (us.take c++vs++us.drop (c+vs.length)):=by
 rw[AV.relL_length f];exact AV.relL_append (AV.relL_append (AV.relL_take h _) f) (AV.relL_drop h _)
def sY(el:TypeId)(t:Ty)(xs:List t.den)(i:Nat)(y:t.den):Blk:=.buf el t (Ep xs i y) []
def rH(el:TypeId)(t:Ty)(xs:List t.den)(i:Nat)(v:AV):Blk:=.buf el t xs [(i,v)]
def MQ:AV->Bool|.agg _=>true|_=>false
def Qx(P:Program)(t:TypeId)(p v:RV):Option Core:=
 match Jq v,sizeT P t with
 |some ns,some k=>
  if k=(cI v.1).length then
   match p with
   |(.ptr nm g i c,some (.var cs))=>
    if c+(cI v.1).length<=cs.length then
     some {need:=(1=g)::(i=0)::ns,val:=.val undef,upd:=[(nm,.var (cs.take c++cI v.1++cs.drop (c+(cI v.1).length)))]}
    else none
   |(.ptr nm g i c,some (.buf el ty xs []))=>
    let old:=cellsOf ty (Dw xs i ty.dflt)
    if c+(cI v.1).length<=ty.sz then
     match cV ty (old.take c++cI v.1++old.drop (c+(cI v.1).length))with
     |some (y,[])=>some {need:=(xs.length=g)::ns,val:=.val undef,upd:=[(nm,sY el ty xs i y)]}|_=>if ty.sz=1/\c=0/\MQ v.1=false then some {need:=(xs.length=g)::ns,val:=.val undef,upd:=[(nm,rH el ty xs i v.1)]} else none
    else none
   |(.ptr nm g i c,some (.buf el ty xs [(j,_)]))=>
    if ty.sz=1/\c=0/\MQ v.1=false then
     match cV ty (cI v.1)with
     |some (y,[])=>some {need:=(xs.length=g)::(i=j)::ns,val:=.val undef,upd:=[(nm,sY el ty xs i y)]}|_=>some {need:=(xs.length=g)::(i=j)::ns,val:=.val undef,upd:=[(nm,rH el ty xs i v.1)]}
    else none
   |_=>none
  else none
 |_,_=>none
theorem fB{g o:Nat}{L:Array Value}{el:TypeId}{u:Value}{us:Lv}(z:w.heap[g]?=some (.cells L el (0,0)))
  (j:sizeT P t=some us.length) (h:u.cells=us.toArray) (y:o+us.length<=L.size) (G:∀v∈us,v.oneCell'=true):
  (Instr.storeAt t (.pointer (some ⟨g,o,none⟩)) u).run P w=.ok () (w.setRow g (L.toList.take o++us++L.toList.drop (o+us.length)).toArray):=by
 have f:=run_storeCells_at (P:=P) g o el us 0 L w z (by simpa using y) G;have A:=bB j w;simp only[xZ]at f;simp[Instr.storeAt,Instr.sureAddr,storeVar,h,A,f]
theorem eZ{base:Nat}{el:TypeId}{sz n:Nat}{g cap:Nat}{raw:Lv}(h:w.ownsRow base el sz (.slice (some ⟨g,0,none⟩) n cap) n raw)(o:Nat)(us:Lv)
  (hl:o+us.length<=n*sz):∃f,w.heap[g]?=some (.cells f el (0,0))/\o+us.length<=f.size/\
   (w.setRow g (f.toList.take o++us++f.toList.drop (o+us.length)).toArray).ownsRow base el sz (.slice (some ⟨g,0,none⟩) n cap) n (raw.take o++us++raw.drop (o+us.length)):=by
 rcases h.2 with⟨y,_⟩|⟨g',L,f,y,hb,G,u,A,z,j⟩;cases y;simp only[yH,vT,qAk,vY,yE]at y;obtain⟨rfl,rfl⟩:=y;have X:=h.1;have hcl:n*sz<=f.size:=by rw[z];exact wM _ u
 refine⟨f,G,Z,⟨?_,.inr ⟨g,cap,_,rfl,hb,qCe w g f _ el _ G,u,A,?_,?_⟩⟩⟩;simp only[qG,qO,vZ];omega;simp only[xB,qG,qO,vZ,vI];omega;rw[<- j];simp only[qCt,qO,vZ,qG,vI,qCc,qCd];rw[show min o f.size=o by omega,show n*sz-o=us.length+(n*sz-(o+us.length)) by omega];rw[show min (n*sz) o=o by omega,show min o (n*sz)=o by omega];congr 1;congr 1;rw[qM Z]
variable {ov:List (Nat×AV)}
theorem oR{t:Ty}{xs:List t.den}{raw us:Lv}{i:Nat}{y:t.den}(hrl:raw.length=xs.length*t.sz)(hi:i<xs.length)(u:∀k a,ov.lookup k=some a->k=i)(h:bX P C t xs ov raw)(hu:us.length=t.sz)(hy:ae C.w C.D t y us):
  bX P C t (xs.set i y) [] (raw.take (i*t.sz)++us++raw.drop (i*t.sz+us.length)):=by
 have hp:=Ty.sz_pos t;have hmul:∀j,j<xs.length->j*t.sz+t.sz<=xs.length*t.sz:=λj hj=>by
  have:=wM t.sz (show j+1<=xs.length from hj);rw[zT,yA]at this;exact this
 have him:=hmul i hi;intro k z f;simp only[List.lookup];rw[vS]at f;split at f;rename_i L;subst L;cases f;have e:((raw.take (i*t.sz)++us++raw.drop (i*t.sz+us.length)).drop (i*t.sz)).take t.sz=us:=by
  rw[zJ,kW (by rw[qO];omega),yD (by rw[qO];omega),xU,<- hu,List.take_left'];rfl
 rw[e];exact hy;rename_i L;have hk:k<xs.length:=(qC.1 f).1;have g:=h k z f;have G:ov.lookup k=none:=by
  cases ho:ov.lookup k with
  |none=>rfl|some a=>exact(L (u k a ho).symm).elim
 rw[G]at g;have hkm:=hmul k hk;have e:((raw.take (i*t.sz)++us++raw.drop (i*t.sz+us.length)).drop (k*t.sz)).take t.sz=(raw.drop (k*t.sz)).take t.sz:=by
  apply wQ;intro q;simp only[vV,vF];split;rename_i hq;rcases wW k i with A|hge;have X:k*t.sz+q<i*t.sz:=by
   have:=wM t.sz (show k+1<=i from A);rw[zT,yA]at this;omega
  rw[zJ,vU (by rw[qO];omega),vV,if_pos X];have X:i*t.sz+t.sz<=k*t.sz:=by
   have:=wM t.sz (show i+1<=k by omega);rw[zT,yA]at this;omega
  rw[qV (by rw[qG,qO];omega),vF];congr 1;rw[qG,qO];omega;rfl
 rw[e];exact g
theorem sZ{t:Ty}{xs:List t.den}{raw:Lv}{u:Value}{i:Nat}{a:AV}(f:raw.length=xs.length*t.sz)(hi:i<xs.length)(X:t.sz=1)(j:∀k a,ov.lookup k=some a->k=i)(h:bX P C t xs ov raw)(hu:u.oneCell'=true)(hy:a.rel P C u):
  bX P C t xs [(i,a)] (raw.take (i*t.sz)++[u]++raw.drop (i*t.sz+[u].length)):=by
 intro k z L;have hk:k<xs.length:=(qC.1 L).1;rw[X]at f ⊢;simp only[xI,vC]at f ⊢;simp only[List.lookup];by_cases G:k=i;subst G;simp only[xY];refine⟨trivial,u,?_,hu,hy⟩;rw[zJ,qV (by rw[qO];omega),qO];rw[show k-min k raw.length=0 by omega];rfl;have hb:(k==i)=false:=by simpa using G
 simp only[hb];have g:=h k z L;have A:ov.lookup k=none:=by
  cases ho:ov.lookup k with
  |none=>rfl|some a=>exact(G (j k a ho)).elim
 rw[A,X]at g;simp only[xI]at g;have e:((raw.take i++[u]++raw.drop (i+1)).drop k).take 1=(raw.drop k).take 1:=by
  apply wQ;intro q;simp only[vV,vF];split;rename_i hq;have:q=0:=Z;subst this;simp only[xZ];rcases wW k i with y|hge;rw[zJ,vU (by rw[qO];omega),vV,if_pos y];rw[qV (by rw[qG,qO,vC];omega),vF];congr 1;rw[qG,qO,vC];omega;rfl
 rw[e];exact g
theorem aB1{α:Type}(raw us:List α)(o c n:Nat)(hc:c+us.length<=n)(y:o+n<=raw.length):
  raw.take o++((((raw.drop o).take n).take c)++us++((raw.drop o).take n).drop (c+us.length))++raw.drop (o+n)=raw.take (o+c)++us++raw.drop (o+c+us.length):=by
 have u:raw.take (o+c)=raw.take o++(raw.drop o).take c:=List.take_add;have j:raw.drop (o+c+us.length)=((raw.drop o).take n).drop (c+us.length)++raw.drop (o+n):=by
  have h:raw.drop o=(raw.drop o).take n++raw.drop (o+n):=by
   rw[<- yU,xX]
  have f:raw.drop (o+c+us.length)=(raw.drop o).drop (c+us.length):=by rw[yU];congr 1;omega
  rw[f];conv=>lhs;rw[h]
  rw[kW (by rw[qO,vZ];omega)]
 rw[u,j,qCc,kH Z];simp only[zJ]
theorem aL.stored{S:Base}{σ:Sig}{a:Act}{w:World}{D:Nat->Prop}{E:Nat->Ent}(h:aL S σ a w D E){nm:Nat}{b0 b:Blk}(hm:σ.m nm=some b0)(j:(E nm).isNil=false)
  (u:b0.es=b.es) (f:b0.len=b.len) (cs:Array Value)
  (hb:∀C',Later ⟨w,D,σ.m,E⟩ C'->(∀k,oh ⟨w,D,σ.m,E⟩ C' k)->C'.w=w.setRow (E nm).b cs->dQ S.P 0 C' (E nm) b) (y:∀i k,rowsOf (E nm) b i k->rowsOf (E nm) b0 i k:=by(intro i k h;obtain⟨_,_,_,_,_,_,h,_⟩:=h;cases h)):
  ∃D' E',aL S ⟨σ.T,upM σ.m [(nm,b)],σ.sv⟩ a (w.setRow (E nm).b cs) D' E':=by
 have hw:∀k,k<w.heap.size->((E nm).isNil=false->k≠(E nm).b)->(w.setRow (E nm).b cs).heap[k]?=w.heap[k]?:=λk _ z=>setRow_other w _ k cs (z j);obtain⟨L,N⟩:=h.turnLater (w':=w.setRow (E nm).b cs) (b:=b) hm (e:=E nm) u (yK f) (λ_=>rfl) hw;exact⟨D,upE E nm (E nm),h.turnBlk (w':=w.setRow (E nm).b cs) hm (e:=E nm) u (yK f) (λ_=>rfl) rfl rfl rfl (by simp) hw (λhi=>.inr ⟨hi,rfl⟩) (hb _ L N rfl) y⟩
theorem Qw(h:aL S σ a w D E){p v:RV}{vp u:Value}
  (hbp:p.2=da σ.m p.1) (hbv:v.2=da σ.m v.1) (hc:Qx S.P t p v=some c) (hn:∀q∈c.need,q)
  (hp:p.1.rel S.P ⟨w,D,σ.m,E⟩ vp) (hv:v.1.rel S.P ⟨w,D,σ.m,E⟩ u):
  c.new=none/\c.val=.val undef/\∃w',(Instr.storeAt t vp u).run S.P w=.ok () w'/\∃D E,aL S ⟨σ.T,upM σ.m c.upd,σ.sv⟩ a w' D E:=by
 unfold Qx at hc;split at hc;case h_2=>cases hc
 rename_i ns k hone hsz;split at hc;case isFalse=>cases hc
 rename_i hk;have ones:(∀q∈ns,q)->∃us:Lv,u.cells=us.toArray/\AV.relL S.P ⟨w,D,σ.m,E⟩ (cI v.1) us/\∀z∈us,z.oneCell'=true:=λhns=>pL hbv hone hns hv;have ptr:∀nm g i c0 b,p.1=.ptr nm g i c0->σ.m nm=some b->b.len=g->i<g/\(E nm).isNil=false/\vp=.pointer (some ⟨(E nm).b,i*b.es+c0,none⟩):=λnm g i c0 b hpe hm hl=>by
  rw[hpe]at hp;exact(hp b hm).2 hl
 split at hc;rename_i nm g i c0 cs;have hm:σ.m nm=some (.var cs):=hbp.symm;split at hc;case isFalse=>cases hc
 rename_i hfit;cases hc;obtain⟨us,g1,g2,g3⟩:=ones (λq hq=>hn q (by simp[hq]));have e1:1=g:=Ob.get hn (by simp);have e2:i=0:=Ob.get hn (by simp);subst e2;obtain⟨_,f,ev⟩:=ptr nm g 0 c0 _ rfl hm e1;have ev':vp=.pointer (some ⟨(E nm).b,c0,none⟩):=by rw[ev,xE,zG]
 obtain⟨_,A,el,r1,r2⟩:=h.bl nm _ hm;have hl1:=AV.relL_length g2;have hl2:=AV.relL_length r2;have hcur:c0+us.length<=A.size:=by
  have hf:=hfit;rw[hl1,hl2,vI]at hf;exact hf
 have G:=fB (P:=S.P) (t:=t) (o:=c0) r1 (by rw[hsz,hk,hl1]) g1 hcur g3;refine⟨rfl,rfl,w.setRow (E nm).b (A.toList.take c0++us++A.toList.drop (c0+us.length)).toArray,by rw[ev'];exact G,?_⟩;have hes:(Blk.var cs).es=(Blk.var (cs.take c0++cI v.1++cs.drop (c0+(cI v.1).length))).es:=by
  simp only[Blk.es,qG,qO,vZ];omega
 refine aL.stored h hm f hes rfl (A.toList.take c0++us++A.toList.drop (c0+us.length)).toArray λC' L N hw=>?_;refine⟨f,(A.toList.take c0++us++A.toList.drop (c0+us.length)).toArray,el,by rw[hw];exact qCe w _ A _ el _ r1,?_⟩;exact BJ (AV.relL_mono L (λk _=>N k) r2) (AV.relL_mono L (λk _=>N k) g2) c0 Z;rename_i nm g i c0 el ty xs;have hm:σ.m nm=some (.buf el ty xs []):=hbp.symm;simp only[]at hc;split at hc;case isFalse=>cases hc
 rename_i hfit;have both:(∀q∈ns,q)->xs.length=g->i<xs.length/\∃us raw A,(E nm).isNil=false/\u.cells=us.toArray/\AV.relL S.P ⟨w,D,σ.m,E⟩ (cI v.1) us/\(∀z∈us,z.oneCell'=true)/\
   raw.length=xs.length*ty.sz/\bX S.P ⟨w,D,σ.m,E⟩ ty xs [] raw/\us.length=(cI v.1).length/\
   (Instr.storeAt t vp u).run S.P w=.ok () (w.setRow (E nm).b A)/\
   (w.setRow (E nm).b A).ownsRow 0 el ty.sz ((E nm).handle xs.length) xs.length (raw.take (i*ty.sz+c0)++us++raw.drop (i*ty.sz+c0+us.length)):=by
  intro hns e1;obtain⟨us,g1,g2,g3⟩:=ones hns;obtain⟨hi,f,e⟩:=ptr nm g i c0 _ rfl hm e1;obtain⟨raw,r1,r2⟩:=h.bl nm _ hm;have hi':i<xs.length:=Z;have hl1:=AV.relL_length g2;have hhd:(E nm).handle xs.length=.slice (some ⟨(E nm).b,0,none⟩) xs.length (E nm).cap:=by unfold Ent.handle;rw[f];rfl
  rw[hhd]at r1;have hmul:i*ty.sz+ty.sz<=xs.length*ty.sz:=by
   have:=wM ty.sz (show i+1<=xs.length from hi');rw[zT,yA]at this;exact this
  obtain⟨A,q1,q2,q3⟩:=eZ r1 (i*ty.sz+c0) us Z;refine⟨hi',us,raw,_,f,g1,g2,g3,r1.1,r2,hl1.symm,?_,by rw[hhd];exact q3⟩;rw[e];exact fB q1 (by rw[hsz,hk,hl1]) g1 q2 g3
 split at hc;rename_i y hy;cases hc;obtain⟨hi,us,raw,A,f,_,g2,_,hrl,r2,hul,G,X⟩:=both (λq hq=>hn q (by simp[hq])) (Ob.get hn (by simp));refine⟨rfl,rfl,_,G,h.stored hm f (by simp[sY,Blk.es]) (by simp[sY,Blk.len]) A λC' L N hw=>?_⟩;have hx:=r2 i _ (getElem?_getD (d:=ty.dflt) hi);simp only[List.lookup]at hx;have hmul:i*ty.sz+ty.sz<=xs.length*ty.sz:=by
  have:=wM ty.sz (show i+1<=xs.length from hi);rw[zT,yA]at this;exact this
 have hol:=b8 (P:=S.P) (C:=⟨w,D,σ.m,E⟩) hx;have hnew:=BJ hol g2 c0 (by have:=AV.relL_length hol;rw[qO,vZ]at this;omega);obtain⟨u1,u2,e,q1,q2⟩:=cy hy hnew;simp only[AV.relL]at q2;subst q2;simp only[wH]at e;have q1':ae C'.w C'.D ty y u1:=au L.D L.w q1;have hul1:=aS q1;refine⟨raw.take (i*ty.sz+c0)++us++raw.drop (i*ty.sz+c0+us.length),by rw[hw];simpa[sY]using X,?_⟩;have fin:=oR (ov:=[]) hrl hi (λk a hk=>by simp at hk) (bh L (λk _=>N k) r2) hul1 q1';have e3:raw.take (i*ty.sz)++u1++raw.drop (i*ty.sz+u1.length)=raw.take (i*ty.sz+c0)++us++raw.drop (i*ty.sz+c0+us.length):=by
  rw[hul1,<- e];have hseg:=aB1 raw us (i*ty.sz) c0 ty.sz Z Z;exact hseg
 rw[<- e3];exact fin;split at hc;case isFalse=>cases hc
 rename_i hone1;obtain⟨hz1,hc0,hagg⟩:=hone1;cases hc;obtain⟨hi,us,raw,A,f,_,g2,g3,hrl,r2,hul,G,X⟩:=both (λq hq=>hn q (by simp[hq])) (Ob.get hn (by simp));obtain⟨z,hz,hzr⟩:∃z,us=[z]/\v.1.rel S.P ⟨w,D,σ.m,E⟩ z:=by
  have hcv:cI v.1=[v.1]:=by
   cases hq:v.1<;>first|rfl|(rw[hq]at hagg;cases hagg)
  rw[hcv]at g2;obtain⟨z,us',e,q1,q2⟩:=g2;simp only[AV.relL]at q2;subst q2;exact⟨z,e,q1⟩
 subst hz hc0;refine⟨rfl,rfl,_,G,h.stored hm f (by simp[rH,Blk.es]) (by simp[rH,Blk.len]) A λC' L N hw=>?_⟩;refine⟨raw.take (i*ty.sz+0)++[z]++raw.drop (i*ty.sz+0+[z].length),by rw[hw];exact X,?_⟩;exact sZ (ov:=[]) hrl hi hz1 (λk a hk=>by simp at hk) (bh L (λk _=>N k) r2) (g3 z (by simp)) (AV.rel_mono L (λk _=>N k) hzr);rename_i nm g i c0 el ty xs j av;have hm:σ.m nm=some (.buf el ty xs [(j,av)]):=hbp.symm;split at hc;case isFalse=>cases hc
 rename_i hone1;obtain⟨hz1,hc0,hagg⟩:=hone1;subst hc0;have hov:i=j->∀k a,List.lookup k [(j,av)]=some a->k=i:=λe k a hk=>by
  simp only[List.lookup]at hk;split at hk;rename_i hkj;rw[e];simpa using hkj;cases hk
 have both:(∀q∈ns,q)->xs.length=g->i<xs.length/\∃z raw A,(E nm).isNil=false/\v.1.rel S.P ⟨w,D,σ.m,E⟩ z/\AV.relL S.P ⟨w,D,σ.m,E⟩ (cI v.1) [z]/\z.oneCell'=true/\
   raw.length=xs.length*ty.sz/\bX S.P ⟨w,D,σ.m,E⟩ ty xs [(j,av)] raw/\
   (Instr.storeAt t vp u).run S.P w=.ok () (w.setRow (E nm).b A)/\
   (w.setRow (E nm).b A).ownsRow 0 el ty.sz ((E nm).handle xs.length) xs.length (raw.take (i*ty.sz)++[z]++raw.drop (i*ty.sz+[z].length)):=by
  intro hns e1;obtain⟨us,g1,g2,g3⟩:=ones hns;obtain⟨z,hz,hzr⟩:∃z,us=[z]/\v.1.rel S.P ⟨w,D,σ.m,E⟩ z:=by
   have hcv:cI v.1=[v.1]:=by
    cases hq:v.1<;>first|rfl|(rw[hq]at hagg;cases hagg)
   rw[hcv]at g2;obtain⟨z,us',e,q1,q2⟩:=g2;simp only[AV.relL]at q2;subst q2;exact⟨z,e,q1⟩
  subst hz;obtain⟨hi,f,e⟩:=ptr nm g i 0 _ rfl hm e1;obtain⟨raw,r1,r2⟩:=h.bl nm _ hm;have hi':i<xs.length:=Z;have hl1:=AV.relL_length g2;have hhd:(E nm).handle xs.length=.slice (some ⟨(E nm).b,0,none⟩) xs.length (E nm).cap:=by unfold Ent.handle;rw[f];rfl
  rw[hhd]at r1;have hmul:i*ty.sz+ty.sz<=xs.length*ty.sz:=by
   have:=wM ty.sz (show i+1<=xs.length from hi');rw[zT,yA]at this;exact this
  obtain⟨A,q1,q2,q3⟩:=eZ r1 (i*ty.sz) [z] (by rw[vC];omega);refine⟨hi',z,raw,_,f,hzr,g2,g3 z (by simp),r1.1,r2,?_,by rw[hhd];exact q3⟩;have e':vp=.pointer (some ⟨(E nm).b,i*ty.sz,none⟩):=by rw[e];rfl
  rw[e'];exact fB q1 (by rw[hsz,hk,hl1]) g1 q2 g3
 split at hc;rename_i y hy;cases hc;obtain⟨hi,z,raw,A,f,hzr,g2,_,hrl,r2,G,X⟩:=both (λq hq=>hn q (by simp[hq])) (Ob.get hn (by simp));have eij:i=j:=Ob.get hn (by simp);refine⟨rfl,rfl,_,G,h.stored hm f (by simp[sY,Blk.es]) (by simp[sY,Blk.len]) A λC' L N hw=>?_⟩;obtain⟨u1,u2,e,q1,q2⟩:=cy hy g2;simp only[AV.relL]at q2;subst q2;simp only[wH]at e;subst e;refine⟨raw.take (i*ty.sz)++[z]++raw.drop (i*ty.sz+[z].length),by rw[hw];simpa[sY]using X,?_⟩;exact oR hrl hi (hov eij) (bh L (λk _=>N k) r2) (by rw[hz1];rfl) (au L.D L.w q1);cases hc;obtain⟨hi,z,raw,A,f,hzr,g2,g3,hrl,r2,G,X⟩:=both (λq hq=>hn q (by simp[hq])) (Ob.get hn (by simp));have eij:i=j:=Ob.get hn (by simp);refine⟨rfl,rfl,_,G,h.stored hm f (by simp[rH,Blk.es]) (by simp[rH,Blk.len]) A λC' L N hw=>?_⟩;refine⟨raw.take (i*ty.sz)++[z]++raw.drop (i*ty.sz+[z].length),by rw[hw];exact X,?_⟩;exact sZ hrl hi hz1 (hov eij) (bh L (λk _=>N k) r2) g3 (AV.rel_mono L (λk _=>N k) hzr);cases hc
end Go.Eng
namespace Go.Eng
open Go.RowKit
theorem foldl_set(cs:Lv):∀(A:Array Value) (off k:Nat),off+k+cs.length<=A.size->
  ((cs.zipIdx k).foldl (λa (c,j)=>a.setIfInBounds (off+j) c) A).toList=A.toList.take (off+k)++cs++A.toList.drop (off+k+cs.length):=by
 induction cs with
 |nil=>intro A off k _;simp
 |cons c cs f=>
  intro A off k h;simp only[wR]at h;simp only[List.zipIdx_cons,kS];have u:=f (A.setIfInBounds (off+k) c) off (k+1) (by simp;omega);rw[u,Array.toList_setIfInBounds];have e:=list_seg_step A.toList (off+k) c cs (by simp;omega);simpa[qAb,qBv 1]using e
theorem fill_dense(sz:Nat):∀(f:Lv) (uss:List (Lv)) (k:Nat) (A:Array Value),f.length=uss.length->
  (∀(i:Nat) v us,f[i]?=some v->uss[i]?=some us->v.cells=us.toArray/\us.length=sz)->(k+f.length)*sz<=A.size->
  ∃B:Array Value,Instr.fill (λi=>some (i*sz,sz)) A ((List.range' k f.length).zip f)=some B/\B.toList=A.toList.take (k*sz)++uss.flatten++A.toList.drop ((k+f.length)*sz)
 |[],uss,k,A,y,_,_=>by
  have:uss=[]:=vK (by simpa using y.symm);subst this;exact⟨A,by simp[Instr.fill],by simp⟩
 |v::f,uss,k,A,y,h,hs=>by
  match uss,y with
  |us::uss,y=>
   obtain⟨h1,L⟩:=h 0 v us rfl rfl;simp only[wR]at hs y;have e1:(k+(f.length+1))*sz=k*sz+sz+f.length*sz:=by rw[zT,zT,yA];omega
   have u:=foldl_set us A (k*sz) 0 Z;generalize hA:(us.zipIdx 0).foldl (λa (c,j)=>a.setIfInBounds (k*sz+j) c) A=X at u;have z:X.size=A.size:=by
    have h9:=yF List.length u;simp only[qG,qO,vZ,vI,L]at h9;omega
   obtain⟨B,g1,g2⟩:=fill_dense sz f uss (k+1) X Z (λi v us hv hu=>h (i+1) v us (by simpa using hv) (by simpa using hu)) (by rw[z,qAb,qBv 1];exact hs);refine⟨B,?_,?_⟩;simp only[wR,qAw,List.zip_cons_cons,Instr.fill,h1];have hx:us.toArray.size=sz:=by simpa using L
   have G:¬(us.toArray.size≠sz\/k*sz+us.toArray.size>A.size):=by rw[hx];omega
   rw[if_neg (by simpa using G)];have hz:us.toArray.zipIdx.foldl (λcs x=>cs.setIfInBounds (k*sz+x.2) x.1) A=X:=by
    rw[<- hA,<- Array.foldl_toList];simp
   simp only[qBv]at hz g1 ⊢;rw[hz];exact g1;rw[g2,u];simp only[xZ,kG];have e2:(k+1)*sz=k*sz+sz:=by rw[zT,yA]
   have e3:(k+1+f.length)*sz=k*sz+sz+f.length*sz:=by rw[zT,zT,yA]
   have e4:(k+(v::f).length)*sz=k*sz+sz+f.length*sz:=by rw[wR];exact e1
   rw[e2,e3,e4,L];have l1:(A.toList.take (k*sz)++us).length=k*sz+sz:=by
    rw[qG,qO,vI];omega
   rw[yO Z,qM Z];rw[qCw,yD Z,l1,xU,yU];rw[show k*sz+sz+(k*sz+sz+f.length*sz-(k*sz+sz))=k*sz+sz+f.length*sz by omega];simp only[zJ]
def Ij(ty:Ty):List AV->Option (List ty.den)
 |[]=>some []|v::vs=>match cV ty (cI v),Ij ty vs with
  |some (x,[]),some xs=>some (x::xs)|_,_=>none
variable {v:Value}{C:Ctx}{P:Program}{ty:Ty}
theorem Da{a:AV}{x:ty.den}(h:cV ty (cI a)=some (x,[]))(u:a.rel P C v):
  ∃us:Lv,v.cells=us.toArray/\ae C.w C.D ty x us:=by
 have one:AV.relL P C [a] [v]->cI a=[a]->∃us:Lv,v.cells=us.toArray/\ae C.w C.D ty x us:=by
  intro G A;rw[A]at h;obtain⟨z,y,e,j,r2⟩:=cy h G;simp only[AV.relL]at r2;subst r2;simp only[wH]at e;subst e;have:=fK j v (by simp);exact⟨[v],(by cases v<;>first|rfl|(cases this)),j⟩
 by_cases f:MQ a=true
 .cases a<;>first|(cases f;done)|skip
  obtain⟨us,e,g⟩:=u;subst e;obtain⟨z,y,e,j,r2⟩:=cy h g;simp only[AV.relL]at r2;subst r2;simp only[wH]at e;subst e;exact⟨us,rfl,j⟩
 exact one ⟨v,[],rfl,u,rfl⟩ (by cases a<;>first|rfl|exact(f rfl).elim)
theorem Ii:∀{vs:List AV}{xs:List ty.den}{f:Lv},Ij ty vs=some xs->AV.relL P C vs f->
  xs.length=f.length/\∃uss:List (Lv),f.length=uss.length/\(∀(i:Nat) v us,f[i]?=some v->uss[i]?=some us->v.cells=us.toArray/\us.length=ty.sz)/\
   ∀(i:Nat) y us,xs[i]?=some y->uss[i]?=some us->ae C.w C.D ty y us
 |[],xs,f,h,G=>by
  simp only[Ij]at h;cases h;simp only[AV.relL]at G;subst G;exact⟨rfl,[],rfl,λi v us A=>by simp at A,λi y us z=>by simp at z⟩
 |a::vs,xs,f,h,G=>by
  simp only[Ij]at h;split at h;rename_i x xs' h1 h2;cases h;obtain⟨v,L,e,r1,r2⟩:=G;subst e;obtain⟨us,q1,X⟩:=Da h1 r1;obtain⟨l1,uss,l2,g1,g2⟩:=Ii h2 r2;refine⟨by simp[l1],us::uss,by simp[l2],λi v' j A u=>?_,λi y j z u=>?_⟩;cases i with
  |zero=>simp at A u;subst A u;exact⟨q1,aS X⟩|succ i=>exact g1 i v' j (by simpa using A) (by simpa using u)
  cases i with
  |zero=>simp at z u;subst z u;exact X|succ i=>exact g2 i y j (by simpa using z) (by simpa using u)
  cases h
theorem ja{α:Type}(sz:Nat):∀(uss:List (List α)),(∀us∈uss,us.length=sz)->∀(i:Nat) (us:List α),uss[i]?=some us->(uss.flatten.drop (i*sz)).take sz=us
 |[],_,i,us,h=>by simp at h|u::uss,j,i,us,h=>by
  have z:=j u (by simp);cases i with
  |zero=>
   simp at h;subst h;rw[xE,qDf,kG,yO Z,qM Z]
  |succ i=>
   have y:=ja sz uss (λus f=>j us (by simp[f])) i us (by simpa using h);rw[kG,show(i+1)*sz=u.length+i*sz by rw[zT,yA,z];omega,<- yU,qBj];exact y
theorem fi{α:Type}(sz:Nat):∀(uss:List (List α)),(∀us∈uss,us.length=sz)->uss.flatten.length=uss.length*sz
 |[],_=>by simp|u::uss,h=>by
  rw[kG,qG,fi sz uss (λus f=>h us (by simp[f])),h u (by simp),wR,zT,yA];omega
def WQ(P:Program)(e:TypeId):Bool:=match P.info? e with|some i=>i.zero.isSome|none=>false
def aFa(P:Program)(mt:Bool)(nx:Nat)(t:TypeId)(len:Nat)(idxs:List Nat)(vs:List AV):Option Core:=
 match eH P t with
 |some e=>match PZ P e with
  |some ty=>if idxs=List.range' 0 vs.length/\vs.length=len/\len*ty.sz<=16777216/\WQ P e=true then
    match Ij ty vs with
    |some xs=>if mt=true\/len=0 then some {val:=.buf nx len,upd:=[(nx,.buf e ty xs [])],new:=some nx} else some {val:=.dat (.sl ty) xs}|none=>none
   else none
  |none=>none
 |none=>none
variable {w:World}
theorem QO{t e:TypeId}{f:Lv}{uss:List (Lv)}(he:eH P t=some e)(j:sizeT P e=some ty.sz)(h:WQ P e=true)
  (hfit:f.length*ty.sz<=16777216) (hl:f.length=uss.length) (hu:∀(i:Nat) v us,f[i]?=some v->uss[i]?=some us->v.cells=us.toArray/\us.length=ty.sz):
  (Instr.buildSlice t f.length ((List.range' 0 f.length).zip f).toArray).run P w=.ok (.slice (some ⟨w.heap.size,0,none⟩) f.length f.length) (w.alloc (.cells uss.flatten.toArray e)):=by
 have u:=dz he;unfold WQ at h;unfold sizeT at j;cases hi:P.info? e with
 |none=>rw[hi]at h;cases h
 |some i=>
  rw[hi]at h j;simp only[zZ,vT]at j;cases X:i.zero with
  |none=>simp[X]at h|some z=>
   have y:∀us∈uss,us.length=ty.sz:=λus G=>by
    obtain⟨k,hk⟩:=kP.1 G;have L:k<f.length:=by rw[hl];exact(qC.1 hk).1
    exact(hu k f[k] us (qB L) hk).2
   have fl:=fi ty.sz uss y;have key:∀A:Array Value,A.size=f.length*ty.sz->Instr.fill (λi=>some (i*ty.sz,ty.sz)) A ((List.range' 0 f.length).zip f)=some uss.flatten.toArray:=by
    intro A hA;obtain⟨B,g1,g2⟩:=fill_dense ty.sz f uss 0 A hl hu (by rw[zG];omega);rw[g1];congr 1;apply yR;rw[g2,xE,zG,qCb,xU,yD (by rw[vI];omega),wH]
   have n1:¬f.length*ty.sz>2 ^ 24:=Z;by_cases h0:f.length*ty.sz=0;have k:=key ((Array.range (f.length*ty.sz)).map (((#[]:Array Value))[· % 0]!)) (by simp);simp only[Instr.buildSlice,wO,vH u,wB,bB (P:=P) (t:=e) (n:=ty.sz) (by simp[sizeT,hi,j]),if_neg n1,yN,if_pos h0];simp only[xB,yZ,k,newRow,wO,run_newObj,wB,yN,World.alloc_eq];have k:=key ((Array.range (f.length*ty.sz)).map (z.cells[· % z.cells.size]!)) (by simp);simp only[Instr.buildSlice,wO,vH u,wB,bB (P:=P) (t:=e) (n:=ty.sz) (by simp[sizeT,hi,j]),if_neg n1,yN,if_neg h0];simp only[zeroValue,typeInfo,wO,run_program,wB,hi,yN,X,k,newRow,run_newObj,World.alloc_eq]
theorem Unm.notIn{nm:Nat}{σ:Sig}(h:Unm nm σ)(l:List (Nat×AV))(f:l=[]):nm∉AV.namesL (l.map (·.2)):=by subst f;simp[AV.namesL]
variable {S:Base}{D:Nat->Prop}{a:Act}{E:Nat->Ent}{σ:Sig}
theorem LH{w w':World}(h:aL S σ a w D E){nx:Nat}(z:Unm nx σ){e:TypeId}{xs:List ty.den}{raw:Lv}{cap:Nat}
  (hw:Below w.heap.size w w') (A:w.heap.size<w'.heap.size)
  (f:w'.ownsRow 0 e ty.sz (.slice (some ⟨w.heap.size,0,none⟩) xs.length cap) xs.length raw)
  (j:∀(i:Nat) y,xs[i]?=some y->ae w D ty y ((raw.drop (i*ty.sz)).take ty.sz)):
  Outcome S ⟨σ.T,upM σ.m [(nx,.buf e ty xs [])],σ.sv⟩ a (.buf nx xs.length) (.slice (some ⟨w.heap.size,0,none⟩) xs.length cap) w':=by
 have G:upE E nx (⟨w.heap.size,cap,false,noR⟩:Ent) nx=⟨w.heap.size,cap,false,noR⟩:=by simp[upE]
 refine⟨D,upE E nx ⟨w.heap.size,cap,false,noR⟩,h.newBlk z hw (λ_=>⟨rfl,A⟩) ⟨raw,f,?_⟩,λb hb=>?_⟩;intro i y u;simp only[List.lookup];exact au (λb hb=>hb) (λb hb=>hw.block b (h.dlt b hb)) (j i y u);replace hb:upM σ.m [(nx,.buf e ty xs [])] nx=some b:=hb;rw[dR,if_pos rfl]at hb;cases hb;refine⟨qL _,λ_=>?_⟩;show _=(upE E nx _ nx).handle _;rw[G];rfl
theorem oW(w:World)(o:Obj):Below w.heap.size w (w.alloc o):=
 ⟨rfl,rfl,rfl,by rw[qH];omega,λk f=>kF w _ k f⟩
variable {t:TypeId}
theorem tT(h:aL S σ a w D E){mt:Bool}{nx len:Nat}{G:List Nat}{vs:List AV}{f:Lv}{c:Core}
  (hc:aFa S.P mt nx t len G vs=some c) (hr:AV.relL S.P ⟨w,D,σ.m,E⟩ vs f) (hu:∀k,c.new=some k->Unm k σ):
  c.need=[]/\∃r w',(Instr.buildSlice t len (G.zip f).toArray).run S.P w=.ok r w'/\Outcome S ⟨σ.T,upM σ.m c.upd,σ.sv⟩ a c.val r w':=by
 unfold aFa at hc;split at hc;case h_2=>cases hc
 rename_i e he;split at hc;case h_2=>cases hc
 rename_i ty hty;split at hc;case isFalse=>cases hc
 rename_i hcond;obtain⟨h1,h2,h3,h4⟩:=hcond;split at hc;case h_2=>cases hc
 rename_i xs hxs;have hsz:=PY hty;obtain⟨l1,uss,l2,g1,g2⟩:=Ii hxs hr;have hvl:=AV.relL_length hr;have X:f.length=len:=Z;have z:=QO (w:=w) he hsz h4 (by rw[X];exact h3) l2 g1;rw[<- hvl,<- h1,hvl,X]at z;have hall:∀us∈uss,us.length=ty.sz:=λus hus=>by
  obtain⟨k,hk⟩:=kP.1 hus;have hk':k<f.length:=by rw[l2];exact(qC.1 hk).1
  exact(g1 k f[k] us (qB hk') hk).2
 have L:∀(i:Nat) (y:ty.den),xs[i]?=some y->ae w D ty y ((uss.flatten.drop (i*ty.sz)).take ty.sz):=by
  intro i y hy;have hi:i<uss.length:=by rw[<- l2,<- l1];exact(qC.1 hy).1
  have hg:=qB hi;rw[ja ty.sz uss hall i _ hg];exact g2 i y _ hy hg
 have hfl:=fi ty.sz uss hall;split at hc;cases hc;refine⟨rfl,_,_,z,?_⟩;have A:xs.length=len:=Z;have hown:(w.alloc (.cells uss.flatten.toArray e)).ownsRow 0 e ty.sz (.slice (some ⟨w.heap.size,0,none⟩) xs.length xs.length) xs.length uss.flatten:=by
  have:=World.ownsRow_lit (base:=0) (e:=e) (size:=ty.sz) w uss.flatten.toArray xs.length (wK _) (by
   have:xs.length<=xs.length*ty.sz:=Nat.le_mul_of_pos_right _ (Ty.sz_pos ty);rw[A]at this ⊢;unfold maxLen;omega) (by rw[xB,hfl,<- l2,<- l1])
  simpa using this
 have out:=LH h (hu nx rfl) (oW w _) (by rw[qH];omega) hown L;rw[A]at out;exact out;cases hc;refine⟨rfl,_,_,z,λb=>D b\/b=w.heap.size,E,h.newData _,?_⟩;have A:List.length xs=len:=Z;refine⟨some ⟨w.heap.size,0,none⟩,len,by rw[A],Z,(λh=>by cases h),(λa ha _=>by cases ha;rfl),λi y hy=>?_⟩;refine⟨⟨w.heap.size,0,none⟩,_,rfl,.inr rfl,?_,au (λb hb=>.inl hb) (λb hb=>kF w _ b (h.dlt b hb)) (L i y hy)⟩;intro j u hj;rw[vV]at hj;split at hj;rw[vF]at hj;show(w.alloc _).cell? ⟨w.heap.size,0+i*ty.sz+j,none⟩=some u;rw[zG,kN];simpa using hj;cases hj
def pM:List AV->Option (List AV)|[]=>some []|.agg [x]::vs=>if(x.names).isEmpty=true then(pM vs).map (x::·)else none|_::_=>none
def RH(P:Program)(mt:Bool)(t:TypeId)(len:Nat)(idxs:List Nat)(vs:List AV):Option Core:=match eH P t with
 |some e=>if mt=false/\PZ P e=none/\sizeT P e=some 1/\idxs=List.range' 0 vs.length/\vs.length=len/\len*1<=16777216/\WQ P e=true then
   match pM vs with
   |some cs=>some {val:=.slv cs}|none=>none
  else none
 |none=>none
theorem uW:∀{vs cs:List AV}{f:Lv},pM vs=some cs->AV.relL P C vs f->cs.length=vs.length/\AV.namesL cs=[]/\
  ∃us,AV.relL P C cs us/\f.length=us.length/\∀(i:Nat) v l,f[i]?=some v->(us.map λu=>[u])[i]?=some l->v.cells=l.toArray/\l.length=1
 |[],_,_,h,y=>by
  cases h;cases y;exact⟨rfl,rfl,[],rfl,rfl,λi v l j=>by simp at j⟩
 |.agg [x]::vs,_,_,h,y=>by
  simp only[pM]at h;split at h;case isFalse=>cases h
  rename_i hx;cases z:pM vs with
  |none=>rw[z]at h;cases h
  |some cs=>
   rw[z]at h;cases h;obtain⟨u,X,rfl,⟨w,rfl,G,L,rfl,h1,h2⟩,h3⟩:=y;cases h2;obtain⟨g1,g2,us,g3,g4,g5⟩:=uW z h3;refine⟨by simp[g1],?_,G::us,⟨G,us,rfl,h1,g3⟩,by simp[g4],λi v l j A=>?_⟩;show x.names++AV.namesL cs=[];rw[g2,zD.1 hx];rfl;cases i with
   |zero=>simp at j A;subst j A;exact⟨rfl,rfl⟩|succ i=>exact g5 i v l (by simpa using j) (by simpa using A)
theorem RG(h:aL S σ a w D E){mt:Bool}{len:Nat}{z:List Nat}{vs:List AV}{y:Lv}{c:Core}
  (hc:RH S.P mt t len z vs=some c) (hr:AV.relL S.P ⟨w,D,σ.m,E⟩ vs y):
  ∃r w',(Instr.buildSlice t len (z.zip y).toArray).run S.P w=.ok r w'/\Outcome S ⟨σ.T,upM σ.m c.upd,σ.sv⟩ a c.val r w':=by
 unfold RH at hc;split at hc;case h_2=>cases hc
 rename_i e he;split at hc;case isFalse=>cases hc
 rename_i G;obtain⟨_,_,h0,h1,h2,h3,h4⟩:=G;split at hc;case h_2=>cases hc
 rename_i cs hcs;cases hc;obtain⟨l1,l0,us,g1,g2,g3⟩:=uW hcs hr;have L:=AV.relL_length hr;have A:y.length=len:=Z;have f:=QO (w:=w) (ty:=.bool) (uss:=us.map λu=>[u]) he h0 h4 (by rw[A];exact h3) (by simp[g2]) g3;rw[<- L,<- h1,L,A]at f;have X:(us.map λu=>[u]).flatten=us:=by
  clear f g3 g2 g1;induction us with
  |nil=>rfl|cons u us ih=>simp[ih]
 rw[X]at f;refine⟨_,_,f,λb=>D b\/b=w.heap.size,E,h.newData _,w.heap.size,0,us,by rw[l1,h2],.inr rfl,λj u hj=>?_,?_⟩;rw[zG];show(w.alloc _).cell? ⟨w.heap.size,j,none⟩=some u;rw[kN];simpa using hj;exact AV.relL_mono (C:=⟨w,D,σ.m,E⟩) (C':=⟨w.alloc (.cells us.toArray e),λb=>D b\/b=w.heap.size,σ.m,E⟩) ⟨λb hb=>.inl hb,λb hb=>kF w _ b (h.dlt b hb)⟩ (λnm g=>by rw[l0]at g;cases g) g1
def aCz(nx:Nat)(e:TypeId)(ty:Ty)(bytes:Nat)(n:Int):Core:=
 {need:=[0<=n,(bytes:Int)*n<=281474976710656,n<=9223372036854775807],val:=.buf nx (Dc n),upd:=[(nx,.buf e ty (Ey n ty.dflt) [])],new:=some nx}
def aCy(nx:Nat)(e:TypeId)(ty:Ty)(bytes:Nat)(n:Int):Core:=
 {need:=[0<=n,(bytes:Int)*n<=281474976710656,n<=9223372036854775807],val:=.buf nx 0,upd:=[(nx,.buf e ty [] [])],new:=some nx}
def zeroCells:Ty->Lv|.int k=>[.int k 0]|.bool=>[.bool false]|.str=>[.string ByteArray.empty]|.sl _=>[.slice none 0 0]|.pair a b=>zeroCells a++zeroCells b
theorem iE(w:World)(D:Nat->Prop):∀t:Ty,ae w D t t.dflt (zeroCells t)|.int _|.bool|.str=>rfl|.sl e=>bf w D e|.pair a b=>⟨_,_,rfl,iE w D a,iE w D b⟩
def I1:Ty->Value->Bool|.int k,.int k' n=>decide (k=k')&&decide (n=0)|.bool,.bool b=>!b|.str,.string s=>s.data.size==0|.sl _,.slice none 0 0=>true|_,_=>false
theorem UK{t:Ty}(h:I1 t v=true):zeroCells t=[v]:=by
 unfold I1 at h;split at h;simp only[qE,qF]at h;obtain⟨rfl,rfl⟩:=h;rfl;simp only[zB]at h;subst h;rfl;rename_i s;have:s=ByteArray.empty:=by
  cases s with|mk d=>
   have:d=#[]:=Array.eq_empty_of_size_eq_zero (by simpa using h);subst this;rfl
 rw[this];rfl;rfl;cases h
def isZero:Ty->Lv->Option (Lv)
 |.pair a b,l=>match isZero a l with|some r=>isZero b r|none=>none
 |.int k,v::r=>if I1 (.int k) v then some r else none|.bool,v::r=>if I1 .bool v then some r else none|.str,v::r=>if I1 .str v then some r else none|.sl e,v::r=>if I1 (.sl e) v then some r else none|.int _,[]|.bool,[]|.str,[]|.sl _,[]=>none
theorem np{t:Ty}{r r':Lv}(h:(if I1 t v then some r else none)=some r'):v::r=zeroCells t++r':=by
 split at h;rename_i f;cases h;rw[UK f];rfl;cases h
theorem qh:∀{t:Ty}{l r:Lv},isZero t l=some r->l=zeroCells t++r
 |.int k,v::l,r,h=>by simp only[isZero]at h;exact np h|.bool,v::l,r,h=>by simp only[isZero]at h;exact np h|.str,v::l,r,h=>by simp only[isZero]at h;exact np h|.sl _,v::l,r,h=>by simp only[isZero]at h;exact np h|.int _,[],r,h=>by simp[isZero]at h|.bool,[],r,h=>by simp[isZero]at h|.str,[],r,h=>by simp[isZero]at h|.sl _,[],r,h=>by simp[isZero]at h|.pair a b,l,r,h=>by
  simp only[isZero]at h;split at h;rename_i j f;rw[qh f,qh h];simp[zeroCells];cases h
def DW(P:Program)(e:TypeId)(ty:Ty):Option Nat:=match P.info? e with
 |some i=>match i.zero with
  |some z=>match isZero ty z.cells.toList with
   |some []=>if i.size=ty.sz then some i.bytes else none|_=>none
  |none=>none
 |none=>none
theorem om{e:TypeId}{bytes:Nat}(h:DW P e ty=some bytes):∃i z,P.info? e=some i/\i.zero=some z/\i.size=ty.sz/\i.bytes=bytes/\z.cells.toList=zeroCells ty:=by
 unfold DW at h;split at h;rename_i i hi;split at h;rename_i z f;split at h;rename_i u;split at h;rename_i j;cases h;exact⟨i,z,hi,f,j,rfl,by have:=qh u;simpa using this⟩;cases h;cases h;cases h;cases h
theorem bQ:∀t:Ty,(zeroCells t).length=t.sz|.int _|.bool|.str|.sl _=>rfl|.pair a b=>by simp[zeroCells,Ty.sz,bQ a,bQ b]
def tE(P:Program)(nx:Nat)(t:TypeId)(l c:AV)(same:Bool):Option Core:=
 match eH P t with
 |some e=>match PZ P e with
  |some ty=>match DW P e ty with
   |some bytes=>match l,c with
    |.dat (.int _) l,.dat (.int _) c=>if same then some (aCz nx e ty bytes c)else
      match l with
      |.ofNat 0=>some (aCy nx e ty bytes c)|_=>none
    |_,_=>none
   |none=>none
  |none=>none
 |none=>none
theorem yo(z:Array Value)(sz:Nat)(y:z.size=sz)(u:0<sz)(n:Nat):(madeCells z (n*sz)).toList=(List.replicate n z.toList).flatten:=by
 apply wQ;intro j;have G:(List.replicate n z.toList).flatten.length=n*sz:=by
  rw[fi sz _ (λus f=>by rw[qBg f];simpa using y),zU]
 by_cases L:j<n*sz;have hq:j/sz<n:=(Nat.div_lt_iff_lt_mul u).2 L;have A:j%sz<sz:=Nat.mod_lt _ u;have hg:(List.replicate n z.toList)[j/sz]?=some z.toList:=by rw[wU,if_pos hq]
 have h:=ja sz (List.replicate n z.toList) (λus f=>by rw[qBg f];simpa using y) _ _ hg;have h1:((List.replicate n z.toList).flatten)[j]?=z.toList[j%sz]?:=by
  have X:=yF (λl=>l[j%sz]?) h;have h3:j/sz*sz+j%sz=j:=by rw[Nat.mul_comm];exact Nat.div_add_mod j sz
  simp only[vV,if_pos A,vF,h3]at X;exact X
 rw[h1];simp only[madeCells,qAy,Array.toList_range,qQ,zH L,zZ,y];simp[y,A];rw[wZ (by rw[vI,size_madeCells];omega),wZ Z]
theorem WM(h:aL S σ a w D E){nx:Nat}{l c:AV}{same:Bool}{co:Core}{vl vc:Value}
  (G:same=true->vl=vc) (hc:tE S.P nx t l c same=some co) (X:∀q∈co.need,q) (hl:l.rel S.P ⟨w,D,σ.m,E⟩ vl) (hcr:c.rel S.P ⟨w,D,σ.m,E⟩ vc) (hu:∀k,co.new=some k->Unm k σ):
  ∃r w',(Instr.makeSlice t vl vc).run S.P w=.ok r w'/\Outcome S ⟨σ.T,upM σ.m co.upd,σ.sv⟩ a co.val r w':=by
 unfold tE at hc;split at hc;case h_2=>cases hc
 rename_i e he;split at hc;case h_2=>cases hc
 rename_i ty hty;split at hc;case h_2=>cases hc
 rename_i bytes hz;obtain⟨i,z,hi,hz1,hz2,hz3,hz4⟩:=om hz;have hue:=dz he;have hzs:z.cells.size=ty.sz:=by rw[<- vI,hz4,bQ]
 split at hc;case h_2=>cases hc
 rename_i kl l kc c;simp only[AV.rel,ae,vG,vY]at hl hcr;subst hl hcr;obtain⟨c,rfl⟩:∃j:Int,j=c:=⟨c,rfl⟩;obtain⟨l,rfl⟩:∃j:Int,j=l:=⟨l,rfl⟩;have rows:∀(n:Nat),(madeCells z.cells (n*ty.sz)).toList=(List.replicate n (zeroCells ty)).flatten:=λn=>by
  rw[yo z.cells ty.sz hzs (Ty.sz_pos ty) n,hz4]
 have elem:∀(n:Nat) (i:Nat) (y:ty.den),(List.replicate n ty.dflt)[i]?=some y->ae w D ty y (((List.replicate n (zeroCells ty)).flatten.drop (i*ty.sz)).take ty.sz):=by
  intro n i y L;rw[wU]at L;split at L;rename_i u;cases L;rw[ja ty.sz _ (λus hus=>by rw[qBg hus,bQ]) i (zeroCells ty) (by rw[wU,if_pos u])];exact iE w D ty;cases L
 split at hc;rename_i hsm;cases hc;have h0:(0:Int)<=c:=X _ (.head _);have h1:(bytes:Int)*c<=281474976710656:=X _ (.tail _ (.head _));have h2:c<=9223372036854775807:=X _ (.tail _ (.tail _ (.head _)));have hlc:=G hsm;simp only[Value.int.injEq]at hlc;obtain⟨rfl,rfl⟩:=hlc;obtain⟨n,rfl⟩:=qDa h0;have hb:i.bytes*n<=281474976710656:=by rw[hz3];have h3:((bytes*n:Nat):Int)<=281474976710656:=(by rw[Int.natCast_mul];exact h1);omega
 obtain⟨w',r1,r2,f⟩:=run_make_full (P:=S.P) w 0 t e i z ty.sz hue hi hz1 hz2 kl kl n hb (by unfold maxLen;omega) (wK _);refine⟨_,w',r1,?_⟩;rw[rows n]at r2;have u:w.heap.size<w'.heap.size:=by
  rcases r2.2 with⟨A,_⟩|⟨g,cap,cur,A,_,hh,_⟩;cases A;simp only[yH,vT,qAk,vY,yE]at A;rw[A.1];exact(qJ.1 hh).1
 have hrl:(List.replicate n ty.dflt).length=n:=zU;have out:=LH h (hu nx rfl) (xs:=List.replicate n ty.dflt) (cap:=n) (e:=e) ⟨f.os,f.tape,f.output,f.size,λk hk=>f.block k hk (by simp)⟩ u (by rw[hrl];exact r2) (elem n);rw[hrl]at out;simpa[aCz,Ey,Dc]using out;split at hc;rename_i hl0;cases hc;have h0:(0:Int)<=c:=X _ (.head _);have h1:(bytes:Int)*c<=281474976710656:=X _ (.tail _ (.head _));have h2:c<=9223372036854775807:=X _ (.tail _ (.tail _ (.head _)));obtain⟨n,rfl⟩:=qDa h0;have hb:i.bytes*n<=281474976710656:=by rw[hz3];have h3:((bytes*n:Nat):Int)<=281474976710656:=(by rw[Int.natCast_mul];exact h1);omega
 obtain⟨w',r1,r2,f⟩:=run_make_own (P:=S.P) w 0 t e i z ty.sz hue hi hz1 hz2 kl kc n hb (by unfold maxLen;omega) (wK _);refine⟨_,w',r1,?_⟩;have u:w.heap.size<w'.heap.size:=by
  rcases r2.2 with⟨A,_⟩|⟨g,cap,cur,A,_,hh,_⟩;cases A;simp only[yH,vT,qAk,vY,yE]at A;rw[A.1];exact(qJ.1 hh).1
 exact LH h (hu nx rfl) (xs:=[]) (cap:=n) (e:=e) ⟨f.os,f.tape,f.output,f.size,λk hk=>f.block k hk (by simp)⟩ u r2 (λi y L=>by simp at L);cases hc
end Go.Eng
namespace Go.Eng
open Go.RowKit
def ZR(ty:Ty):RV->Option (List Ob×List ty.den)|(.dat (.sl ty') ys,_)=>if h:ty'=ty then some ([],h▸ys)else none|(.buf _ n,some (.buf _ ty' ys []))=>if h:ty'=ty then some ([ys.length=n],h▸ys)else none|(.val (.slice none 0 0),_)=>some ([],[])|_=>none
variable {w:World}{D:Nat->Prop}
theorem lu{ty:Ty}{b:Nat}:∀(ys:List ty.den) (off:Nat),
  (∀(i:Nat) (y:ty.den),ys[i]?=some y->∃ue,cO w b (off+i*ty.sz) ue/\ae w D ty y ue)->
  ∃news:Lv,news.length=ys.length*ty.sz/\cO w b off news/\(∀u∈news,u.oneCell'=true)/\
   ∀(i:Nat) (y:ty.den),ys[i]?=some y->ae w D ty y ((news.drop (i*ty.sz)).take ty.sz)
 |[],_,_=>⟨[],by simp,λj u f=>by simp at f,λu L=>by simp at L,λi y hy=>by simp at hy⟩|y::ys,off,h=>by
  obtain⟨ue,g1,g2⟩:=h 0 y rfl;have X:=aS g2;obtain⟨news,n1,n2,n3,n4⟩:=lu ys (off+ty.sz) (λi z A=>by
   obtain⟨G,q1,q2⟩:=h (i+1) z (by simpa using A);refine⟨G,?_,q2⟩;rw[show off+ty.sz+i*ty.sz=off+(i+1)*ty.sz by rw[zT,yA];omega];exact q1)
  refine⟨ue++news,by rw[qG,n1,X,wR,zT,yA];omega,?_,?_,?_⟩;intro j u f;rcases wW j ty.sz with hlt|hge;rw[vU Z]at f;have:=g1 j u f;simpa using this;rw[qV Z]at f;have:=n2 (j-ue.length) u f;rw[show off+ty.sz+(j-ue.length)=off+j by omega]at this;exact this;intro u L;rcases qI.1 L with g|g;exact fK g2 u g;exact n3 u g;intro i z A;cases i with
  |zero=>
   simp at A;subst A;rw[xE,qDf,yO Z,qM Z];exact g2
  |succ i=>
   rw[show(i+1)*ty.sz=ue.length+i*ty.sz by rw[zT,yA,X];omega,<- yU,qBj];exact n4 i z (by simpa using A)
variable {P:Program}
theorem rX{C:Ctx}{t:Ty}{xs:List t.den}{raw:Lv}(X:raw.length=xs.length*t.sz)(h:bX P C t xs [] raw):∀u∈raw,u.oneCell'=true:=by
 intro u z;obtain⟨j,y⟩:=kP.1 z;have L:=(qC.1 y).1;have f:=Ty.sz_pos t;have G:j/t.sz<xs.length:=(Nat.div_lt_iff_lt_mul f).2 Z;have A:j%t.sz<t.sz:=Nat.mod_lt _ f;have:=h (j/t.sz) _ (qB G);simp only[List.lookup]at this;refine fK this u (kP.2 ⟨j%t.sz,?_⟩);rw[vV,if_pos A,vF,Nat.mul_comm,Nat.div_add_mod];exact y
variable {E:Nat->Ent}
theorem I9{S:Base}{σ:Sig}{a:Act}(h:aL S σ a w D E){ty:Ty}{x:RV}{ns:List Ob}{ys:List ty.den}{v:Value}
  (hb:x.2=da σ.m x.1) (hc:ZR ty x=some (ns,ys)) (hn:∀q∈ns,q) (hx:x.1.rel S.P ⟨w,D,σ.m,E⟩ v):
  (v=.slice none 0 0/\ys=[])\/∃(z:Addr) (c:Nat) (news:Lv),v=.slice (some z) ys.length c/\news.length=ys.length*ty.sz/\
   (∀j u,news[j]?=some u->w.cell? (z.add j)=some u)/\(∀u∈news,u.oneCell'=true)/\
   ∀(i:Nat) (y:ty.den),ys[i]?=some y->ae w D ty y ((news.drop (i*ty.sz)).take ty.sz):=by
 unfold ZR at hc;split at hc;rename_i A f b2;split at hc;rename_i ht;subst ht;cases hc;obtain⟨ys,rfl⟩:∃j:List A.den,j=f:=⟨f,rfl⟩;obtain⟨ao,cap,g1,g2,g3,g4,g5⟩:=hx;simp only[vG,vY]at g1;subst g1;cases ao with
 |none=>
  have hc0:=g3 rfl;have hys:ys=[]:=vK Z;subst hys;subst hc0;exact .inl ⟨rfl,rfl⟩
 |some z=>
  obtain⟨news,n1,n2,n3,n4⟩:=lu (w:=w) (D:=D) (b:=z.block) ys z.off (λi y hy=>by
   obtain⟨a',ue,e,X,r2,r3⟩:=g5 i y hy;cases e;exact⟨ue,r2,r3⟩)
  refine .inr ⟨z,cap,news,rfl,n1,λj u hj=>?_,n3,n4⟩;have hjn:=(qC.1 hj).1;have hsp:=g4 z rfl (by
   rcases Nat.eq_zero_or_pos (List.length ys)with h0|h0;rw[n1,show List.length ys=0 from h0,xE]at hjn;omega;exact h0)
  have:z.add j=⟨z.block,z.off+j,none⟩:=by
   cases z with|mk b o s=>simp only at hsp;subst hsp;exact xR b o _
  rw[this];exact n2 j u hj
 cases hc;rename_i nm n el A f;split at hc;rename_i ht;subst ht;cases hc;obtain⟨ys,rfl⟩:∃j:List A.den,j=f:=⟨f,rfl⟩;have hm:σ.m nm=some (.buf el A ys []):=hb.symm;have L:ys.length=n:=Ob.get hn (by simp);have hv:=(hx _ hm).2 L;obtain⟨raw,X,r2⟩:=h.bl nm _ hm;rw[<- L]at hv;cases G:(E nm).isNil with
 |true=>
  have e3:(E nm).handle ys.length=.slice none 0 0:=by unfold Ent.handle;rw[G];rfl
  rw[e3]at X;rcases X.2 with⟨_,hz⟩|⟨g,cap,cur,hq,_⟩;exact .inl ⟨hv.trans e3,vK hz⟩;cases hq
 |false=>
  have e3:(E nm).handle ys.length=.slice (some ⟨(E nm).b,0,none⟩) ys.length (E nm).cap:=by unfold Ent.handle;rw[G];rfl
  rw[e3]at X;exact .inr ⟨⟨(E nm).b,0,none⟩,(E nm).cap,raw,hv.trans e3,X.1,X.cells rfl,rX X.1 r2,λi y hy=>by have:=r2 i y hy;simpa only[List.lookup]using this⟩
 cases hc;cases hc;simp only[AV.rel]at hx;exact .inl ⟨hx,rfl⟩;cases hc
def Uh(n bytes:Nat):List Ob:=[n*bytes<=140737488355328,n<=9223372036854775807]
def aDb(P:Program)(nx:Nat)(t:TypeId)(s x:RV):Option Core:=
 match eH P t with
 |some e=>match s with
  |(.buf nm n,some (.buf el ty xs []))=>if el=e then match ZR ty x,DW P e ty with
   |some (ns,ys),some bytes=>some {need:=(xs.length=n)::(ns++Uh (n+ys.length) bytes),val:=.buf nm (n+ys.length),upd:=[(nm,.buf el ty (En xs ys) [])]}|_,_=>none
   else none
  |(.val (.slice none 0 0),_)=>match PZ P e with
   |some ty=>match ZR ty x,DW P e ty with
    |some (ns,ys),some bytes=>some {need:=ns++Uh ys.length bytes,val:=.buf nx ys.length,upd:=[(nx,.buf e ty ys [])],new:=some nx}|_,_=>none
   |none=>none
  |_=>none
 |none=>none
theorem uK{C:Ctx}{t:Ty}{xs ys:List t.den}{raw news:Lv}(z:raw.length=xs.length*t.sz)(h:bX P C t xs [] raw)
  (A:∀(i:Nat) (y:t.den),ys[i]?=some y->ae C.w C.D t y ((news.drop (i*t.sz)).take t.sz)):bX P C t (xs++ys) [] (raw++news):=by
 intro i y f;simp only[List.lookup];rcases wW i xs.length with j|u;rw[vU j]at f;have:=h i y f;simp only[List.lookup]at this;have hm:i*t.sz+t.sz<=raw.length:=by
  have:=wM t.sz (show i+1<=xs.length from j);rw[zT,yA]at this;omega
 rw[kW Z,yO (by rw[vZ];omega)];exact this;rw[qV u]at f;have:=A _ y f;rw[Nat.sub_mul,<- z]at this;have hm:raw.length<=i*t.sz:=by rw[z];exact wM _ u
 rw[qCw,yD hm,xU];exact this
theorem lY{t ty e:TypeId}{i:TypeInfo}(f:P.underlying t=some (.slice e))(hi:P.info? e=some i)(base:Option Addr)(n cap:Nat)(h:n<=cap)(j:Addr)(c:Nat):
  (Builtin.append_ #[t,t] ty #[.slice base n cap,.slice (some j) 0 c]).run P w=.ok (.slice base n cap) w:=by
 cases base<;>simp[Builtin.append_,vH f,sizeOf,typeInfo,hi,Builtin.lenOf,Builtin.firstCells,h,loadCells,loadCellsFrom,storeCells]
theorem aAY{S:Base}{σ:Sig}{a:Act}(h:aL S σ a w D E){nx:Nat}{t u:TypeId}{s x:RV}{c:Core}{vs vx:Value}
  (hbs:s.2=da σ.m s.1) (hbx:x.2=da σ.m x.1) (hc:aDb S.P nx t s x=some c) (hn:∀q∈c.need,q)
  (hs:s.1.rel S.P ⟨w,D,σ.m,E⟩ vs) (hx:x.1.rel S.P ⟨w,D,σ.m,E⟩ vx) (hu:∀k,c.new=some k->Unm k σ):
  ∃r w',(Builtin.append_ #[t,t] u #[vs,vx]).run S.P w=.ok r w'/\Outcome S ⟨σ.T,upM σ.m c.upd,σ.sv⟩ a c.val r w':=by
 unfold aDb at hc;split at hc;case h_2=>cases hc
 rename_i e he;have j:=dz he;split at hc;rename_i nm n el ty xs;split at hc;case isFalse=>cases hc
 rename_i hel;subst hel;split at hc;case h_2=>cases hc
 rename_i ns ys bytes hsrc hz;cases hc;obtain⟨i,z,hi,hz1,A,hz3,hz4⟩:=om hz;have hzs:z.cells.size=ty.sz:=by rw[<- vI,hz4,bQ]
 have hm:σ.m nm=some (.buf el ty xs []):=hbs.symm;have hlen:xs.length=n:=Ob.get hn (by simp);have hb1:(n+ys.length)*bytes<=140737488355328:=hn _ (.tail _ (List.mem_append_right _ (.head _)));have hb2:n+ys.length<=9223372036854775807:=hn _ (.tail _ (List.mem_append_right _ (.tail _ (.head _))));have hv:=(hs _ hm).2 hlen;obtain⟨raw,r1,r2⟩:=h.bl nm _ hm;rw[hlen]at r1;have fin:∀(w':World) (v':Value) (e':Ent) (G:Lv),v'=e'.handle (n+ys.length)->
   (ys.length=0->e'=E nm)->w'.os=w.os->w'.tape=w.tape->w'.output=w.output->w.heap.size<=w'.heap.size->
   (∀k,k<w.heap.size->((E nm).isNil=false->k≠(E nm).b)->w'.heap[k]?=w.heap[k]?)->
   (e'.isNil=false->(e'.b=w.heap.size/\w.heap.size<w'.heap.size)\/((E nm).isNil=false/\e'.b=(E nm).b))->
   w'.ownsRow 0 el ty.sz v' (n+ys.length) (raw++G)->
   (∀(i:Nat) (y:ty.den),ys[i]?=some y->ae w D ty y ((G.drop (i*ty.sz)).take ty.sz))->
   Outcome S ⟨σ.T,upM σ.m [(nm,.buf el ty (xs++ys) [])],σ.sv⟩ a (.buf nm (n+ys.length)) v' w':=by
  intro w' v' e' G hv' hsame ho ht2 hout hsz hw hee hown hel;have hl2:(xs++ys).length=n+ys.length:=by rw[qG,hlen]
  have hesame:(Blk.buf el ty xs []).len=(Blk.buf el ty (xs++ys) []).len->e'=E nm:=λh0=>hsame (by simp only[Blk.len,qG]at h0;omega);have hle:(Blk.buf el ty xs []).len<=(Blk.buf el ty (xs++ys) []).len:=by simp only[Blk.len,qG];omega
  obtain⟨L,N⟩:=h.turnLater (w':=w') (b:=.buf el ty (xs++ys) []) hm (e:=e') rfl hle hesame hw;refine⟨D,upE E nm e',h.turnBlk hm rfl hle hesame ho ht2 hout hsz hw hee ⟨raw++G,by rw[hl2,<- hv'];exact hown,?_⟩,λb hb=>?_⟩;exact uK (by rw[r1.1,hlen]) (bh L (λk hk=>N k) r2) (λi y hy=>au L.D L.w (hel i y hy));replace hb:upM σ.m [(nm,.buf el ty (xs++ys) [])] nm=some b:=hb;rw[dR,if_pos rfl]at hb;cases hb;refine⟨by simp only[Blk.len];omega,λ_=>?_⟩;have:upE E nm e' nm=e':=by simp[upE]
  show v'=(upE E nm e' nm).handle _;rw[this];exact hv'
 rcases I9 h hbx hsrc (λq hq=>hn q (by simp[hq])) hx with⟨rfl,rfl⟩|⟨ad,cx,news,rfl,n1,n2,n3,n4⟩;refine⟨vs,w,?_,?_⟩;rw[hv];exact run_append_owned_none (P:=S.P) w 0 t u el i ty.sz j hi _ n raw r1;exact fin w vs (E nm) [] (by simpa using hv) (λ_=>rfl) rfl rfl rfl (qL _) (λ_ _ _=>rfl) (λhi=>.inr ⟨hi,rfl⟩) (by rw[hv];simpa using r1) (λi y hy=>by simp at hy);by_cases hy0:ys.length=0;have hys:ys=[]:=vK hy0;subst hys;have hvs:∃b n' cap,vs=.slice b n' cap/\n'<=cap/\n'=n:=by
  rw[hv];rcases r1.2 with⟨hq,hz⟩|⟨g,cap,cur,hq,_,_,hle,_⟩;exact⟨none,0,0,hq,qL _,hz.symm⟩;exact⟨_,_,_,hq,hle,rfl⟩
 obtain⟨b,n',cap,hvv,hle,_⟩:=hvs;refine⟨vs,w,?_,?_⟩;rw[hvv];exact lY j hi b n' cap hle ad cx;exact fin w vs (E nm) [] (by simpa using hv) (λ_=>rfl) rfl rfl rfl (qL _) (λ_ _ _=>rfl) (λhi=>.inr ⟨hi,rfl⟩) (by rw[hv];simpa using r1) (λi y hy=>by simp at hy);have h63:n+ys.length<=maxLen:=by unfold maxLen;omega
 obtain⟨v',w',q1,q2,f,_⟩:=run_append_own (P:=S.P) w 0 t u el i z ty.sz bytes j hi hz1 A hz3 hzs (Ty.sz_pos ty) _ n raw r1 ad ys.length cx news n1 n2 n3 h63 hb1 (wK _);cases X:(E nm).isNil with
 |true=>
  have e3:(E nm).handle n=.slice none 0 0:=by unfold Ent.handle;rw[X];rfl
  have hn0:n=0:=by
   rw[e3]at r1;rcases r1.2 with⟨_,hz⟩|⟨g,cap,cur,hq,_⟩;exact hz;cases hq
  subst hn0;have hr:=run_append_nil (P:=S.P) w t u el i z j hi hz1 ad ys.length cx news (by rw[A];exact n1) n2 Z Z (by rw[hz3];rw[zG]at hb1;omega);rw[e3]at q1 f;rw[hr]at q1;cases q1;refine⟨_,_,by rw[hv,e3];exact hr,fin _ _ ⟨w.heap.size,grownCap w ys.length 0 el,false,noR⟩ news (by simp[Ent.handle]) (λh0=>(hy0 h0).elim) f.os f.tape f.output f.size
   (λk hk _=>f.block k hk (by simp[Value.ownBlock])) (λ_=>.inl ⟨rfl,by rw[qH];simp⟩) q2 n4⟩
 |false=>
  have e3:(E nm).handle n=.slice (some ⟨(E nm).b,0,none⟩) n (E nm).cap:=by unfold Ent.handle;rw[X];rfl
  rw[e3]at r1 q1 f;have hblk:∀k,k<w.heap.size->((E nm).isNil=false->k≠(E nm).b)->w'.heap[k]?=w.heap[k]?:=λk hk hne=>f.block k hk (by simp[Value.ownBlock];exact hne X);by_cases hroom:n+ys.length<=(E nm).cap;obtain⟨w2,p1,p2,p3⟩:=run_append_fits (P:=S.P) w 0 t u el i ty.sz j hi A (E nm).b n (E nm).cap raw r1 ad ys.length cx news n1 n2 n3 hroom;rw[p1]at q1;cases q1;exact⟨_,_,by rw[hv,e3];exact p1,fin _ _ (E nm) news (by unfold Ent.handle;rw[X];rfl) (λ_=>rfl) f.os f.tape f.output f.size hblk (λhi=>.inr ⟨hi,rfl⟩) q2 n4⟩;have hr:=run_append_grow (P:=S.P) w t u el i z j hi hz1 ⟨(E nm).b,0,none⟩ n (E nm).cap raw (by rw[A];exact r1.1) (r1.cells rfl) ad ys.length cx news (by rw[A];exact n1) n2 Z Z
   (growslice_fits Z (by rw[hz3];exact hb1))
  rw[hr]at q1;cases q1;refine⟨_,_,by rw[hv,e3];exact hr,fin _ _ ⟨w.heap.size,grownCap w (n+ys.length) (E nm).cap el,false,noR⟩ news (by simp[Ent.handle]) (λh0=>(hy0 h0).elim) f.os f.tape f.output f.size hblk
   (λ_=>.inl ⟨rfl,by rw[qH];simp⟩) q2 n4⟩
 rename_i b2;split at hc;case h_2=>cases hc
 rename_i ty hty;split at hc;case h_2=>cases hc
 rename_i ns ys bytes hsrc hz;cases hc;obtain⟨i,z,hi,hz1,A,hz3,hz4⟩:=om hz;have hzs:z.cells.size=ty.sz:=by rw[<- vI,hz4,bQ]
 have hb1:ys.length*bytes<=140737488355328:=hn _ (List.mem_append_right _ (.head _));have hb2:ys.length<=9223372036854775807:=hn _ (List.mem_append_right _ (.tail _ (.head _)));simp only[AV.rel]at hs;subst hs;have asNil:∀r,r=Value.slice none 0 0->ys=[]->Outcome S ⟨σ.T,upM σ.m [(nx,.buf e ty ys [])],σ.sv⟩ a (.buf nx ys.length) r w:=by
  intro r hr hy;subst hr hy;have e3:upE E nx (⟨0,0,true,noR⟩:Ent) nx=⟨0,0,true,noR⟩:=by simp[upE]
  refine⟨D,upE E nx ⟨0,0,true,noR⟩,h.newBlk (hu nx rfl) (Below.refl _ _) (λh=>by cases h) ⟨[],qBm _ _ _ _,λi y hy=>by simp at hy⟩,λb hb=>?_⟩;replace hb:upM σ.m [(nx,.buf e ty [] [])] nx=some b:=hb;rw[dR,if_pos rfl]at hb;cases hb;refine⟨qL _,λ_=>?_⟩;show _=(upE E nx _ nx).handle _;rw[e3];rfl
 rcases I9 h hbx hsrc (λq hq=>hn q (by simp[hq])) hx with⟨rfl,hy⟩|⟨ad,cx,news,rfl,n1,n2,n3,n4⟩;exact⟨_,w,run_append_owned_none (P:=S.P) w 0 t u e i ty.sz j hi _ 0 [] (qBm _ _ _ _),asNil _ rfl hy⟩;by_cases hy0:ys.length=0;have hys:ys=[]:=vK hy0;refine⟨_,w,?_,asNil _ rfl hys⟩;rw[hy0];exact lY j hi none 0 0 (qL _) ad cx;have hr:=run_append_nil (P:=S.P) w t u e i z j hi hz1 ad ys.length cx news (by rw[A];exact n1) n2 Z Z (by rw[hz3];omega);obtain⟨v',w',q1,q2,f,_⟩:=run_append_own (P:=S.P) w 0 t u e i z ty.sz bytes j hi hz1 A hz3 hzs (Ty.sz_pos ty) _ 0 [] (qBm _ _ _ _) ad ys.length cx news n1 n2 n3 (by unfold maxLen;omega) (by rw[zG];exact hb1) (wK _);rw[hr]at q1;cases q1;refine⟨_,_,hr,LH h (hu nx rfl) ⟨f.os,f.tape,f.output,f.size,λk hk=>f.block k hk (by simp[Value.ownBlock])⟩ (by rw[qH];simp) (by simpa using q2) (by simpa using n4)⟩;cases hc
end Go.Eng
namespace Go.Eng
open Go.RowKit
abbrev Gi{α:Type}(n:Nat)(x:α):List α:=List.replicate n x
def aF5(P:Program):Nat->TypeId->Option (Nat×Ty)
 |0,_=>none|f+1,t=>match P.underlying t with
  |some (.array n e)=>match aF5 P f e with
   |some (c,ty)=>some (n*c,ty)|none=>none
  |_=>match PZ P t with
   |some ty=>some (1,ty)|none=>none
def qg(ty:Ty):Nat->Lv->Bool
 |0,l=>l.isEmpty|n+1,l=>match isZero ty l with
  |some r=>qg ty n r|none=>false
theorem wt{ty:Ty}:∀{n:Nat}{l:Lv},qg ty n l=true->l=(List.replicate n (zeroCells ty)).flatten
 |0,l,h=>by simpa[qg]using h|n+1,l,h=>by
  simp only[qg]at h;split at h;rename_i r f;rw[qh f,wt h,List.replicate_succ,kG];cases h
def aCG(P:Program)(t:TypeId):Bool:=match P.underlying t with|some (.array _ _)=>true|_=>false
def yb(P:Program)(nx:Nat)(elem:TypeId):Option Core:=
 if aCG P elem then match aF5 P 4 elem,(P.info? elem).bind (·.zero)with
  |some (n,ty),some z=>if qg ty n z.cells.toList=true/\0<n/\n<=1000000 then
    some {val:=.ptr nx n 0 0,upd:=[(nx,.buf elem ty (Gi n ty.dflt) [])],new:=some nx} else none
  |_,_=>none
 else none
variable {c:Core}{S:Base}{D:Nat->Prop}{a:Act}{w:World}{E:Nat->Ent}{σ:Sig}
theorem IK(h:aL S σ a w D E){nx:Nat}{elem:TypeId}
  (hc:yb S.P nx elem=some c) (hu:∀k,c.new=some k->Unm k σ):
  ∃r w',(Instr.alloc elem true (.tuple #[])).run S.P w=.ok r w'/\Outcome S ⟨σ.T,upM σ.m c.upd,σ.sv⟩ a c.val r w':=by
 unfold yb at hc;split at hc;case isFalse=>cases hc
 split at hc;case h_2=>cases hc
 rename_i n ty z harr L;split at hc;case isFalse=>cases hc
 rename_i hk;obtain⟨X,hn0,hn1⟩:=hk;cases hc;cases hi:S.P.info? elem with
 |none=>rw[hi]at L;cases L
 |some i=>
  have hz':i.zero=some z:=by rw[hi]at L;exact L
  have A:=wt X;have G:∀us∈List.replicate n (zeroCells ty),us.length=ty.sz:=λus hus=>by rw[(List.mem_replicate.1 hus).2,bQ]
  have f:z.cells.toList.length=n*ty.sz:=by rw[A,fi ty.sz _ G,zU]
  have e3:upE E nx (⟨w.heap.size,n,false,noR⟩:Ent) nx=⟨w.heap.size,n,false,noR⟩:=by simp[upE]
  have u:(List.replicate n ty.dflt).length=n:=zU;refine⟨.pointer (some ⟨w.heap.size,0,none⟩),w.alloc (.cells z.cells elem),?_,D,upE E nx ⟨w.heap.size,n,false,noR⟩,
   h.newBlk (hu nx rfl) (oW w _) (λ_=>⟨rfl,by rw[qH];simp⟩) ⟨z.cells.toList,⟨?_,.inr ⟨w.heap.size,n,z.cells,?_,wK _,?_,?_,?_,?_,?_⟩⟩,?_⟩,λb hb=>?_⟩
  simp[Instr.alloc,zeroValue,typeInfo,hi,hz',newVar,newRow];show _=(List.replicate n ty.dflt).length*ty.sz;rw[u];exact f;simp[Ent.handle];show(w.heap.push _)[w.heap.size]?=_;simp;show(List.replicate n ty.dflt).length<=n;omega;unfold maxLen;omega;rw[<- vI];exact f;show z.cells.toList.take ((List.replicate n ty.dflt).length*ty.sz)=_;rw[u,<- f,kY];intro j y hy;simp only[List.lookup];have hj:j<n:=by have:=(qC.1 hy).1;rwa [u]at this
  have ey:y=ty.dflt:=by
   have:=(qC.1 hy).2;simpa using this.symm
  rw[A,ja ty.sz _ G j (zeroCells ty) (by rw[wU,if_pos hj]),ey];exact iE _ _ ty;replace hb:upM σ.m [(nx,.buf elem ty (List.replicate n ty.dflt) [])] nx=some b:=hb;rw[dR,if_pos rfl]at hb;cases hb;refine⟨yK u.symm,λ_=>⟨hn0,?_,?_⟩⟩;show(upE E nx _ nx).isNil=false;rw[e3];show _=Value.pointer (some ⟨(upE E nx _ nx).b,_,none⟩);rw[e3];simp
def xN(P:Program)(t:TypeId)(p:RV):Option Core:=match P.underlying t with
 |some (.array n e)=>match p with
  |(.ptr nm g j 0,some (.buf _ ty xs _))=>if sizeT P e=some ty.sz then some {need:=[j=0,g=n,xs.length=g],val:=.view nm n} else none|_=>none
 |_=>none
theorem IJ(h:aL S σ a w D E){p:RV}{t:TypeId}{v:Value}
  (hb:p.2=da σ.m p.1) (hc:xN S.P t p=some c) (u:∀q∈c.need,q) (G:p.1.rel S.P ⟨w,D,σ.m,E⟩ v):
  ∃r,(Instr.sliceAt t v none none none).run S.P w=.ok r w/\c.val.rel S.P ⟨w,D,σ.m,E⟩ r/\c.upd=[]/\c.new=none:=by
 unfold xN at hc;split at hc;case h_2=>cases hc
 rename_i n e z;split at hc;case h_2=>cases hc
 rename_i nm g j el ty xs ov;split at hc;case isFalse=>cases hc
 rename_i A;cases hc;have h1:j=0:=Ob.get u (by simp);have X:g=n:=Ob.get u (by simp);have L:xs.length=g:=Ob.get u (by simp);have hm:σ.m nm=some (.buf el ty xs ov):=hb.symm;obtain⟨g1,g2⟩:=G _ hm;obtain⟨g3,g4,rfl⟩:=g2 L;subst h1 X;have f:=bB A w;refine⟨.slice (some ⟨(E nm).b,0,none⟩) g g,?_,λb' y=>?_,rfl,rfl⟩;simp[Instr.sliceAt,vH z,Instr.sureAddr,Instr.sliceBounds,f,xR];have e:b'=.buf el ty xs ov:=wE (y.symm.trans hm);subst e;exact⟨g1,λ_=>⟨g4,g,qL _,rfl⟩⟩
theorem run_copy_cells{P:Program}(w:World)(dT sT ty elem:TypeId)(sz:Nat)(g h L:Nat)(a:Addr)(f y:Nat)(u:Array Value)(t:TypeId)(cs:Lv)
  (hu:P.underlying dT=some (.slice elem)) (hs:sizeT P elem=some sz)
  (hg:w.heap[g]?=some (.cells u t (0,0))) (hn:cs.length=Nat.min f h*sz)
  (A:∀j v,cs[j]?=some v->w.cell? (a.add j)=some v) (G:cs.length<=u.size) (h1:∀v∈cs,v.oneCell'=true):
  (Builtin.copy_ #[dT,sT] ty #[.slice (some ⟨g,0,none⟩) h L,.slice (some a) f y]).run P w =
   .ok (.int .i64 (Nat.min f h:Nat)) (w.setRow g (cs++u.toList.drop cs.length).toArray):=by
 have hl:=qCf (P:=P) w a cs A;have z:=run_storeCells_at P g 0 t cs 0 u w hg (by simpa using G) h1;have X:=bB hs w;simp only[xZ,zG,qCb,xU]at z;rw[hn]at hl;simp[Builtin.copy_,vH hu,Builtin.lenOf,Builtin.firstCells,X,hl,z,goInt,hn]
theorem BI{P:Program}(w:World)(z A ty elem:TypeId)(sz:Nat)(d a:Option Addr)(h u f j:Nat)(G:P.underlying z=some (.slice elem))(L:sizeT P elem=some sz)(X:Nat.min f h=0):
  (Builtin.copy_ #[z,A] ty #[.slice d h u,.slice a f j]).run P w=.ok (.int .i64 0) w:=by
 have hl:∀(x:Addr),(loadCells x 0).run P w=.ok #[] w:=λx=>by simpa using qCf (P:=P) w x [] (by simp)
 have y:=bB L w;cases d<;>cases a<;>simp[Builtin.copy_,vH G,Builtin.lenOf,Builtin.firstCells,y,X,storeCells,hl,goInt]
def jz(nm:Nat)(el:TypeId)(ty:Ty)(n:Nat)(xs ys:List ty.den)(ns:List Ob):Core:=
 {need:=(xs.length=n)::ns,val:=.dat (.int .i64) (Eu (ys.length:Int) (xs.length:Int)),upd:=[(nm,.buf el ty (Gn xs ys) [])]}
def aAJ(P:Program)(t:TypeId)(d s:RV):Option Core:=match eH P t with
 |some e=>match d with
  |(.buf nm n,some (.buf el ty xs []))=>if sizeT P e=some ty.sz then match ZR ty s with
   |some (ns,ys)=>some (jz nm el ty n xs ys ns)|none=>none
   else none
  |(.view nm n,some (.buf el ty xs []))=>if sizeT P e=some ty.sz then match ZR ty s with
   |some (ns,ys)=>some (jz nm el ty n xs ys ns)|none=>none
   else none
  |_=>none
 |none=>none
theorem UR{m:Nat->Option Blk}{nm:Nat}{b:Blk}(h:m nm=some b):upM m [(nm,b)]=m:=by
 funext k;rw[dR];split;rename_i e;subst e;exact h.symm;rfl
theorem It(h:aL S σ a w D E){t sT oty e:TypeId}{s:RV}{nm n:Nat}{el:TypeId}{ty:Ty}{xs ys:List ty.den}{ns:List Ob}{vd vs:Value}
  (he:eH S.P t=some e) (hsz:sizeT S.P e=some ty.sz) (hm:σ.m nm=some (.buf el ty xs [])) (hbs:s.2=da σ.m s.1) (hsrc:ZR ty s=some (ns,ys)) (hn:∀q∈(jz nm el ty n xs ys ns).need,q)
  (hd:xs.length=n->(vd=.slice none 0 0/\n=0)\/((E nm).isNil=false/\∃c,vd=.slice (some ⟨(E nm).b,0,none⟩) n c)) (hs:s.1.rel S.P ⟨w,D,σ.m,E⟩ vs):
  ∃r w',(Builtin.copy_ #[t,sT] oty #[vd,vs]).run S.P w=.ok r w'/\Outcome S ⟨σ.T,upM σ.m (jz nm el ty n xs ys ns).upd,σ.sv⟩ a (jz nm el ty n xs ys ns).val r w':=by
 have hue:=dz he;have f:xs.length=n:=Ob.get hn (by simp[jz]);have hns:∀q∈ns,q:=λq hq=>hn q (by simp[jz,hq]);have same:xs.length=0\/ys.length=0->(upM σ.m (jz nm el ty n xs ys ns).upd=σ.m/\(jz nm el ty n xs ys ns).val=.dat (.int .i64) (0:Int)):=λA=>by
  have e:Gn xs ys=xs:=by
   show List.take xs.length ys++List.drop ys.length xs=xs;rcases A with A|A;rw[vK A];simp;rw[vK A];simp
  refine⟨by simp only[jz,e];exact UR hm,?_⟩;have e2:min (ys.length:Int) (xs.length:Int)=0:=Z;simp only[jz,Eu,e2]
 have nothing:∀(dp sp:Option Addr) (dL dC sL sC:Nat),vd=.slice dp dL dC->vs=.slice sp sL sC->dL=xs.length->sL=ys.length->(xs.length=0\/ys.length=0)->
   ∃r w',(Builtin.copy_ #[t,sT] oty #[vd,vs]).run S.P w=.ok r w'/\Outcome S ⟨σ.T,upM σ.m (jz nm el ty n xs ys ns).upd,σ.sv⟩ a (jz nm el ty n xs ys ns).val r w':=by
  rintro dp sp dL dC sL sC rfl rfl rfl rfl A;obtain⟨q1,q2⟩:=same A;refine⟨.int .i64 0,w,BI w t sT oty e ty.sz dp sp _ dC _ sC hue hsz ?_,?_⟩;rcases A with A|A<;>rw[A]<;>simp;rw[q1,q2];exact⟨D,E,h,rfl⟩
 have hdst:=hd f;rcases I9 h hbs hsrc hns hs with⟨rfl,rfl⟩|⟨ad,cx,news,rfl,n1,n2,n3,n4⟩;rcases hdst with⟨rfl,A⟩|⟨_,c,rfl⟩;exact nothing none none 0 0 0 0 rfl rfl Z rfl (.inr rfl);exact nothing _ none n c 0 0 rfl rfl f.symm rfl (.inr rfl);rcases hdst with⟨rfl,A⟩|⟨X,c,rfl⟩;exact nothing none _ 0 0 _ cx rfl rfl Z rfl (.inl Z);by_cases hz:xs.length=0\/ys.length=0;exact nothing _ _ n c _ cx rfl rfl f.symm rfl hz;obtain⟨raw,r1,r2⟩:=h.bl nm _ hm;obtain⟨k,hk⟩:∃k,k=Nat.min ys.length n:=⟨_,rfl⟩;have hkn:k<=n:=by rw[hk];exact Nat.min_le_right _ _
 have hky:k<=ys.length:=by rw[hk];exact Nat.min_le_left _ _
 have hrl:raw.length=n*ty.sz:=by rw[r1.1,f]
 have hmul:k*ty.sz<=n*ty.sz:=wM _ hkn;have hmul2:k*ty.sz<=ys.length*ty.sz:=wM _ hky;have u:(news.take (k*ty.sz)).length=k*ty.sz:=by rw[qO];omega
 have e3:(E nm).handle xs.length=.slice (some ⟨(E nm).b,0,none⟩) xs.length (E nm).cap:=by unfold Ent.handle;rw[X];rfl
 rw[e3]at r1;obtain⟨rl,r1⟩:=r1;rcases r1 with⟨hq,_⟩|⟨g,cap,cur,hq,hg0,hg,hcap,hmax,hcur,G⟩;cases hq;simp only[yH,vT,qAk,vY,yE]at hq;obtain⟨hq1,hq2⟩:=hq;rw[f]at hcap G;have hcapm:n*ty.sz<=cap*ty.sz:=wM _ hcap;have hrun:=run_copy_cells (P:=S.P) w t sT oty e ty.sz g n c ad ys.length cx cur el (news.take (k*ty.sz)) hue hsz hg (by rw[u,hk])
  (λj v hj=>by
   rw[vV]at hj;split at hj;exact n2 j v hj;cases hj) (by rw[u,hcur];omega) (λv hv=>n3 v (qBw hv))
 refine⟨_,_,by rw[hq1];exact hrun,?_⟩;have z:(Gn xs ys).length=xs.length:=by
  simp only[Gn,qG,qO,vZ];omega
 obtain⟨D',E',hst⟩:=aL.stored (b:=.buf el ty (Gn xs ys) []) h hm X rfl z.symm (news.take (k*ty.sz)++cur.toList.drop (news.take (k*ty.sz)).length).toArray (λC' L N hw=>by
  refine⟨news.take (k*ty.sz)++raw.drop (k*ty.sz),⟨?_,.inr ⟨g,cap,(news.take (k*ty.sz)++cur.toList.drop (news.take (k*ty.sz)).length).toArray,?_,hg0,?_,?_,hmax,?_,?_⟩⟩,λi y hy=>?_⟩;rw[z,qG,u,vZ,hrl,f];omega;unfold Ent.handle;rw[X,z,hq1,hq2];rfl;rw[hw,hq1];exact qCe w g cur _ el _ hg;rw[z,f];exact hcap;rw[xB,qG,u,vZ,vI,hcur];omega;rw[z,f,List.toList_toArray,qCt,u,qM (by rw[u];exact hmul),<- G,qCd];have hi:i<xs.length:=by have:=(qC.1 hy).1;rwa [z]at this
  simp only[List.lookup];by_cases hik:i<k;have hy':ys[i]?=some y:=by
   simp only[Gn]at hy;rw[vU (by rw[qO];omega),vV]at hy;rw[if_pos Z]at hy;exact hy
  have:=n4 i y hy';have hiz:i*ty.sz+ty.sz<=k*ty.sz:=by
   have:=wM ty.sz (show i+1<=k from hik);rw[zT,yA]at this;exact this
  have e5:((news.take (k*ty.sz)++raw.drop (k*ty.sz)).drop (i*ty.sz)).take ty.sz=(news.drop (i*ty.sz)).take ty.sz:=by
   rw[kW (by rw[u];omega),yO (by rw[vZ,u];omega),qCd,qCc,kH Z]
  rw[e5];exact au L.D L.w this;have hy':xs[i]?=some y:=by
   simp only[Gn]at hy;have hyl:ys.length<=i:=by
    rw[hk]at hik;have:¬(i<ys.length):=λg1=>hik (Nat.lt_min.2 ⟨g1,Z⟩);omega
   rw[qV (by rw[qO];omega),vF,qO]at hy;rw[show ys.length+(i-min xs.length ys.length)=i by omega]at hy;exact hy
  have:=r2 i y hy';simp only[List.lookup]at this;have hiz:k*ty.sz<=i*ty.sz:=wM _ Z;have e5:(news.take (k*ty.sz)++raw.drop (k*ty.sz)).drop (i*ty.sz)=raw.drop (i*ty.sz):=by
   rw[qCw,yD (by rw[u];exact hiz),xU,u,yU];congr 1;omega
  rw[e5];exact au L.D L.w this)
 refine⟨D',E',by rw[<- hq1];exact hst,?_⟩;simp only[jz,AV.rel,ae,vG,vY,Value.int.injEq,yE,Eu];rw[show Nat.min ys.length n=min ys.length n from rfl,f];omega
theorem XG(h:aL S σ a w D E){t sT L:TypeId}{d s:RV}{X vs:Value}
  (z:d.2=da σ.m d.1) (y:s.2=da σ.m s.1) (hc:aAJ S.P t d s=some c) (hn:∀q∈c.need,q)
  (hd:d.1.rel S.P ⟨w,D,σ.m,E⟩ X) (hs:s.1.rel S.P ⟨w,D,σ.m,E⟩ vs):
  ∃r w',(Builtin.copy_ #[t,sT] L #[X,vs]).run S.P w=.ok r w'/\Outcome S ⟨σ.T,upM σ.m c.upd,σ.sv⟩ a c.val r w':=by
 unfold aAJ at hc;split at hc;case h_2=>cases hc
 rename_i e he;split at hc;rename_i nm n el ty xs;split at hc;case isFalse=>cases hc
 rename_i j;split at hc;case h_2=>cases hc
 rename_i ns ys f;cases hc;have hm:σ.m nm=some (.buf el ty xs []):=z.symm;refine It h he j hm y f hn (λG=>?_) hs;have A:=(hd _ hm).2 G;unfold Ent.handle at A;split at A;rename_i u;obtain⟨raw,r1,_⟩:=h.bl nm _ hm;have e3:(E nm).handle xs.length=.slice none 0 0:=by unfold Ent.handle;rw[u];rfl
 rw[e3]at r1;rcases r1.2 with⟨_,hz⟩|⟨g,cap,cur,u,_⟩;exact .inl ⟨A,by rw[<- G];exact hz⟩;cases u;rename_i u;exact .inr ⟨by simpa using u,_,A⟩;rename_i nm n el ty xs;split at hc;case isFalse=>cases hc
 rename_i j;split at hc;case h_2=>cases hc
 rename_i ns ys f;cases hc;have hm:σ.m nm=some (.buf el ty xs []):=z.symm;refine It h he j hm y f hn (λG=>?_) hs;obtain⟨q1,cap,_,q2⟩:=(hd _ hm).2 G;exact .inr ⟨q1,cap,q2⟩;cases hc
end Go.Eng
namespace Go.Eng
open Go.RowKit
def Ge(P:Program)(t:TypeId)(i:Nat):Option (Nat×Nat):=match P.underlying t with
 |some (.struct fs)=>match fs[i]? with
  |some f=>match sizeT P f.type with
   |some n=>some (f.offset,n)|none=>none
  |none=>none
 |some (.array _ e)=>match sizeT P e with
  |some n=>some (i*n,n)|none=>none
 |_=>none
def Qz(P:Program)(t:TypeId):Bool:=match P.underlying t with|some (.struct fs)=>fs.toList.all λf=>(sizeT P f.type).isSome|some (.array _ e)=>(sizeT P e).isSome|_=>false
def J0(place:Nat->Option (Nat×Nat)):List Nat->List RV->List AV->Option (List Ob×List AV)
 |[],[],cs=>some ([],cs)|i::is,v::vs,cs=>match place i,Jq v with
  |some (off,size),some ns=>if(cI v.1).length=size/\off+size<=cs.length then
    match J0 place is vs (cs.take off++cI v.1++cs.drop (off+size))with
    |some (ms,r)=>some (ns++ms,r)|none=>none
   else none
  |_,_=>none
 |_,_,_=>none
def TX(P:Program)(t:TypeId)(idxs:List Nat)(vs:List RV):Option Core:=
 match(P.info? t).bind (·.zero)with
 |some z=>if Qz P t then match J0 (Ge P t) idxs vs (z.cells.toList.map GH)with
  |some (ns,cs)=>some {need:=ns,val:=.agg cs}|none=>none
  else none
 |none=>none
variable {w:World}
theorem Ff{P : Program}{w : World}:∀ {l : List Field},(l.all fun f =>(sizeT P f.type).isSome) = true →
    ((l.mapM fun f =>do pure (f.offset,← sizeOf f.type)) : Sem (List (Nat × Nat))).run P w = .ok (l.map fun f =>(f.offset,(sizeT P f.type).getD 0)) w
  |[],_ =>by simp|f :: l,h =>by
    simp only [qBa,qE] at h;obtain ⟨n,hn⟩ := qAf.1 h.1;have ih := Ff (w := w) h.2;rw [xG];simp only [wO,bB hn,wB,yN,ih,hn,vJ,wV]
variable {D:Nat->Prop}{E:Nat->Ent}
theorem M4{S:Base}{σ:Sig}{place:Nat->Option (Nat×Nat)}:∀{is:List Nat}{vs:List RV}{cs r:List AV}{ns:List Ob}{us:Lv}{A:Array Value},
  J0 place is vs cs=some (ns,r)->(∀q∈ns,q)->(∀v∈vs,v.2=da σ.m v.1)->AV.relL S.P ⟨w,D,σ.m,E⟩ cs A.toList->AV.relL S.P ⟨w,D,σ.m,E⟩ (vs.map (·.1)) us->
  ∃B,Instr.fill place A (is.zip us)=some B/\AV.relL S.P ⟨w,D,σ.m,E⟩ r B.toList
 |[],[],cs,r,ns,us,A,h,_,_,hA,hu=>by
  simp only[J0]at h;cases h;exact⟨A,rfl,hA⟩
 |i::is,v::vs,cs,r,ns,us,A,h,hn,hv,hA,hu=>by
  simp only[J0]at h;split at h;case h_2=>cases h
  rename_i off size n1 hp h1;split at h;case isFalse=>cases h
  rename_i z;split at h;case h_2=>cases h
  rename_i ms r' hr;cases h;obtain⟨u,us',rfl,g1,g2⟩:=hu;obtain⟨zs,z1,z2,_⟩:=pL (hv v (by simp)) h1 (λq L=>hn q (qI.2 (.inl L))) g1;have hl:=AV.relL_length hA;have y:=AV.relL_length z2;have X:off+zs.length<=A.size:=by rw[<- vI,<- hl,<- y];omega
  have f:=foldl_set zs A off 0 (by simpa using X);generalize hA':(zs.zipIdx 0).foldl (λa (c,j)=>a.setIfInBounds (off+j) c) A=A' at f;simp only[xZ]at f;have G:AV.relL S.P ⟨w,D,σ.m,E⟩ (cs.take off++cI v.1++cs.drop (off+size)) A'.toList:=by
   rw[f,<- y,z.1];exact AV.relL_append (AV.relL_append (AV.relL_take hA off) z2) (AV.relL_drop hA (off+size))
  obtain⟨B,b1,b2⟩:=M4 hr (λq L=>hn q (qI.2 (.inr L))) (λq L=>hv q (by simp[L])) G g2;refine⟨B,?_,b2⟩;simp only[List.zip_cons_cons,Instr.fill,hp,z1];have hx:zs.toArray.size=size:=by rw[xB,<- y];exact z.1
  have hx2:zs.length=size:=by simpa using hx
  have hif:¬(zs.toArray.size≠size\/off+zs.toArray.size>A.size):=by rw[hx];omega
  rw[if_neg (by simpa using hif)];have hz:zs.toArray.zipIdx.foldl (λcs x=>cs.setIfInBounds (off+x.2) x.1) A=A':=by
   rw[<- hA',<- Array.foldl_toList];simp
  rw[hz];exact b1
 |[],_::_,_,_,_,_,_,h,_,_,_,_=>by simp[J0]at h|_::_,[],_,_,_,_,_,h,_,_,_,_=>by simp[J0]at h
theorem TW{S:Base}{σ:Sig}{t:TypeId}{y:List Nat}{vs:List RV}{us:Lv}{c:Core}
  (hc:TX S.P t y vs=some c) (hn:∀q∈c.need,q) (hv:∀v∈vs,v.2=da σ.m v.1) (G:AV.relL S.P ⟨w,D,σ.m,E⟩ (vs.map (·.1)) us):
  ∃r,(Instr.build t (y.zip us).toArray).run S.P w=.ok r w/\c.val.rel S.P ⟨w,D,σ.m,E⟩ r/\c.upd=[]/\c.new=none:=by
 unfold TX at hc;split at hc;case h_2=>cases hc
 rename_i z hz;split at hc;case isFalse=>cases hc
 rename_i h;split at hc;case h_2=>cases hc
 rename_i ns cs hf;cases hc;obtain⟨i,hi,hiz⟩:=xJ.1 hz;have u:(zeroValue t).run S.P w=.ok z w:=by simp[zeroValue,typeInfo,hi,hiz]
 obtain⟨B,b1,b2⟩:=M4 (A:=z.cells) hf hn hv (rc _) G;refine⟨.agg B,?_,⟨B.toList,by simp,b2⟩,rfl,rfl⟩;unfold Qz at h;split at h;rename_i X G;have hr:=Ff (w:=w) h;have hr2:((X.mapM λf=>do pure (f.offset,<- sizeOf f.type)):Sem (Array (Nat×Nat))).run S.P w=.ok (X.toList.map λf=>(f.offset,(sizeT S.P f.type).getD 0)).toArray w:=by
  rw[qCs,map_eq_pure_bind];simp only[wO,hr,wB,yN]
 have L:(λx=>(X.toList.map λf=>(f.offset,(sizeT S.P f.type).getD 0)).toArray[x]?)=Ge S.P t:=by
  funext j;unfold Ge;rw[G];simp only[kQ,qQ,yB];cases hj:X[j]? with
  |none=>rfl|some f=>
   have:=qW.1 h f (by rw[<- yB]at hj;exact qZ hj);obtain⟨n,hn⟩:=qAf.1 this;simp[hn]
 simp only[Instr.build,wO,u,wB,vH G,hr2,L,b1,yN];rename_i n e G;obtain⟨m,hm⟩:=qAf.1 h;have L:(λi=>some (i*m,m))=Ge S.P t:=by
  funext j;unfold Ge;rw[G];simp only[hm]
 simp only[Instr.build,wO,u,wB,vH G,bB hm,L,b1,yN];cases h
end Go.Eng
namespace Go.Eng
open Go.RowKit
def s7(P:Program)(t:TypeId)(ty:Ty):Option Nat:=match P.underlying t with
 |some (.array _ _)=>match sizeT P t with
  |some k=>if k=k/ty.sz*ty.sz then some (k/ty.sz)else none|none=>none
 |_=>none
variable {t:TypeId}{P:Program}
theorem oU{ty:Ty}{n:Nat}(h:s7 P t ty=some n):(∃m e,P.underlying t=some (.array m e))/\sizeT P t=some (n*ty.sz):=by
 unfold s7 at h;split at h;rename_i m e f;split at h;rename_i k j;split at h;rename_i hd;cases h;exact⟨⟨m,e,f⟩,j.trans (yF some hd)⟩;cases h;cases h;cases h
theorem aL.bufCells{S:Base}{σ:Sig}{a:Act}{w:World}{D:Nat->Prop}{E:Nat->Ent}(h:aL S σ a w D E){nm:Nat}{el:TypeId}{t:Ty}{xs:List t.den}{ov:List (Nat×AV)}
  (hm:σ.m nm=some (.buf el t xs ov)) (f:(E nm).isNil=false):∃raw,bX S.P ⟨w,D,σ.m,E⟩ t xs ov raw/\raw.length=xs.length*t.sz/\cO w (E nm).b 0 raw:=by
 obtain⟨raw,y,r2⟩:=h.bl nm _ hm;have G:(E nm).handle xs.length=.slice (some ⟨(E nm).b,0,none⟩) xs.length (E nm).cap:=by unfold Ent.handle;rw[f];rfl
 rw[G]at y;refine⟨raw,r2,y.1,λj u A=>?_⟩;have z:j<xs.length*t.sz:=by rw[<- y.1];exact(qC.1 A).1
 show w.cell? ⟨(E nm).b,0+j,none⟩=some u;rw[zG,y.cellAt j z];exact A
variable {C:Ctx}
theorem rV{t:Ty}{xs:List t.den}{raw:Lv}(h:bX P C t xs [] raw)(j:raw.length=xs.length*t.sz):rW C.w C.D t xs raw:=
 ⟨j,λi y f=>by have:=h i y f;simpa only[List.lookup]using this⟩
theorem me{t:Ty}{xs:List t.den}{raw:Lv}(h:rW C.w C.D t xs raw):bX P C t xs [] raw:=
 λi y f=>by simp only[List.lookup];exact h.2 i y f
variable {D:Nat->Prop}{w:World}
theorem N2{t:Ty}{xs:List t.den}{us:Lv}(h:rW w D t xs us):∀u∈us,u.oneCell'=true:=
 rX (P:=default) (C:=⟨w,D,λ_=>none,λ_=>⟨0,0,true,noR⟩⟩) h.1 (me h)
theorem uI{w w':World}{D D':Nat->Prop}(j:∀b,D b->D' b)(hw:∀b,D b->w'.heap[b]?=w.heap[b]?){t:Ty}{xs:List t.den}{us:Lv}(h:rW w D t xs us):rW w' D' t xs us:=
 ⟨h.1,λi y f=>au j hw (h.2 i y f)⟩
theorem FR{t:Ty}{xs:List t.den}{b off n c:Nat}(h:ae w D (.sl t) xs [.slice (some ⟨b,off,none⟩) n c]):∃us,rW w D t xs us/\cO w b off us:=by
 obtain⟨L,cap,f,_,_,_,z⟩:=h;simp only[vG,yH,vY]at f;obtain⟨f,_,_⟩:=f;obtain⟨news,n1,n2,_,n4⟩:=lu (w:=w) (D:=D) (b:=b) xs off (λi y u=>by
  obtain⟨a,ue,j,_,G,A⟩:=z i y u;rw[<- f]at j;cases j;exact⟨ue,G,A⟩)
 exact⟨news,⟨n1,n4⟩,n2⟩
def tU(P:Program)(t:TypeId)(p:RV):Option Core:=match p with
 |(.ptr _ g i 0,some (.buf _ ty xs []))=>match s7 P t ty with
  |some n=>some {need:=[Dl xs=g,i=0,Dl xs=n],val:=.av ty xs}|none=>none
 |(.ia ty xs,_)=>match s7 P t ty with
  |some n=>some {need:=[Dl xs=n],val:=.av ty xs}|none=>none
 |_=>none
variable {c:Core}{S:Base}{a:Act}{E:Nat->Ent}{v:Value}{σ:Sig}
theorem vw(h:aL S σ a w D E){p:RV}
  (hb:p.2=da σ.m p.1) (hc:tU S.P t p=some c) (u:∀q∈c.need,q) (z:p.1.rel S.P ⟨w,D,σ.m,E⟩ v):
  ∃r,(Instr.loadAt t v).run S.P w=.ok r w/\c.val.rel S.P ⟨w,D,σ.m,E⟩ r/\c.upd=[]/\c.new=none:=by
 have fin:∀{ty:Ty}{xs:List ty.den}{n:Nat}{b off:Nat}{us:Lv},s7 S.P t ty=some n->xs.length=n->rW w D ty xs us->cO w b off us->
   (Instr.loadAt t (.pointer (some ⟨b,off,none⟩))).run S.P w=.ok (.agg us.toArray) w:=by
  intro ty xs n b off us h1 h2 h3 h4;obtain⟨⟨m,e,X⟩,hs⟩:=oU h1;exact run_loadAt_mid (P:=S.P) w b off t us (.array m e) h4 X rfl (by rw[h3.1,h2];exact hs)
 unfold tU at hc;split at hc;rename_i nm g i el ty xs;split at hc;rename_i n f;cases hc;have hm:σ.m nm=some (.buf el ty xs []):=hb.symm;have e1:xs.length=g:=Ob.get u (by simp);have e2:i=0:=Ob.get u (by simp);have y:xs.length=n:=u (xs.length=n) (by simp);obtain⟨_,L,G⟩:=(z _ hm).2 e1;obtain⟨raw,j,r2,A⟩:=h.bufCells hm L;have ev:v=.pointer (some ⟨(E nm).b,0,none⟩):=by
  rw[G,e2];show Value.pointer (some ⟨(E nm).b,0*_+0,none⟩)=_;rw[xE]
 rw[ev];exact⟨_,fin f y (rV j r2) A,⟨raw,rfl,rV j r2⟩,rfl,rfl⟩;cases hc;split at hc;rename_i n f;cases hc;rename_i ty xs _ _;have y:xs.length=n:=u (xs.length=n) (by simp);obtain⟨b,off,rfl,g⟩:=z;obtain⟨us,j,r2⟩:=FR g;exact⟨_,fin f y j r2,⟨us,rfl,j⟩,rfl,rfl⟩;cases hc;cases hc
def JD(P:Program)(t:TypeId)(p:RV):Option Core:=match tU P t p with|some c=>some c|none=>WO P t p
theorem Oj(h:aL S σ a w D E){p:RV}
  (hb:p.2=da σ.m p.1) (hc:JD S.P t p=some c) (u:∀q∈c.need,q) (j:p.1.rel S.P ⟨w,D,σ.m,E⟩ v):
  ∃r,(Instr.loadAt t v).run S.P w=.ok r w/\c.val.rel S.P ⟨w,D,σ.m,E⟩ r/\c.upd=[]/\c.new=none:=by
 unfold JD at hc;split at hc;rename_i y f;cases hc;exact vw h hb f u j;exact LL h hb hc u j
def uq(P:Program)(t:TypeId)(p v:RV):Option Core:=match p,v with
 |(.ptr nm g i 0,some (.buf el ty xs [])),(.av ty' ys,_)=>if h:ty'=ty then match s7 P t ty with
  |some n=>some {need:=[Dl xs=g,i=0,Dl xs=n,Dl ys=n],val:=.val undef,upd:=[(nm,.buf el ty (h▸ys) [])]}|none=>none
  else none
 |_,_=>none
theorem EJ(h:aL S σ a w D E){p v:RV}{G u:Value}
  (hbp:p.2=da σ.m p.1) (hc:uq S.P t p v=some c) (A:∀q∈c.need,q)
  (hp:p.1.rel S.P ⟨w,D,σ.m,E⟩ G) (hv:v.1.rel S.P ⟨w,D,σ.m,E⟩ u):
  c.new=none/\c.val=.val undef/\∃w',(Instr.storeAt t G u).run S.P w=.ok () w'/\∃D E,aL S ⟨σ.T,upM σ.m c.upd,σ.sv⟩ a w' D E:=by
 unfold uq at hc;split at hc;case h_2=>cases hc
 rename_i nm g i el ty xs j ys _;split at hc;case isFalse=>cases hc
 rename_i hty;subst hty;split at hc;case h_2=>cases hc
 rename_i n hn1;cases hc;have hm:σ.m nm=some (.buf el j xs []):=hbp.symm;have e1:xs.length=g:=Ob.get A (by simp);have e2:i=0:=Ob.get A (by simp);have e3:xs.length=n:=A (xs.length=n) (by simp);have e4:ys.length=n:=Ob.get A (by simp);obtain⟨_,z,q3⟩:=(hp _ hm).2 e1;have f:(E nm).isNil=false:=z;have ev:G=.pointer (some ⟨(E nm).b,0,none⟩):=by
  rw[q3,e2];show Value.pointer (some ⟨(E nm).b,0*_+0,none⟩)=_;rw[xE]
 obtain⟨us,rfl,g⟩:=hv;obtain⟨⟨m,e,hu⟩,hs⟩:=oU hn1;have hl:us.length=n*j.sz:=by rw[g.1,e4]
 obtain⟨raw,X,r2⟩:=h.bl nm _ hm;have hhd:(E nm).handle xs.length=.slice (some ⟨(E nm).b,0,none⟩) xs.length (E nm).cap:=by unfold Ent.handle;rw[f];rfl
 rw[hhd]at X;obtain⟨cur,c1,c2,c3⟩:=eZ X 0 us (by rw[hl,e3];omega);have y:=fB (P:=S.P) (t:=t) (u:=.agg us.toArray) c1 (by rw[hl];exact hs) rfl c2 (N2 g);refine⟨rfl,rfl,_,by rw[ev];exact y,h.stored (b:=.buf el j ys []) hm f rfl (by show xs.length=ys.length;omega) _ λC' L N hw=>?_⟩;refine⟨us,?_,me (uI L.D L.w g)⟩;have hrl:=X.1;have e5:raw.take 0++us++raw.drop (0+us.length)=us:=by
  rw[qCb,xU,zG,yD (by rw[hrl,hl,e3];omega),wH]
 rw[e5]at c3;rw[hw];have hh2:(E nm).handle ys.length=.slice (some ⟨(E nm).b,0,none⟩) xs.length (E nm).cap:=by unfold Ent.handle;rw[f,show ys.length=xs.length by omega];rfl
 rw[hh2,show ys.length=xs.length by omega];exact c3
def Gy(m:Nat->Option Blk):List AV->Option (List Ob)
 |[]=>some []|c::cs=>match uV (c,da m c),Gy m cs with
  |some a,some b=>some (a++b)|_,_=>none
theorem Lx:∀{cs:List AV}{ns:List Ob}{us:Lv},Gy C.m cs=some ns->(∀q∈ns,q)->AV.relL P C cs us->∀u∈us,u.oneCell'=true
 |[],_,us,_,_,j=>by
  have:us=[]:=j;subst this;intro u G;cases G
 |c::cs,ns,us,h,z,j=>by
  simp only[Gy]at h;split at h;rename_i a b X L;cases h;obtain⟨u,A,e,g1,g2⟩:=j;subst e;intro x f;rcases zK.1 f with rfl|f;exact Rm (p:=(c,da C.m c)) (.inr rfl) X (λq y=>z q (qI.2 (.inl y))) g1;exact Lx L (λq y=>z q (qI.2 (.inr y))) g2 x f;cases h
theorem oH{m m':Nat->Option Blk}:∀{cs:List AV},(∀k∈AV.namesL cs,m' k=m k)->Gy m' cs=Gy m cs
 |[],_=>rfl|c::cs,h=>by
  simp only[Gy];have e:da m' c=da m c:=by
   cases c<;>first|rfl|exact h _ (by simp[AV.namesL,AV.names])
  rw[e,oH λk f=>h k (by simp[AV.namesL,f])]
def jM(P:Program)(m:Nat->Option Blk)(t:TypeId)(p v:RV):Option Core:=match p,v.1 with
 |(.ptr nm g i c,some (.var cs)),.agg ds=>match Gy m ds,sizeT P t with
  |some ns,some k=>if k=ds.length/\c+ds.length<=cs.length then
    some {need:=(1=g)::(i=0)::ns,val:=.val undef,upd:=[(nm,.var (cs.take c++ds++cs.drop (c+ds.length)))]} else none
  |_,_=>none
 |_,_=>none
theorem EH(h:aL S σ a w D E){p v:RV}{vp u:Value}
  (hbp:p.2=da σ.m p.1) (hc:jM S.P σ.m t p v=some c) (hn:∀q∈c.need,q)
  (hp:p.1.rel S.P ⟨w,D,σ.m,E⟩ vp) (hv:v.1.rel S.P ⟨w,D,σ.m,E⟩ u):
  c.new=none/\c.val=.val undef/\∃w',(Instr.storeAt t vp u).run S.P w=.ok () w'/\∃D E,aL S ⟨σ.T,upM σ.m c.upd,σ.sv⟩ a w' D E:=by
 unfold jM at hc;split at hc;case h_2=>cases hc
 rename_i _ nm g i c0 cs ds hv1;split at hc;case h_2=>cases hc
 rename_i ns k z hsz;split at hc;case isFalse=>cases hc
 rename_i hk;obtain⟨hk,X⟩:=hk;cases hc;rw[hv1]at hv;obtain⟨us,rfl,g2⟩:=hv;have hm:σ.m nm=some (.var cs):=hbp.symm;have g3:=Lx (C:=⟨w,D,σ.m,E⟩) z (λq hq=>hn q (by simp[hq])) g2;have e1:1=g:=Ob.get hn (by simp);have e2:i=0:=Ob.get hn (by simp);subst e2;obtain⟨_,A,ev⟩:=(hp _ hm).2 e1;have j:(E nm).isNil=false:=A;have ev':vp=.pointer (some ⟨(E nm).b,c0,none⟩):=by rw[ev,xE,zG]
 obtain⟨_,f,el,r1,r2⟩:=h.bl nm _ hm;have G:=AV.relL_length g2;have hl2:=AV.relL_length r2;have hcur:c0+us.length<=f.size:=by
  have hf:=X;rw[G,hl2,vI]at hf;exact hf
 have y:=fB (P:=S.P) (t:=t) (o:=c0) (u:=.agg us.toArray) r1 (by rw[hsz,hk,G]) rfl hcur g3;refine⟨rfl,rfl,w.setRow (E nm).b (f.toList.take c0++us++f.toList.drop (c0+us.length)).toArray,by rw[ev'];exact y,?_⟩;have hes:(Blk.var cs).es=(Blk.var (cs.take c0++ds++cs.drop (c0+ds.length))).es:=by
  simp only[Blk.es,qG,qO,vZ];omega
 refine aL.stored h hm j hes rfl (f.toList.take c0++us++f.toList.drop (c0+us.length)).toArray λC' L N hw=>?_;refine⟨j,(f.toList.take c0++us++f.toList.drop (c0+us.length)).toArray,el,by rw[hw];exact qCe w _ f _ el _ r1,?_⟩;exact BJ (AV.relL_mono L (λk _=>N k) r2) (AV.relL_mono L (λk _=>N k) g2) c0 zoo
theorem um{m m':Nat->Option Blk}{p v:RV}(h:∀k∈v.1.names,m' k=m k):jM P m' t p v=jM P m t p v:=by
 unfold jM;split;rename_i ds f;rw[f]at h;rw[oH (m:=m) (m':=m') (λk j=>h k (by simpa[AV.names]using j))];rfl
def aFi:AV->Bool|.fn _ _=>true|_=>false
def aCF:AV->Bool|.fn _ _=>true|.ip _ _=>true|.ips _=>true|.yld _=>true|_=>false
def Kr(P:Program)(mt:Bool)(nx:Nat)(elem:TypeId)(p:RV):Option Core:=match p.1 with
 |.av ty xs=>match s7 P elem ty with
  |some n=>if mt=true then(if 0<n/\n<=1000000 then some {need:=[Dl xs=n],val:=.ptr nx n 0 0,upd:=[(nx,.buf elem ty xs [])],new:=some nx} else none)
   else some {val:=.ia ty xs}
  |none=>none
 |a=>if mt=false/\aCF a=true then some {val:=.ipv a} else none
variable {elem:TypeId}{mt:Bool}
theorem O5(h:aL S σ a w D E){nx:Nat}{p:RV}
  (hc:Kr S.P mt nx elem p=some c) (hn:∀q∈c.need,q) (hu:∀k,c.new=some k->Unm k σ) (z:p.1.rel S.P ⟨w,D,σ.m,E⟩ v):
  ∃r w',(Instr.box elem v).run S.P w=.ok r w'/\Outcome S ⟨σ.T,upM σ.m c.upd,σ.sv⟩ a c.val r w':=by
 have run:∀us:Lv,v.cells=us.toArray->(Instr.box elem v).run S.P w=.ok (.pointer (some ⟨w.heap.size,0,none⟩)) (w.alloc (.cells us.toArray elem)):=by
  intro us L;simp[Instr.box,newVar,newRow,L]
 have cellAt:∀(us:Lv),cO (w.alloc (.cells us.toArray elem)) w.heap.size 0 us:=λus j u G=>by
  rw[zG];show(w.alloc _).cell? ⟨w.heap.size,j,none⟩=some u;rw[kN];simpa using G
 unfold Kr at hc;split at hc;rename_i ty xs X;rw[X]at z;obtain⟨us,rfl,g⟩:=z;have f:=g.1;split at hc;case h_2=>cases hc
 rename_i n hn1;split at hc;split at hc;case isFalse=>cases hc
 rename_i hk;obtain⟨k0,k1⟩:=hk;cases hc;have e3:xs.length=n:=Ob.get hn (by simp);subst e3;have e4:upE E nx (⟨w.heap.size,xs.length,false,noR⟩:Ent) nx=⟨w.heap.size,xs.length,false,noR⟩:=by simp[upE]
 refine⟨_,_,run us rfl,D,upE E nx ⟨w.heap.size,xs.length,false,noR⟩,h.newBlk (hu nx rfl) (oW w _) (λ_=>⟨rfl,by rw[qH];simp⟩)
  ⟨us,⟨f,.inr ⟨w.heap.size,xs.length,us.toArray,?_,wK _,?_,qL _,?_,?_,?_⟩⟩,?_⟩,λb hb=>?_⟩
 simp[Ent.handle];show(w.heap.push _)[w.heap.size]?=_;simp;unfold maxLen;omega;rw[<- vI];exact f;show us.take (xs.length*ty.sz)=us;rw[<- f,kY];exact me (uI (λ_ g=>g) (λb hb=>kF w _ b (h.dlt b hb)) g);replace hb:upM σ.m [(nx,.buf elem ty xs [])] nx=some b:=hb;rw[dR,if_pos rfl]at hb;cases hb;refine⟨qL _,λ_=>⟨k0,?_,?_⟩⟩;show(upE E nx _ nx).isNil=false;rw[e4];show _=Value.pointer (some ⟨(upE E nx _ nx).b,_,none⟩);rw[e4];simp;cases hc;refine⟨_,_,run us rfl,λb=>D b\/b=w.heap.size,E,h.newData _,w.heap.size,0,rfl,some ⟨w.heap.size,0,none⟩,xs.length,rfl,qL _,(λh=>by cases h),(λad had _=>by cases had;rfl),λi y hy=>?_⟩;refine⟨_,_,rfl,.inr rfl,?_,au (λb hb=>.inl hb) (λb hb=>kF w _ b (h.dlt b hb)) (g.2 i y hy)⟩;intro j u G;rw[vV]at G;split at G;rw[vF]at G;have:=cellAt us (i*ty.sz+j) u G;rw[zG]at this;show(w.alloc _).cell? ⟨w.heap.size,0+i*ty.sz+j,none⟩=some u;rw[zG];exact this;cases G
 .split at hc;case isFalse=>cases hc
  rename_i hk;obtain⟨_,hf⟩:=hk;cases hc;have A:v.cells=#[v]:=by
   cases hq:p.1<;>rw[hq]at hf<;>first|cases hf|skip
   all_goals rw[hq]at z
   obtain⟨_,_,_,rfl,_⟩:=z;rfl;obtain⟨us,rfl,_⟩:=z;rfl;obtain⟨_,_,_,rfl,_⟩:=z;rfl;have z:v=_:=z;subst z;rfl
  refine⟨_,_,run [v] A,λb=>D b\/b=w.heap.size,E,h.newData _,w.heap.size,0,v,rfl,.inr rfl,?_,?_⟩;show(w.alloc _).cell? ⟨w.heap.size,0,none⟩=some v;rw[kN];rfl;refine AV.rel_mono (C:=⟨w,D,σ.m,E⟩) (C':=⟨w.alloc (.cells [v].toArray elem),λb=>D b\/b=w.heap.size,σ.m,E⟩) ⟨λb hb=>.inl hb,λb hb=>kF w _ b (h.dlt b hb)⟩ (λnm _ b' hb'=>⟨b',hb',rfl,qL _,λ_=>rfl⟩) z
def rI(P:Program)(m:Nat->Option Blk)(mt:Bool)(elem:TypeId)(p:AV):Option Core:=match p with
 |.agg cs=>if mt=false/\PZ P elem=none then match Gy m cs with
  |some ns=>some {need:=ns,val:=.ips cs}|none=>none
  else none
 |.ptr nm 1 0 0=>if mt=false then match m nm with
  |some (.var _)=>some {val:=.ipv (.ptr nm 1 0 0)}|_=>none
  else none
 |_=>none
theorem O4(h:aL S σ a w D E){p:AV}
  (hc:rI S.P σ.m mt elem p=some c) (y:p.rel S.P ⟨w,D,σ.m,E⟩ v):
  ∃r w',(Instr.box elem v).run S.P w=.ok r w'/\Outcome S ⟨σ.T,upM σ.m c.upd,σ.sv⟩ a c.val r w':=by
 have key:∀(us:Lv) (cs:List AV) (x:AV),v.cells=us.toArray->AV.relL S.P ⟨w,D,σ.m,E⟩ cs us->(∀C b,C.D b->cO C.w b 0 us->AV.relL S.P C cs us->x.rel S.P C (.pointer (some ⟨b,0,none⟩)))->
   ∃r w',(Instr.box elem v).run S.P w=.ok r w'/\Outcome S ⟨σ.T,upM σ.m [],σ.sv⟩ a x r w':=by
  intro us cs x f g hx;have run:(Instr.box elem v).run S.P w=.ok (.pointer (some ⟨w.heap.size,0,none⟩)) (w.alloc (.cells us.toArray elem)):=by
   simp[Instr.box,newVar,newRow,f]
  refine⟨_,_,run,λb=>D b\/b=w.heap.size,E,h.newData _,hx _ _ (.inr rfl) ?_ ?_⟩;intro j u hj;rw[zG];show(w.alloc _).cell? ⟨w.heap.size,j,none⟩=some u;rw[kN];simpa using hj;exact AV.relL_mono (C:=⟨w,D,σ.m,E⟩) (C':=⟨w.alloc (.cells us.toArray elem),λb=>D b\/b=w.heap.size,σ.m,E⟩) ⟨λb hb=>.inl hb,λb hb=>kF w _ b (h.dlt b hb)⟩ (λnm _ b' z=>⟨b',z,rfl,qL _,λ_=>rfl⟩) g
 unfold rI at hc;split at hc;rename_i cs;split at hc;case isFalse=>cases hc
 split at hc;case h_2=>cases hc
 cases hc;obtain⟨us,rfl,g⟩:=y;exact key us cs (.ips cs) rfl g λC b L G A=>⟨b,0,us,rfl,L,G,A⟩;rename_i nm;split at hc;case isFalse=>cases hc
 split at hc;case h_2=>cases hc
 rename_i bl hm;cases hc;obtain⟨_,_,hv⟩:=(y _ hm).2 rfl;refine key [v] [.ptr nm 1 0 0] _ (by rw[hv];rfl) ⟨v,[],rfl,y,rfl⟩ λC b L G A=>⟨b,0,v,rfl,L,G 0 v rfl,?_⟩;obtain⟨u,X,e,g,_⟩:=A;cases e;exact g;cases hc
theorem DG{m m':Nat->Option Blk}{p:AV}(h:∀k∈p.names,m' k=m k):rI P m' mt elem p=rI P m mt elem p:=by
 unfold rI;split;rw[oH (m:=m) (m':=m') λk f=>h k (by simpa[AV.names]using f)];rw[h _ (by simp[AV.names])];rfl
def CG(P:Program)(t:TypeId)(x i:AV):Option Core:=match P.underlying t,i with
 |some (.array n e),.dat (.int _) i=>match x with
  |.av ty xs=>if sizeT P e=some ty.sz then match ga P e with
    |some true=>some {need:=[Dp 0 i,Dq i (Ec n),Dl xs=n],val:=.agg (cellsOf ty (Dw xs (Dc i) ty.dflt))}|some false=>if ty.sz=1 then some {need:=[Dp 0 i,Dq i (Ec n),Dl xs=n],val:=.dat ty (Dw xs (Dc i) ty.dflt)} else none|none=>none
   else match s7 P e ty with|some m=>some {need:=[Dp 0 i,Dq i (Ec n),Dl xs=Em n m],val:=.av ty (Ez xs (Em (Dc i) m) m)}|none=>none
  |.agg cs=>if sizeT P e=some 1/\ga P e=some false/\cs.length=n then some {need:=[Dp 0 i,Dq i (Ec n)],val:=.sel i cs} else none|_=>none
 |_,_=>none
variable {cs:Array Value}
theorem iJ{t e:TypeId}{n:Nat}{k:IntKind}{i:Int}{sz:Nat}(f:P.underlying t=some (.array n e))(h:sizeT P e=some sz)(u:0<=i)(j:i<n):
  (Instr.index t (.agg cs) (.int k i)).run P w=(part e cs (i.toNat*sz)).run P w:=by
 simp[Instr.index,asIntOf,vH f,u,j,bB h w]
variable {e:TypeId}
theorem rT{sz off:Nat}(h:ga P e=some true)(f:sizeT P e=some sz):(part e cs off).run P w=.ok (.agg (cs.extract off (off+sz))) w:=by
 simp[part,jP h w,bB f w]
theorem dj{off:Nat}(h:ga P e=some false)(f:cs[off]?=some v):(part e cs off).run P w=.ok v w:=by
 simp[part,jP h w,f]
theorem Oy{m:Nat}{X:TypeId}(h:P.underlying e=some (.array m X)):ga P e=some true:=by
 unfold ga;rw[h]
theorem JS{x i:AV}{v vi:Value}(hc:CG P t x i=some c)(h:∀q∈c.need,q)
  (hx:x.rel P C v) (hi:i.rel P C vi):∃r,(Instr.index t v vi).run P w=.ok r w/\c.val.rel P C r/\c.upd=[]/\c.new=none:=by
 unfold CG at hc;split at hc;case h_2=>cases hc
 rename_i n e k i0 hu;simp only[AV.rel,ae,vG,vY]at hi;subst hi;obtain⟨i,rfl⟩:∃j:Int,(j:(Ty.int k).den)=i0:=⟨i0,rfl⟩;split at hc;rename_i ty xs;obtain⟨us,rfl,g1,g2⟩:=hx;split at hc;rename_i G;have elem:0<=i->i<(n:Int)->xs.length=n->ae C.w C.D ty (xs.getD i.toNat ty.dflt) ((us.drop (i.toNat*ty.sz)).take ty.sz):=λA z h2=>g2 i.toNat _ (getElem?_getD zoo);split at hc;rename_i ha;cases hc;have A:0<=i:=Ob.get h (by simp);have z:i<(n:Int):=Ob.get h (by simp);have h2:xs.length=n:=Ob.get h (by simp);refine⟨_,by rw[iJ hu G A z,rT ha G],⟨(us.drop (i.toNat*ty.sz)).take ty.sz,?_,b8 (elem A z h2)⟩,rfl,rfl⟩;congr 1;apply yR;simp[List.take_drop,qBv];rename_i ha;split at hc;case isFalse=>cases hc
 rename_i h1z;cases hc;have A:0<=i:=Ob.get h (by simp);have z:i<(n:Int):=Ob.get h (by simp);have h2:xs.length=n:=Ob.get h (by simp);have X:=elem A z h2;have L:=(aS X).trans h1z;obtain⟨u,hu1⟩:=kK.1 L;rw[hu1]at X;refine⟨u,?_,X,rfl,rfl⟩;rw[iJ hu G A z];refine dj ha ?_;have:((us.drop (i.toNat*ty.sz)).take ty.sz)[0]?=some u:=by rw[hu1];rfl
 rw[vV,if_pos (Ty.sz_pos ty),vF]at this;simpa using this;cases hc;split at hc;rename_i m hm;cases hc;obtain⟨⟨m',e',hue⟩,G⟩:=oU hm;have A:0<=i:=Ob.get h (by simp);have z:i<(n:Int):=Ob.get h (by simp);have h2:xs.length=n*m:=Ob.get h (by simp);have hin:i.toNat*m+m<=xs.length:=by
  rw[h2];have:=wM m (show i.toNat+1<=n by omega);rw[zT,yA]at this;exact this
 refine⟨_,by rw[iJ hu G A z,rT (Oy hue) G],⟨(us.drop (i.toNat*(m*ty.sz))).take (m*ty.sz),?_,?_,λq y hy=>?_⟩,rfl,rfl⟩;congr 1;apply yR;simp[List.take_drop,qBv];have e1:i.toNat*(m*ty.sz)=i.toNat*m*ty.sz:=(qDh _ _ _).symm;have e2:=wM ty.sz hin;rw[zT]at e2;simp only[Ez,Em,Dc,qO,vZ];rw[g1,e1,kH zoo,kH zoo];have f:(List.take m (xs.drop (i.toNat*m)))[q]?=some y:=hy;rw[vV]at f;split at f;case isFalse=>cases f
 rename_i hq;rw[vF]at f;have X:=g2 _ y f;have e1:(i.toNat*m+q)*ty.sz=i.toNat*(m*ty.sz)+q*ty.sz:=by rw[zT,qDh]
 rw[e1,<- yU]at X;have e2:((us.drop (i.toNat*(m*ty.sz))).take (m*ty.sz)).drop (q*ty.sz)=((us.drop (i.toNat*(m*ty.sz))).drop (q*ty.sz)).take (m*ty.sz-q*ty.sz):=qCd;rw[e2,qCc];have e3:ty.sz<=m*ty.sz-q*ty.sz:=by
  have:=wM ty.sz (show q+1<=m from hq);rw[zT,yA]at this;omega
 rw[kH e3];exact X;cases hc;rename_i cs;split at hc;case isFalse=>cases hc
 rename_i hk;obtain⟨G,ha,hl⟩:=hk;cases hc;have A:0<=i:=Ob.get h (by simp);have z:i<(n:Int):=Ob.get h (by simp);obtain⟨us,rfl,g⟩:=hx;have L:=AV.relL_length g;have hlt:i.toNat<us.length:=zoo;refine⟨us[i.toNat],?_,⟨us,g,qB hlt⟩,rfl,rfl⟩;rw[iJ hu G A z,xI];exact dj ha (by simp[hlt]);cases hc
def WY(P:Program)(t:TypeId):Bool:=match P.underlying t with|some (.int .u8)=>true|_=>false
theorem MP(h:WY P t=true):P.underlying t=some (.int .u8):=by
 unfold WY at h;split at h;assumption;cases h
def TV(P:Program)(s d:TypeId)(a:AV):Option Core:=match a with
 |.dat .str x=>match P.underlying s,eH P d with
  |some .string,some e=>if WY P e=true then some {val:=.dat (.sl (.int .u8)) (Fv x)} else none|_,_=>none
 |.dat (.sl (.int .u8)) xs=>match eH P s,P.underlying d with
  |some e,some .string=>if WY P e=true then some {val:=.dat .str (Gt xs)} else none|_,_=>none
 |_=>none
theorem TU(h:aL S σ a w D E){s d:TypeId}{x:AV}
  (hc:TV S.P s d x=some c) (hx:x.rel S.P ⟨w,D,σ.m,E⟩ v):
  ∃r w',(convert s d v).run S.P w=.ok r w'/\Outcome S ⟨σ.T,upM σ.m c.upd,σ.sv⟩ a c.val r w':=by
 unfold TV at hc;split at hc;rename_i x;simp only[AV.rel,ae,vG,vY]at hx;subst hx;split at hc;case h_2=>cases hc
 rename_i e hs hd;split at hc;case isFalse=>cases hc
 rename_i he;cases hc;have L:=MP he;have G:=Go.Lib.bytesWorld_size w e x;have hbel:Below w.heap.size w (Go.Lib.bytesWorld w e x):=⟨by simp[Go.Lib.bytesWorld,World.freeze,World.alloc,World.drew,-World.alloc_eq,-World.drew_eq],by simp[Go.Lib.bytesWorld,World.freeze,World.alloc,World.drew,-World.alloc_eq,-World.drew_eq],
  by simp[Go.Lib.bytesWorld,World.freeze,World.alloc,World.drew,-World.alloc_eq,-World.drew_eq],by rw[G];omega,λk hk=>Go.Lib.bytesWorld_at_old w e x k hk⟩
 have A:(Fv x).length=x.size:=by
  show(List.map _ x.data.toList).length=x.data.size;rw[vX,vI]
 refine⟨_,_,Go.Lib.run_convert_string_bytes (P:=S.P) w s d e x hs (dz hd) L,λb=>D b\/b=w.heap.size,E,?_,some ⟨w.heap.size,0,none⟩,grownCap w x.size 0 e,?_,?_,(λh=>by cases h),(λX had _=>by cases had;rfl),λi y hy=>?_⟩;refine h.world hbel (λb=>⟨λhb=>?_,λhb=>?_⟩) (λb hb=>?_);rcases hb with g|g;exact .inl g;exact .inr ⟨⟨zoo,by rw[G];omega⟩,.inr g⟩;rcases hb with g|g;exact .inl g;exact g.2;rcases hb with g|g;have:=h.dlt b g;rw[G];omega;rw[G];omega;rw[A];rw[A];exact grownCap_ge w _ 0 e;have hi:i<x.size:=by have:=(qC.1 hy).1;rwa [A]at this
 refine⟨_,[.int .u8 y],rfl,.inr rfl,λj u hj=>?_,rfl⟩;cases j with
 |succ j=>simp at hj|zero=>
  simp only[xK,vT]at hj;subst hj;show(Go.Lib.bytesWorld w e x).cell? ⟨w.heap.size,0+i*1+0,none⟩=_;rw[show 0+i*1+0=i by omega,Go.Lib.bytesWorld_cell w e x i hi];have f:(List.map (λb:UInt8=>(b.toNat:Int)) x.data.toList)[i]?=some y:=hy;rw[qQ]at f;cases hq:x.data.toList[i]? with
  |none=>rw[hq]at f;cases f
  |some b=>
   rw[hq]at f;simp only[zZ,vT]at f;rw[<- f];simp[List.getD,hq]
 rename_i xs;split at hc;case h_2=>cases hc
 rename_i e hs hd;split at hc;case isFalse=>cases hc
 rename_i he;cases hc;have L:=MP he;obtain⟨ao,cap,h1,_,_,h4,h5⟩:=hx;simp only[vG,vY]at h1;subst h1;refine⟨.string (strOfNums xs),w,?_,D,E,h,rfl⟩;cases xs with
 |nil=>
  rw[run_convert_bytes_string w s d e ao _ cap (dz hs) L hd];cases ao with
  |none=>simp[Conv.bytesToString];rfl|some X=>
   have hl:(loadCells X 0).run S.P w=.ok #[] w:=by
    have:=qCf (P:=S.P) w X [] (λj v hj=>by simp at hj);simpa using this
   rw[yZ,run_bytesToString w X 0 cap [] (by simpa using hl)];rfl
 |cons y ys=>
  obtain⟨X,ue,g1,_,_,_⟩:=h5 0 y rfl;subst g1;have z:=h4 X rfl (by simp);obtain⟨bl,off,sp⟩:=X;simp only at z;subst z;refine run_convert_bytes_arg w s e (dz hs) L bl off _ cap (y::ys) rfl (λi hi=>?_) d hd;obtain⟨a2,ue2,q1,_,q3,q4⟩:=h5 i _ (qB hi);cases q1;simp only[ae]at q4;subst q4;have:=q3 0 _ rfl;simp only[xZ,Ty.sz,xI]at this;rw[this];simp[List.getD,qB hi]
 cases hc
def mI(P:Program):List Field->List AV->Nat->List AV->Option Bool
 |[],_,_,_=>some true|f::fs,cs,off,ds=>if f.name ≠ "_" /\ f.offset=off then match P.underlying f.type,cs,ds with
   |some (.int _),.dat (.int k1) x::cs,.dat (.int k2) y::ds=>if k1=k2 then(match mI P fs cs (off+1) ds with|some r=>some (Dh (Ed x y) r)|none=>none)else none
   |some .string,.dat .str x::cs,.dat .str y::ds=>match mI P fs cs (off+1) ds with|some r=>some (Dh (Gf x y) r)|none=>none
   |some .bool,.dat .bool x::cs,.dat .bool y::ds=>match mI P fs cs (off+1) ds with|some r=>some (Dh (Ew x y) r)|none=>none
   |_,_,_=>none
  else none
theorem mH{P : Program}{C : Ctx}{w : World}{d : Nat}{X Y : Array Value}:∀ {fs : List Field}{cs ds : List AV}{off : Nat}{r : Bool}{us vs : Lv},mI P fs cs off ds = some r →
    AV.relL P C cs us → AV.relL P C ds vs → X.toList.drop off = us → Y.toList.drop off = vs → (Op.eqFields (d + 1) X Y fs).run P w = .ok r w
  |[],_,_,_,_,_,_,h,_,_,_,_ =>by cases h; simp [Op.eqFields]
  |f :: fs,cs,ds,off,r,us,vs,h,h1,h2,h3,h4 =>by
    unfold mI at h;split at h;case isFalse =>cases h
    rename_i hf;obtain ⟨hf1,hf2⟩ := hf;have at_ : ∀ {Z : Array Value}{z : Value}{zs : Lv},Z.toList.drop off = z :: zs → Z[f.offset]? = some z ∧ Z.toList.drop (off + 1) = zs := fun {Z z zs} e =>by
      constructor
      · have : (Z.toList.drop off)[0]? = some z := by rw [e]; rfl
        rw [vF] at this;rw [hf2]; simpa using this
      · rw [← yU,e]; rfl
    split at h
    · rename_i k k1 x cs k2 y ds hu
      split at h;case isFalse =>cases h
      rename_i hk;subst hk;split at h;case h_2 =>cases h
      rename_i r' hr;cases h;obtain ⟨u,us',e1,q1,q2⟩ := h1;obtain ⟨v,vs',e2,q3,q4⟩ := h2;simp only [AV.rel,ae,vG,vY] at q1 q3;subst q1 q3;obtain ⟨x1,x2⟩ := at_ (h3.trans e1);obtain ⟨y1,y2⟩ := at_ (h4.trans e2);have ih := mH (w := w) (d := d) hr q2 q4 x2 y2;have ha : ga P f.type = some false := by unfold ga; rw [hu]
      rw [Op.eqFields,if_pos hf1];simp only [wO,dj ha x1,dj ha y1,wB,run_equalIn_int w d f.type k1 k x y hu];by_cases hxy : (x == y) = true
      · simp only [hxy,yV,wF,xM,ih,Dh,Ed,yC]
      · simp only [qAh] at hxy
        simp [hxy,Dh,Ed]
    · rename_i x cs y ds hu
      split at h;case h_2 =>cases h
      rename_i r' hr;cases h;obtain ⟨u,us',e1,q1,q2⟩ := h1;obtain ⟨v,vs',e2,q3,q4⟩ := h2;simp only [AV.rel,ae,vG,vY] at q1 q3;subst q1 q3;obtain ⟨x1,x2⟩ := at_ (h3.trans e1);obtain ⟨y1,y2⟩ := at_ (h4.trans e2);have ih := mH (w := w) (d := d) hr q2 q4 x2 y2;have ha : ga P f.type = some false := by unfold ga; rw [hu]
      rw [Op.eqFields,if_pos hf1];simp only [wO,dj ha x1,dj ha y1,wB,run_equalIn_string w d f.type x y hu];by_cases hxy : (x.toList == y.toList) = true
      · simp only [hxy,yV,wF,xM,ih,Dh,Gf,yC]
      · simp only [qAh] at hxy
        simp [hxy,Dh,Gf]
    · rename_i x cs y ds hu
      split at h;case h_2 =>cases h
      rename_i r' hr;cases h;obtain ⟨u,us',e1,q1,q2⟩ := h1;obtain ⟨v,vs',e2,q3,q4⟩ := h2;simp only [AV.rel,ae,vG,vY] at q1 q3;subst q1 q3;obtain ⟨x1,x2⟩ := at_ (h3.trans e1);obtain ⟨y1,y2⟩ := at_ (h4.trans e2);have ih := mH (w := w) (d := d) hr q2 q4 x2 y2;have ha : ga P f.type = some false := by unfold ga; rw [hu]
      rw [Op.eqFields,if_pos hf1];simp only [wO,dj ha x1,dj ha y1,wB,run_equalIn_bool' w d f.type x y hu];by_cases hxy : (x == y) = true
      · simp only [hxy,yV,wF,xM,ih,Dh,Ew,yC]
      · simp only [qAh] at hxy
        simp [hxy,Dh,Ew]
    · cases h
end Go.Eng
namespace Go.Eng
open Go.RowKit
def B7(P:Program)(t:TypeId)(p:RV):Option Core:=if ga P t=some false then match p with|(.ptr nm g i 0,some (.mat _ _ _ xss []))=>some {need:=[Dl xss=g],val:=.row nm g i (Dl (Dw xss i []))}|(.ptr _ g i 0,some (.mat _ _ _ xss [(j,v)]))=>some {need:=[Dl xss=g,i=j],val:=v}|(.rptr _ g i k j,some (.mat _ _ e xss []))=>some {need:=[Dl xss=g,Dl (Dw xss i [])=k],val:=.dat e (Dw (Dw xss i []) j e.dflt)}|_=>none else none
variable {w:World}{t:TypeId}
theorem lg{P:Program}{bl off:Nat}{u:Value}(f:ga P t=some false)(h:w.cell? ⟨bl,off,none⟩=some u):
  (Instr.loadAt t (.pointer (some ⟨bl,off,none⟩))).run P w=.ok u w:=by
 simp[Instr.loadAt,Instr.sureAddr,loadVar,jP f,h]
theorem aL.matCells{S:Base}{σ:Sig}{a:Act}{w:World}{D:Nat->Prop}{E:Nat->Ent}(h:aL S σ a w D E){nm:Nat}{el j:TypeId}{e:Ty}{xss:List (List e.den)}{ov:List (Nat×AV)}(hm:σ.m nm=some (.mat el j e xss ov))(f:(E nm).isNil=false):
  e.sz=1/\∃raw,w.ownsRow 0 el 1 (.slice (some ⟨(E nm).b,0,none⟩) xss.length (E nm).cap) xss.length raw/\Y9 S.P 0 ⟨w,D,σ.m,E⟩ (E nm) j e xss ov raw:=by
 obtain⟨y,raw,u,r2⟩:=h.bl nm _ hm;have z:(E nm).handle xss.length=.slice (some ⟨(E nm).b,0,none⟩) xss.length (E nm).cap:=by unfold Ent.handle;rw[f];rfl
 rw[z]at u;exact⟨y,raw,u,r2⟩
theorem Jj{P:Program}{C:Ctx}{e:Ty}{row:List e.den}{raw:Lv}(h:bX P C e row [] raw)(z:e.sz=1)(L:raw.length=row.length*1){j:Nat}(A:j<row.length)(d:e.den):∃u,raw[j]?=some u/\ae C.w C.D e (row.getD j d) [u]:=by
 have y:=h j _ (getElem?_getD (d:=d) A);simp only[List.lookup]at y;have f:j<raw.length:=Z;refine⟨raw[j],qB f,?_⟩;have G:(raw.drop (j*e.sz)).take e.sz=[raw[j]]:=by
  rw[z,xI];apply wQ;intro q;rw[vV];cases q with
  |zero=>simp[f]|succ q=>simp
 rw[G]at y;exact y
variable {c:Core}{S:Base}{D:Nat->Prop}{a:Act}{E:Nat->Ent}{σ:Sig}
theorem JC(h:aL S σ a w D E){p:RV}{v:Value}
  (hb:p.2=da σ.m p.1) (hc:B7 S.P t p=some c) (X:∀q∈c.need,q) (hp:p.1.rel S.P ⟨w,D,σ.m,E⟩ v):
  ∃r,(Instr.loadAt t v).run S.P w=.ok r w/\c.val.rel S.P ⟨w,D,σ.m,E⟩ r/\c.upd=[]/\c.new=none:=by
 unfold B7 at hc;split at hc;case isFalse=>cases hc
 rename_i ha;split at hc;rename_i nm g i el f e xss;cases hc;have hm:σ.m nm=some (.mat el f e xss []):=hb.symm;have G:xss.length=g:=Ob.get X (by simp);obtain⟨q1,A,L⟩:=(hp _ hm).2 G;have A:(E nm).isNil=false:=A;obtain⟨hz,raw,r1,r2⟩:=h.matCells hm A;have hi:i<xss.length:=Z;obtain⟨u,g1,g2⟩:=r2 i _ (getElem?_getD (d:=[]) hi);simp only[List.lookup]at g2;have y:v=.pointer (some ⟨(E nm).b,i,none⟩):=by
  rw[L];show Value.pointer (some ⟨(E nm).b,i*1+0,none⟩)=_;rw[xI,xZ]
 rw[y];refine⟨u,lg ha (by rw[r1.cellAt i Z];exact g1),λb hb'=>?_,rfl,rfl⟩;have eb:b=.mat el f e xss []:=wE (hb'.symm.trans hm);subst eb;obtain⟨ao,cap,r3,k1,_,k2⟩:=g2;exact⟨yK G.symm,λ_=>⟨ao,cap,k1,λhp0=>(k2 hp0).1⟩⟩;rename_i nm g i el f e xss j av;cases hc;have hm:σ.m nm=some (.mat el f e xss [(j,av)]):=hb.symm;have G:xss.length=g:=Ob.get X (by simp);have e2:i=j:=Ob.get X (by simp);subst e2;obtain⟨q1,A,L⟩:=(hp _ hm).2 G;have A:(E nm).isNil=false:=A;obtain⟨hz,raw,r1,r2⟩:=h.matCells hm A;have hi:i<xss.length:=Z;obtain⟨u,g1,g2⟩:=r2 i _ (getElem?_getD (d:=[]) hi);simp only[List.lookup,xY]at g2;have y:v=.pointer (some ⟨(E nm).b,i,none⟩):=by
  rw[L];show Value.pointer (some ⟨(E nm).b,i*1+0,none⟩)=_;rw[xI,xZ]
 rw[y];exact⟨u,lg ha (by rw[r1.cellAt i Z];exact g1),g2.2,rfl,rfl⟩;rename_i nm g i k j el f e xss;cases hc;have hm:σ.m nm=some (.mat el f e xss []):=hb.symm;have G:xss.length=g:=Ob.get X (by simp);have e2:(xss.getD i []).length=k:=Ob.get X (by simp);obtain⟨q1,L⟩:=(hp _ hm).2 G;have hi:i<xss.length:=by
  rcases wW i xss.length with g|g;exact g;rw[qA,wZ g]at e2;simp at e2;omega
 obtain⟨hz,raw,r1,r2⟩:=h.bl nm _ hm;obtain⟨u,g1,g2⟩:=r2 i _ (getElem?_getD (d:=[]) hi);simp only[List.lookup]at g2;obtain⟨ao,cap,r3,k1,_,k2⟩:=g2;have hjl:j<(xss.getD i []).length:=by rw[e2];exact q1
 obtain⟨k3,k4,k5⟩:=k2 Z;subst k3;rw[k1]at k4;obtain⟨z,z1,z2⟩:=Jj k5 hz k4.1 hjl e.dflt;rw[L];exact⟨z,lg ha (by rw[k4.cellAt j Z];exact z1),z2,rfl,rfl⟩;cases hc
def wv(P:Program)(t:TypeId)(p:RV)(i:AV):Option Core:=match eH P t,i with
 |some e,.dat (.int _) i=>if sizeT P e=some 1 then match p with
  |(.buf nm n,some (.mat _ _ _ xss _))=>some (tr nm n (Dl xss) i)|(.row nm g r k,some (.mat _ _ _ xss _))=>some {need:=[Dl xss=g,0<=i,i<(k:Int)],val:=.rptr nm g r k (Dc i)}|_=>none
  else none
 |_,_=>none
theorem HM(h:aL S σ a w D E){p:RV}{i:AV}{v vi:Value}
  (hb:p.2=da σ.m p.1) (hc:wv S.P t p i=some c) (G:∀q∈c.need,q) (hp:p.1.rel S.P ⟨w,D,σ.m,E⟩ v) (hi:i.rel S.P ⟨w,D,σ.m,E⟩ vi):
  ∃r,(Instr.indexAt t v vi).run S.P w=.ok r w/\c.val.rel S.P ⟨w,D,σ.m,E⟩ r/\c.upd=[]/\c.new=none:=by
 unfold wv at hc;split at hc;case h_2=>cases hc
 rename_i e k i he;have hu:=dz he;simp only[AV.rel,ae,vG,vY]at hi;subst hi;split at hc;case isFalse=>cases hc
 rename_i hs;have L:=bB hs w;obtain⟨i,rfl⟩:∃j:Int,j=i:=⟨i,rfl⟩;split at hc;rename_i nm n el u e' xss ov;cases hc;have hm:σ.m nm=some (.mat el u e' xss ov):=hb.symm;have f:xss.length=n:=Ob.get G (by simp[tr]);have h0:(0:Int)<=i:=Ob.get G (by simp[tr]);have h1:i<(xss.length:Int):=Ob.get G (by simp[tr]);obtain⟨g1,g2⟩:=hp _ hm;have e2:=g2 f;have y:(E nm).isNil=false:=by
  cases hq:(E nm).isNil with
  |false=>rfl|true=>
   obtain⟨_,raw,r1,r2⟩:=h.bl nm _ hm;have e3:(E nm).handle xss.length=.slice none 0 0:=by unfold Ent.handle;rw[hq];rfl
   rw[e3]at r1;rcases r1.2 with⟨_,hz⟩|⟨g,cap,cur,A,_⟩;omega;cases A
 have e3:(E nm).handle n=.slice (some ⟨(E nm).b,0,none⟩) n (E nm).cap:=by unfold Ent.handle;rw[y];rfl
 have e4:v=.slice (some ⟨(E nm).b,0,none⟩) n (E nm).cap:=e2.trans e3;subst e4;have h1':i<(n:Int):=by rw[<- f];exact h1
 refine⟨.pointer (some ⟨(E nm).b,i.toNat*1,none⟩),?_,λb' z=>?_,rfl,rfl⟩;simp[Instr.indexAt,asIntOf,vH hu,h0,h1',L,xR];have eb:b'=.mat el u e' xss ov:=wE (z.symm.trans hm);subst eb;exact⟨yK f.symm,λ_=>⟨(by have h9:i<(n:Int):=h1';exact(show i.toNat<n by omega)),y,by simp[Blk.es]⟩⟩;rename_i nm g r kk el u e' xss ov;cases hc;have hm:σ.m nm=some (.mat el u e' xss ov):=hb.symm;have f:xss.length=g:=Ob.get G (by simp);have h0:(0:Int)<=i:=Ob.get G (by simp);have h1:i<(kk:Int):=Ob.get G (by simp);obtain⟨ao,cap,A,X⟩:=(hp _ hm).2 f;have hao:=X Z;rw[hao]at A;have A:v=.slice (some ⟨((E nm).rb r).1,0,none⟩) kk cap:=A;subst A;refine⟨.pointer (some ⟨((E nm).rb r).1,i.toNat*1,none⟩),?_,λb' z=>?_,rfl,rfl⟩;simp[Instr.indexAt,asIntOf,vH hu,h0,h1,L,xR];have eb:b'=.mat el u e' xss ov:=wE (z.symm.trans hm);subst eb;exact⟨yK f.symm,λ_=>⟨(show i.toNat<kk by omega),by rw[xI]⟩⟩;cases hc
def uo(P:Program)(t:TypeId)(p v:RV):Option Core:=match Jq v,sizeT P t with
 |some ns,some 1=>if MQ v.1=false then match p with
  |(.ptr nm g i 0,some (.mat el eli e xss []))=>some {need:=(Dl xss=g)::ns,val:=.val undef,upd:=[(nm,.mat el eli e xss [(i,v.1)])]}|(.rptr nm g i k j,some (.mat el eli e xss []))=>match v.1.qz e with
   |some y=>some {need:=(Dl xss=g)::(Dl (Dw xss i [])=k)::ns,val:=.val undef,upd:=[(nm,.mat el eli e (Ep (α:=List e.den) xss i (Ep (Dw xss i []) j y)) [])]}|none=>none
  |_=>none
  else none
 |_,_=>none
theorem aL.turnRow{S:Base}{σ:Sig}{a:Act}{w:World}{D:Nat->Prop}{E:Nat->Ent}(h:aL S σ a w D E){nm i:Nat}{el y:TypeId}{e:Ty}{xss:List (List e.den)}(hm:σ.m nm=some (.mat el y e xss []))(hi:i<xss.length)(hp:0<(xss.getD i []).length)
  {row:List e.den} (hl:row.length=(xss.getD i []).length) (cs:Array Value)
  (hrow:∀C',Later ⟨w,D,σ.m,E⟩ C'->C'.w=w.setRow ((E nm).rb i).1 cs->∀u,IN S.P 0 ⟨w,D,σ.m,E⟩ (E nm) y e i (xss.getD i []) u->IN S.P 0 C' (E nm) y e i row u):
  aL S ⟨σ.T,upM σ.m [(nm,.mat el y e (Ep (α:=List e.den) xss i row) [])],σ.sv⟩ a (w.setRow ((E nm).rb i).1 cs) D E:=by
 have hat:cC σ.m E nm i ((E nm).rb i).1:=⟨el,y,e,xss,[],xss.getD i [],hm,rfl,getElem?_getD hi,hp,rfl⟩;obtain⟨o1,o2,o3⟩:=h.pv.own _ _ _ hat;have other:∀k,k≠((E nm).rb i).1->(w.setRow ((E nm).rb i).1 cs).heap[k]?=w.heap[k]?:=λk z=>setRow_other w _ k cs z;have old:∀k f,upM σ.m [(nm,.mat el y e (Ep (α:=List e.den) xss i row) [])] k=some f->(k=nm/\f=.mat el y e (Ep (α:=List e.den) xss i row) [])\/(k≠nm/\σ.m k=some f):=λk f z=>by
  rw[dR]at z;split at z;rename_i ek;cases z;exact .inl ⟨ek,rfl⟩;rename_i ek;exact .inr ⟨ek,z⟩
 have L:Later ⟨w,D,σ.m,E⟩ ⟨w.setRow ((E nm).rb i).1 cs,D,upM σ.m [(nm,.mat el y e (Ep (α:=List e.den) xss i row) [])],E⟩:=⟨λ_ g=>g,λb hb=>other b λek=>o3 (ek▸hb)⟩;have hlen:(Ep (α:=List e.den) xss i row).length=xss.length:=by rw[Ep,zX]
 have rowAt:∀k r,(Ep (α:=List e.den) xss i row)[k]?=some r->k<xss.length/\((k=i/\r=row)\/(k≠i/\xss[k]?=some r)):=λk r z=>by
  have A:k<xss.length:=by have:=(qC.1 z).1;rwa [hlen]at this
  have G:(List.set xss i row)[k]?=some r:=z;rw[vS]at G;split at G;rename_i ek;subst ek;simp only[A,kE,vT]at G;exact⟨A,.inl ⟨rfl,G.symm⟩⟩;rename_i ek;exact⟨A,.inr ⟨λq=>ek q.symm,G⟩⟩
 refine h.go (m':=upM σ.m [(nm,.mat el y e (Ep (α:=List e.den) xss i row) [])]) (E':=E) L (λk=>.inl λf hb'=>?_) (λk f z=>?_) (λk f z X=>?_) (λk k' b1 b2 z G hi1 hi2 hbb=>?_)
  (h.low.step rfl rfl rfl (by simp) λk z hno=>other k λek=>?_) (λb hb=>by simpa using h.dlt b hb) (λb hb=>.inl hb) (h.pv.step (λk j r hr=>?_) (by simp) (λb hb=>.inl hb) λk f z X=>?_)
 rcases old k f hb' with⟨rfl,rfl⟩|⟨g1,g2⟩;exact⟨_,hm,rfl,yK hlen.symm,λ_=>rfl⟩;exact⟨f,g2,rfl,qL _,λ_=>rfl⟩;rcases old k f z with⟨rfl,rfl⟩|⟨g1,g2⟩;right;obtain⟨hz,raw,r1,r2⟩:=h.bl k _ hm;refine⟨hz,raw,?_,λq r hq=>?_⟩;rw[hlen];refine hC (λg' n' c hh=>?_) r1;obtain⟨q1,rfl⟩:=HW hh;exact other _ (h.pv.ent k i _ hat k _ hm q1);obtain⟨A,⟨rfl,rfl⟩|⟨hne,hq'⟩⟩:=rowAt q r hq;obtain⟨u,g1,g2⟩:=r2 q _ (getElem?_getD (d:=[]) A);simp only[List.lookup]at g2 ⊢;exact⟨u,g1,hrow _ L rfl u g2⟩;obtain⟨u,g1,g2⟩:=r2 q r hq';simp only[List.lookup]at g2 ⊢;refine⟨u,g1,?_⟩;obtain⟨ao,cap,r3,k1,k0,k2⟩:=g2;refine⟨ao,cap,r3,k1,k0,λhpr=>?_⟩;obtain⟨k3,k4,k5⟩:=k2 hpr;refine⟨k3,hC (λg' n' c hh=>?_) k4,bh (C:=⟨w,D,σ.m,E⟩) L (λnm h=>by cases h) k5⟩;rw[k1,k3]at hh;simp at hh;rw[<- hh.1];refine other _ λek=>hne ?_;exact(h.pv.inj k q _ k i ⟨el,y,e,xss,[],r,hm,rfl,hq',hpr,rfl⟩ (ek▸hat)).2;left;refine⟨g2,rfl,λX=>other _ (h.pv.ent nm i _ hat k f g2 X),λq r hr=>other _ λek=>g1 ?_⟩;exact(h.pv.inj k q r nm i (aK.2 ⟨f,g2,hr⟩) (ek▸hat)).1;rcases old k f z with⟨rfl,rfl⟩|⟨g1,g2⟩;simpa using h.own k _ hm X;simpa using h.own k f g2 X;have up:∀k f,upM σ.m [(nm,.mat el y e (Ep (α:=List e.den) xss i row) [])] k=some f->∃b0,σ.m k=some b0:=λk f z=>by
  rcases old k f z with⟨rfl,rfl⟩|⟨_,g2⟩;exact⟨_,hm⟩;exact⟨_,g2⟩
 obtain⟨c1,z1⟩:=up k b1 z;obtain⟨c2,z2⟩:=up k' b2 G;exact h.inj k k' c1 c2 z1 z2 hi1 hi2 hbb;rcases o1 with g|g;omega;exact hno (ek▸g);obtain⟨f,g1,g2⟩:=aK.1 hr;rcases old k f g1 with⟨rfl,rfl⟩|⟨q1,q2⟩;obtain⟨el2,eli2,e2,xs2,ov2,r2,hx,p1,p2,p3,p4⟩:=g2;cases hx;obtain⟨A,⟨rfl,rfl⟩|⟨hne,hq'⟩⟩:=rowAt j r2 p2;exact⟨_,_,_,_,_,_,hm,rfl,getElem?_getD (d:=[]) A,hp,p4⟩;exact⟨_,_,_,_,_,_,hm,rfl,hq',p3,p4⟩;exact aK.2 ⟨f,q2,g2⟩;rcases old k f z with⟨rfl,rfl⟩|⟨g1,g2⟩;exact .inr ⟨k,_,hm,X,rfl⟩;exact .inr ⟨k,f,g2,X,rfl⟩
theorem EI(h:aL S σ a w D E){p v:RV}{vp u:Value}
  (hbp:p.2=da σ.m p.1) (hbv:v.2=da σ.m v.1) (hc:uo S.P t p v=some c) (hn:∀q∈c.need,q)
  (hp:p.1.rel S.P ⟨w,D,σ.m,E⟩ vp) (hv:v.1.rel S.P ⟨w,D,σ.m,E⟩ u):
  c.new=none/\c.val=.val undef/\∃w',(Instr.storeAt t vp u).run S.P w=.ok () w'/\∃D E,aL S ⟨σ.T,upM σ.m c.upd,σ.sv⟩ a w' D E:=by
 unfold uo at hc;split at hc;case h_2=>cases hc
 rename_i ns hone hsz;split at hc;case isFalse=>cases hc
 rename_i hagg;have ones:(∀q∈ns,q)->∃z:Value,u.cells=[z].toArray/\v.1.rel S.P ⟨w,D,σ.m,E⟩ z/\z.oneCell'=true:=λhns=>by
  obtain⟨us,g1,g2,g3⟩:=pL hbv hone hns hv;have hcv:cI v.1=[v.1]:=by
   cases A:v.1<;>first|rfl|(rw[A]at hagg;cases hagg)
  rw[hcv]at g2;obtain⟨z,us',e,q1,G⟩:=g2;simp only[AV.relL]at G;subst G e;exact⟨z,g1,q1,g3 z (by simp)⟩
 split at hc;rename_i nm g i el f e xss;cases hc;have hm:σ.m nm=some (.mat el f e xss []):=hbp.symm;have e1:xss.length=g:=Ob.get hn (by simp);obtain⟨z,z1,z2,z3⟩:=ones (λq A=>hn q (by simp[A]));obtain⟨q1,G,q3⟩:=(hp _ hm).2 e1;have G:(E nm).isNil=false:=G;obtain⟨hz,raw,r1,r2⟩:=h.matCells hm G;have hi:i<xss.length:=Z;obtain⟨cur,p1,p2,p3⟩:=eZ r1 i [z] (by simp;omega);have q3':vp=.pointer (some ⟨(E nm).b,i,none⟩):=by
  rw[q3];show Value.pointer (some ⟨(E nm).b,i*1+0,none⟩)=_;rw[xI,xZ]
 refine⟨rfl,rfl,_,by rw[q3'];exact fB (P:=S.P) (t:=t) (us:=[z]) p1 hsz z1 p2 (λy hy=>by rw[qX.1 hy];exact z3),?_⟩;refine aL.stored (b:=.mat el f e xss [(i,v.1)]) h hm G rfl rfl _ (λC' L N hw=>?_) (λk r hr=>?_);refine⟨hz,raw.take i++[z]++raw.drop (i+[z].length),?_,λk row hk=>?_⟩;have e3:(E nm).handle xss.length=.slice (some ⟨(E nm).b,0,none⟩) xss.length (E nm).cap:=by unfold Ent.handle;rw[G];rfl
 rw[hw,e3];exact p3;have hk1:k<xss.length:=(qC.1 hk).1;have hrl:raw.length=xss.length*1:=r1.1;by_cases hki:k=i;subst hki;refine⟨z,?_,?_⟩;rw[zJ,qV (by rw[qO];omega),qO];rw[show k-min k raw.length=0 by omega];rfl;simp only[List.lookup,xY];exact⟨z3,AV.rel_mono L (λx _=>N x) z2⟩;obtain⟨y,g1,g2⟩:=r2 k row hk;simp only[List.lookup]at g2;have hkb:(k==i)=false:=by simpa using hki
 refine⟨y,?_,?_⟩;rcases wW k i with hlt|hge;rw[zJ,vU (by rw[qO];omega),vV,if_pos hlt];exact g1;rw[qV (by rw[qG,qO];simp;omega),vF];rw[qG,qO,vC];rw[show i+1+(k-(min i raw.length+1))=k by omega];exact g1;simp only[List.lookup,hkb];obtain⟨ao,cap,r3,k1,k0,k2⟩:=g2;refine⟨ao,cap,r3,k1,k0,λhpr=>?_⟩;obtain⟨k3,k4,k5⟩:=k2 hpr;refine⟨k3,hC (λg' n' c hh=>?_) k4,bh (C:=⟨w,D,σ.m,E⟩) L (λnm h=>by cases h) k5⟩;rw[k1,k3]at hh;simp at hh;rw[<- hh.1,hw];refine setRow_other w _ _ _ λek=>?_;exact h.pv.ent nm k _ ⟨el,f,e,xss,[],row,hm,rfl,hk,hpr,rfl⟩ nm _ hm G ek.symm;obtain⟨el2,eli2,e2,xs2,ov2,r2',hx,s1,s2,s3,s4⟩:=hr;cases hx;exact⟨_,_,_,_,_,_,rfl,rfl,s2,s3,s4⟩;rename_i nm g i k j el f e xss;split at hc;case h_2=>cases hc
 rename_i y hy;cases hc;have hm:σ.m nm=some (.mat el f e xss []):=hbp.symm;have e1:xss.length=g:=Ob.get hn (by simp);have e2:(xss.getD i []).length=k:=Ob.get hn (by simp);obtain⟨z,z1,z2,z3⟩:=ones (λq A=>hn q (by simp[A]));obtain⟨q1,q3⟩:=(hp _ hm).2 e1;have hi:i<xss.length:=by
  rcases wW i xss.length with g|g;exact g;rw[qA,wZ g]at e2;simp at e2;omega
 have hzy:ae w D e y [z]:=AV.as_rel hy z2;obtain⟨hz,raw,r1,r2⟩:=h.bl nm _ hm;obtain⟨uu,g1,g2⟩:=r2 i _ (getElem?_getD (d:=[]) hi);simp only[List.lookup]at g2;have hjl:j<(xss.getD i []).length:=by rw[e2];exact q1
 obtain⟨ao,cap,r3,k1,k0,k2⟩:=g2;obtain⟨k3,k4,k5⟩:=k2 Z;rw[k1,k3]at k4;have hfit:j+[z].length<=(xss.getD i []).length*1:=by rw[vC];omega
 obtain⟨cur,p1,p2,p3⟩:=eZ k4 j [z] hfit;refine⟨rfl,rfl,_,by rw[q3];exact fB (P:=S.P) (t:=t) (us:=[z]) p1 hsz z1 p2 (λy hy=>by rw[qX.1 hy];exact z3),D,E,?_⟩;refine h.turnRow hm hi Z (row:=Ep (Dw xss i []) j y) (by rw[Ep,zX]) _ λC' L hw u' hu'=>?_;obtain⟨ao',cap',r3',k1',k0',k2'⟩:=hu';obtain⟨k3',k4',k5'⟩:=k2' Z;have hlen:(Ep (Dw xss i []) j y).length=(xss.getD i []).length:=by rw[Ep,zX]
 rw[k1',k3']at k4';have hcap:cap'=cap/\r3'=r3:=by
  rcases k4.2 with⟨A,_⟩|⟨gg,cc,cu,A,_,hh,_,_,hcs,ht⟩;cases A;rcases k4'.2 with⟨X,_⟩|⟨gg',cc',cu',X,_,hh',hn1,hn2,hcs',ht'⟩;cases X;simp only[yH,vT,qAk,vY,yE]at A X;obtain⟨rfl,rfl⟩:=A;obtain⟨rfl,rfl⟩:=X;rw[hh]at hh';cases hh';exact⟨Z,ht'.symm.trans ht⟩
 obtain⟨rfl,rfl⟩:=hcap;refine⟨ao',cap',r3'.take j++[z]++r3'.drop (j+[z].length),by rw[hlen];exact k1',k0',λ_=>⟨k3',?_,?_⟩⟩;rw[k1',k3',hw,hlen];exact p3;have fin:=oR (P:=S.P) (C:=C') (t:=e) (us:=[z]) (ov:=[]) (i:=j) (y:=y) (by rw[k4.1,hz]) hjl (λk a hk=>by simp at hk) (bh (C:=⟨w,D,σ.m,E⟩) L (λnm h=>by cases h) k5') (by rw[hz];rfl) (au L.D L.w hzy);rw[hz,xI]at fin;exact fin;cases hc
end Go.Eng
namespace Go.Eng
open Go.RowKit
def wu(P:Program)(t:TypeId):Option Bool:=match P.underlying t with|some (.interface _)=>some true|some _=>some false|none=>none
def RF(P:Program)(t:TypeId)(x:AV):Option Core:=match wu P t with|some false=>some {val:=.ifc t x}|_=>none
def Ks(P:Program)(asserted:TypeId)(ok:Bool)(x:AV):Option Core:=match wu P asserted,ok,x with|some false,true,.ifc t a=>if t=asserted then some {val:=.tup [a,.dat .bool true]} else none|_,_,_=>none
def WZ:Operand->Bool|.const _=>true|_=>false
def wA:AV->AV->Option Bool
 |.ifc _ _,.val u=>match u with|.nilIface=>some false|_=>none
 |.val u,.val v=>match u,v with|.nilIface,.nilIface=>some true|_,_=>none
 |_,_=>none
def SL(P:Program)(op:BinOp)(t:TypeId)(y:Operand)(a b:AV):Option Core:=match wu P t,WZ y,wA a b with
 |some true,true,some r=>match op with
  |.eql=>some {val:=.dat .bool r}|.neq=>some {val:=.dat .bool (Dj r)}|_=>none
 |_,_,_=>none
variable {t:TypeId}{P:Program}
theorem sH(h:wu P t=some false):∃d,P.underlying t=some d/\∀ms,d≠.interface ms:=by
 unfold wu at h;cases f:P.underlying t with
 |none=>rw[f]at h;cases h
 |some d=>
  rw[f]at h;exact⟨d,rfl,λms e=>by subst e;cases h⟩
theorem JO(h:wu P t=some true):∃ms,P.underlying t=some (.interface ms):=by
 unfold wu at h;split at h;rename_i ms f;exact⟨ms,f⟩;cases h;cases h
variable {c:Core}{w:World}{C:Ctx}
theorem RE{x:AV}{v:Value}(h:RF P t x=some c)(f:x.rel P C v):
  ∃r,(Instr.makeInterface t v).run P w=.ok r w/\c.val.rel P C r/\c.upd=[]/\c.new=none:=by
 unfold RF at h;split at h;rename_i u;cases h;obtain⟨d,j,hd⟩:=sH u;refine⟨.iface t v,?_,⟨v,rfl,f⟩,rfl,rfl⟩;unfold Instr.makeInterface;rw[wO,vH j];simp only[wB];cases d<;>first|exact(hd _ rfl).elim|rfl
 cases h
theorem Pj{xt t:TypeId}{ok:Bool}{x:AV}{v:Value}(h:Ks P t ok x=some c)(f:x.rel P C v):
  ∃r,(Instr.typeAssert v xt t ok).run P w=.ok r w/\c.val.rel P C r/\c.upd=[]/\c.new=none:=by
 unfold Ks at h;split at h;rename_i z a y;split at h;rename_i e;subst e;cases h;obtain⟨d,j,hd⟩:=sH y;obtain⟨u,rfl,f⟩:=f;refine⟨.tuple #[u,.bool true],?_,⟨[u,.bool true],rfl,_,_,rfl,f,_,_,rfl,rfl,rfl⟩,rfl,rfl⟩;unfold Instr.typeAssert;rw[wO,vH j];simp only[wB];cases d<;>first|exact(hd _ rfl).elim|simp
 cases h;cases h
theorem uz{ms:Array (String×TypeId)}{a b:AV}{u v:Value}{r:Bool}(j:P.underlying t=some (.interface ms))(h:wA a b=some r)(f:a.rel P C u)(hb:b.rel P C v)(w:World)(d:Nat):
  (Op.equalIn (d+1) t u v).run P w=.ok r w:=by
 unfold wA at h;split at h;split at h;cases h;obtain⟨x,rfl,_⟩:=f;have hb:v=.nilIface:=hb;subst hb;simp[Op.equalIn,vH j];cases h;split at h;cases h;have f:u=.nilIface:=f;have hb:v=.nilIface:=hb;subst f hb;simp[Op.equalIn,vH j];cases h;cases h
theorem JV{a b:AV}{u v:Value}{r:Bool}(h:wA a b=some r)(f:a.rel P C u)(hb:b.rel P C v):v=.nilIface/\((∃t x,u=.iface t x)\/u=.nilIface):=by
 unfold wA at h;split at h;split at h;obtain⟨x,rfl,_⟩:=f;exact⟨hb,.inl ⟨_,_,rfl⟩⟩;cases h;split at h;exact⟨hb,.inr f⟩;cases h;cases h
theorem SK{op:BinOp}{x y:Operand}{a b:AV}{u v:Value}(h:SL P op t y a b=some c)
  (X:a.rel P C u) (hb:b.rel P C v):∃r,(do eqGuard op t x y u v;binOp op t u v:Sem Value).run P w=.ok r w/\c.val.rel P C r/\c.upd=[]/\c.new=none:=by
 unfold SL at h;split at h;case h_2=>cases h
 rename_i r ht hy G;obtain⟨ms,hu⟩:=JO ht;have j:=uz hu G X hb w 9999;obtain⟨z,f⟩:=JV G X hb;have L:∀op,(eqGuard op t x y u v).run P w=.ok () w:=by
  intro op;obtain⟨cv,rfl⟩:∃cv,y=.const cv:=by
   cases y<;>first|exact⟨_,rfl⟩|cases hy
  subst z;unfold eqGuard;rcases f with⟨A,x1,rfl⟩|rfl;cases op<;>simp;cases op<;>simp
 split at h;cases h;refine⟨.bool r,?_,rfl,rfl,rfl⟩;rw[wO,L,wB];subst z;rcases f with⟨A,x1,rfl⟩|rfl;simp[binOp,Op.equal,Op.maxDepth,j];simp[binOp,Op.equal,Op.maxDepth,j];cases h;refine⟨.bool (!r),?_,rfl,rfl,rfl⟩;rw[wO,L,wB];subst z;rcases f with⟨A,x1,rfl⟩|rfl;simp[binOp,Op.equal,Op.maxDepth,j];simp[binOp,Op.equal,Op.maxDepth,j];cases h
end Go.Eng
