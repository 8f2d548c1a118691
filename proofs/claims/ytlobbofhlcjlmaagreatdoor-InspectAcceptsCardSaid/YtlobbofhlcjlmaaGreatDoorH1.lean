/- The engine, part 1: abstract data, abstract values, and what they say of a world. No project text. -/
import Derived.Orders
import Derived.Below
import Derived.Laws.Sem
import Derived.Laws.World
import Derived.Laws.OwnMore
import Derived.Laws.AppendOwn
import Derived.Deep.MidRow
import Derived.IntWalk
import Derived.Laws.BytesArg
set_option linter.unusedSimpArgs false
set_option linter.unusedVariables false
namespace Go.Eng
open Go.RowKit
namespace D
abbrev eq (x y:Int):Bool:=x == y
abbrev ne (x y:Int):Bool:=x != y
abbrev lt (x y:Int):Bool:=decide (x < y)
abbrev le (x y:Int):Bool:=decide (x≤y)
abbrev gt (x y:Int):Bool:=decide (x > y)
abbrev ge (x y:Int):Bool:=decide (x ≥ y)
abbrev beq (x y:Bool):Bool:=x == y
abbrev sEq (x y:ByteArray):Bool:=x.toList == y.toList
abbrev sLt (x y:ByteArray):Bool:=Op.bytesLess x.toList y.toList
abbrev byte (s:ByteArray) (i:Int):Int:=((s.data.getD i.toNat 0).toNat:Int)
abbrev get {α:Type} (xs:List α) (i:Nat) (d:α):α:=xs.getD i d
abbrev set {α:Type} (xs:List α) (i:Nat) (x:α):List α:=xs.set i x
abbrev app {α:Type} (xs ys:List α):List α:=xs ++ ys
abbrev tail {α:Type} (xs:List α) (l:Int):List α:=xs.drop l.toNat
abbrev part {α:Type} (xs:List α) (l h:Int):List α:=(xs.take h.toNat).drop l.toNat
abbrev wrap (k:IntKind) (x:Int):Int:=k.wrap x
abbrev rep {α:Type} (n:Int) (x:α):List α:=List.replicate n.toNat x
abbrev nat (i:Int):Nat:=i.toNat
abbrev aQp (s:ByteArray) (l:Int):ByteArray:=s.extract l.toNat s.size
abbrev aQn (s:ByteArray) (l h:Int):ByteArray:=s.extract l.toNat h.toNat
abbrev mx (x y:Int):Int:=max x y
abbrev mn (x y:Int):Int:=min x y
abbrev shr (x y:Int):Int:=x.fdiv (2 ^ y.toNat)
abbrev shl (x y:Int):Int:=x * 2 ^ y.toNat
abbrev copy {α:Type} (xs ys:List α):List α:=ys.take xs.length ++ xs.drop ys.length
abbrev at2 (j k:Nat) (i:Int):Nat:=j + i.toNat * k
abbrev add (x y:Int):Int:=x + y
abbrev sub (x y:Int):Int:=x - y
abbrev mul (x y:Int):Int:=x * y
abbrev quo (x y:Int):Int:=x.tdiv y
abbrev rem (x y:Int):Int:=x.tmod y
abbrev neg (x:Int):Int:=-x
abbrev ine (x y:Int):Prop:=x≠y
abbrev ile (x y:Int):Prop:=x≤y
abbrev ilt (x y:Int):Prop:=x < y
abbrev nle (x y:Nat):Prop:=x≤y
abbrev nlt (x y:Nat):Prop:=x < y
abbrev fE (x y:Nat):Nat:=x + y
abbrev nI (x y:Nat):Nat:=x * y
abbrev ofN (x:Nat):Int:=(x:Int)
abbrev len {α:Type} (xs:List α):Nat:=xs.length
abbrev ilen {α:Type} (xs:List α):Int:=(xs.length:Int)
abbrev slen (s:ByteArray):Int:=(s.size:Int)
abbrev not (x:Bool):Bool:=!x
abbrev and (x y:Bool):Bool:=x && y
abbrev or (x y:Bool):Bool:=x || y
abbrev nil (α:Type):List α:=[]
abbrev cnd {α:Type} (c:Bool) (x y:α):α:=bif c then x else y
abbrev seg {α:Type} (xs:List α) (o n:Nat):List α:=(xs.drop o).take n
abbrev aTJ {α:Type} (xs:List (List α)):Prop:=∀ r ∈ xs,r=[]
abbrev bytes (s:ByteArray):List Int:=s.data.toList.map fun b=>(b.toNat:Int)
abbrev ofBytes (xs:List Int):ByteArray:=strOfNums xs
end D
inductive Ty where
 | int (k:IntKind)
 | bool
 | str
 | sl (e:Ty)
 | pair (a b:Ty)
 deriving DecidableEq
@[reducible] def Ty.den:Ty→Type
 | .int _=>Int
 | .bool=>Bool
 | .str=>ByteArray
 | .sl e=>List e.den
 | .pair a b=>a.den×b.den
def Ty.dflt:(t:Ty)→t.den
 | .int _=>(0:Int)
 | .bool=>false
 | .str=>ByteArray.empty
 | .sl _=>[]
 | .pair a b=>(a.dflt,b.dflt)
def Ty.sz:Ty→Nat
 | .pair a b=>a.sz + b.sz
 | _=>1
theorem Ty.sz_pos:(t:Ty)→0 < t.sz
 | .int _ | .bool | .str | .sl _=>by simp [Ty.sz]
 | .pair a b=>by have:=Ty.sz_pos a;simp only [Ty.sz];omega
abbrev gU (w:World) (b off:Nat) (us:List Value):Prop:=w.rangeAt b off us
def aF (w:World) (D:Nat→Prop):(t:Ty)→t.den→List Value→Prop
 | .int k,x,us=>us=[.int k x]
 | .bool,b,us=>us=[.bool b]
 | .str,s,us=>us=[.string s]
 | .sl e,xs,us=>∃ (ao:Option Addr) (cap:Nat),us=[.slice ao (List.length xs) cap]∧List.length xs≤cap∧(ao=none→cap=0) ∧
   (∀ a,ao=some a→0 < List.length xs→a.spot=none) ∧
   ∀ (i:Nat) (y:e.den),(xs:List e.den)[i]?=some y→∃ (a:Addr) (ue:List Value),ao=some a∧D a.block∧gU w a.block (a.off + i * e.sz) ue∧aF w D e y ue
 | .pair a b,x,us=>∃ u1 u2,us=u1 ++ u2∧aF w D a x.1 u1∧aF w D b x.2 u2
theorem bG {w:World} {D:Nat→Prop}:∀ {t:Ty} {x:t.den} {us:List Value},aF w D t x us→us.length=t.sz
 | .int _,_,_,h=>by simp only [aF] at h;subst h;rfl
 | .bool,_,_,h=>by simp only [aF] at h;subst h;rfl
 | .str,_,_,h=>by simp only [aF] at h;subst h;rfl
 | .sl _,_,_,h=>by obtain ⟨_,_,h,_⟩:=h;subst h;rfl
 | .pair a b,_,_,h=>by
  obtain ⟨u1,u2,h,h1,h2⟩:=h
  subst h;simp [Ty.sz,bG h1,bG h2]
theorem cell?_same {w w':World} {b o:Nat} (h:w'.heap[b]?=w.heap[b]?):w'.cell? ⟨b,o,none⟩=w.cell? ⟨b,o,none⟩:=by
 simp only [World.cell?,h]
theorem gU.same {w w':World} {b off:Nat} {us:List Value} (h:w'.heap[b]?=w.heap[b]?) (hc:gU w b off us):gU w' b off us :=
 fun j u hj=>(cell?_same h).trans (hc j u hj)
theorem aH {w w':World} {D D':Nat→Prop} (hD:∀ b,D b→D' b) (hw:∀ b,D b→w'.heap[b]?=w.heap[b]?) :
  ∀ {t:Ty} {x:t.den} {us:List Value},aF w D t x us→aF w' D' t x us
 | .int _,_,_,h=>h
 | .bool,_,_,h=>h
 | .str,_,_,h=>h
 | .sl e,xs,us,h=>by
  obtain ⟨ao,cap,h1,h2,h3,h4,h5⟩:=h
  refine ⟨ao,cap,h1,h2,h3,h4,fun i y hy=>?_⟩
  obtain ⟨a,ue,g1,g2,g3,g4⟩:=h5 i y hy
  exact ⟨a,ue,g1,hD _ g2,g3.same (hw _ g2),aH hD hw g4⟩
 | .pair a b,_,_,h=>by
  obtain ⟨u1,u2,h,h1,h2⟩:=h
  exact ⟨u1,u2,h,aH hD hw h1,aH hD hw h2⟩
def lI (w w':World) (b:Nat):Prop:=w.heap.size≤b∧b < w'.heap.size
def aGU (w:World) (D:Nat→Prop) (r:Ty) (y:r.den) (e:Ending) (w':World):Prop :=
 ∃ v,e=.returned v∧Below w.heap.size w w'∧aF w' (fun b=>D b∨lI w w' b) r y [v]
def goes (P:Program) (f:FuncId):Bool:=match P.funcs[f]? with
 | some fn=>fn.body.isSome && fn.name != "runtime.NumGoroutine"
 | none=>false
inductive AV where
 | top
 | dat (t:Ty) (x:t.den)
 | agg (cs:List AV)
 | tup (vs:List AV)
 | val (v:Value)
 | buf (nm n:Nat)
 | ptr (nm g i c:Nat)
 | ip (t:Ty) (x:t.den)
 | fn (f:FuncId) (caps:List AV)
 | clo1 (a r:Ty) (pre:a.den→Prop) (g:a.den→r.den)
 | clo2 (a b r:Ty) (pre:a.den→b.den→Prop) (g:a.den→b.den→r.den)
 | ifc (t:TypeId) (v:AV)
 | grd (g:Bool) (v:AV)
 | ipv (v:AV)
 | ips (cs:List AV)
 | ia (t:Ty) (xs:List t.den)
 | yld (l:Nat)
 | view (nm n:Nat)
 | av (t:Ty) (xs:List t.den)
 | sel (i:Int) (cs:List AV)
 | row (nm g i k:Nat)
 | rptr (nm g i k j:Nat)
 | pin (u:Value) (v:AV)
inductive Blk where
 | var (cs:List AV)
 | buf (el:TypeId) (t:Ty) (xs:List t.den) (ov:List (Nat×AV))
 | mat (el eli:TypeId) (e:Ty) (xss:List (List e.den)) (ov:List (Nat×AV))
def Blk.len:Blk→Nat
 | .var _=>1
 | .buf _ _ xs _=>xs.length
 | .mat _ _ _ xss _=>xss.length
def Blk.es:Blk→Nat
 | .var cs=>cs.length
 | .buf _ t _ _=>t.sz
 | .mat _ _ _ _ _=>1
structure Ent where
 b:Nat
 cap:Nat
 isNil:Bool
 rb:Nat→Nat×Nat
def noR:Nat→Nat×Nat:=fun _=>(0,0)
def Ent.handle (e:Ent) (n:Nat):Value:=if e.isNil then .slice none 0 0 else .slice (some ⟨e.b,0,none⟩) n e.cap
structure Ctx where
 w:World
 D:Nat→Prop
 m:Nat→Option Blk
 E:Nat→Ent
def aAa (w:World) (D:Nat→Prop) (t:Ty) (xs:List t.den) (us:List Value):Prop :=
 us.length=xs.length * t.sz∧∀ (i:Nat) (y:t.den),xs[i]?=some y→aF w D t y ((us.drop (i * t.sz)).take t.sz)
mutual
def AV.rel (P:Program) (C:Ctx):AV→Value→Prop
 | .top,_=>True
 | .dat t x,v=>aF C.w C.D t x [v]
 | .agg cs,v=>∃ us:List Value,v=.agg us.toArray∧AV.relL P C cs us
 | .tup vs,v=>∃ us:List Value,v=.tuple us.toArray∧AV.relL P C vs us
 | .val u,v=>v=u
 | .buf nm n,v=>∀ b,C.m nm=some b→n≤b.len∧(b.len=n→v=(C.E nm).handle n)
 | .ptr nm g i c,v=>∀ b,C.m nm=some b→g≤b.len∧(b.len=g→i < g∧(C.E nm).isNil=false∧v=.pointer (some ⟨(C.E nm).b,i * b.es + c,none⟩))
 | .ip t x,v=>∃ b off us,v=.pointer (some ⟨b,off,none⟩)∧C.D b∧gU C.w b off us∧aF C.w C.D t x us
 | .fn f caps,v=>∃ us:List Value,v=.func (.func f) #[] us.toArray∧AV.relL P C caps us
 | .clo1 a r pre g,v=>∃ (f:FuncId) (caps:Array Value),v=.func (.func f) #[] caps∧goes P f=true ∧
   ∀ (w':World) (D':Nat→Prop),(∀ b,C.D b→D' b)→(∀ b,D' b→b < w'.heap.size)→(∀ b,C.D b→w'.heap[b]?=C.w.heap[b]?) →
    ∀ x u,pre x→aF w' D' a x [u]→Calls P f (#[u] ++ caps) w' (aGU w' D' r (g x))
 | .clo2 a b r pre g,v=>∃ (f:FuncId) (caps:Array Value),v=.func (.func f) #[] caps∧goes P f=true ∧
   ∀ (w':World) (D':Nat→Prop),(∀ b,C.D b→D' b)→(∀ b,D' b→b < w'.heap.size)→(∀ b,C.D b→w'.heap[b]?=C.w.heap[b]?) →
    ∀ x y u v,pre x y→aF w' D' a x [u]→aF w' D' b y [v]→Calls P f (#[u,v] ++ caps) w' (aGU w' D' r (g x y))
 | .ifc t a,v=>∃ u,v=.iface t u∧AV.rel P C a u
 | .grd g a,v=>(g=true→AV.rel P C a v)∧(g=false→v=undef)
 | .ipv a,v=>∃ b off u,v=.pointer (some ⟨b,off,none⟩)∧C.D b∧C.w.cell? ⟨b,off,none⟩=some u∧AV.rel P C a u
 | .ips cs,v=>∃ b off us,v=.pointer (some ⟨b,off,none⟩)∧C.D b∧gU C.w b off us∧AV.relL P C cs us
 | .ia t xs,v=>∃ b off,v=.pointer (some ⟨b,off,none⟩)∧aF C.w C.D (.sl t) xs [.slice (some ⟨b,off,none⟩) (List.length xs) (List.length xs)]
 | .yld l,v=>v=.func (.yield l) #[] #[]
 | .view nm n,v=>∀ b,C.m nm=some b→n≤b.len∧(b.len=n→(C.E nm).isNil=false∧∃ c,n≤c∧v=.slice (some ⟨(C.E nm).b,0,none⟩) n c)
 | .av t xs,v=>∃ us:List Value,v=.agg us.toArray∧aAa C.w C.D t xs us
 | .sel i cs,v=>∃ us:List Value,AV.relL P C cs us∧us[i.toNat]?=some v
 | .row nm g i k,v=>∀ b,C.m nm=some b→g≤b.len∧(b.len=g→∃ ao cap,v=.slice ao k cap∧(0 < k→ao=some ⟨((C.E nm).rb i).1,0,none⟩))
 | .rptr nm g i k j,v=>∀ b,C.m nm=some b→g≤b.len∧(b.len=g→j < k∧v=.pointer (some ⟨((C.E nm).rb i).1,j,none⟩))
 | .pin u a,v=>v=u∧AV.rel P C a v
def AV.relL (P:Program) (C:Ctx):List AV→List Value→Prop
 | [],us=>us=[]
 | a :: as,us=>∃ u us',us=u :: us'∧AV.rel P C a u∧AV.relL P C as us'
end
mutual
def AV.names:AV→List Nat
 | .buf nm _=>[nm]
 | .view nm _=>[nm]
 | .ptr nm _ _ _=>[nm]
 | .agg cs=>AV.namesL cs
 | .tup cs=>AV.namesL cs
 | .fn _ cs=>AV.namesL cs
 | .ifc _ a=>a.names
 | .grd _ a=>a.names
 | .ipv a=>a.names
 | .ips cs=>AV.namesL cs
 | .sel _ cs=>AV.namesL cs
 | .row nm _ _ _=>[nm]
 | .rptr nm _ _ _ _=>[nm]
 | .pin _ a=>a.names
 | _=>[]
def AV.namesL:List AV→List Nat
 | []=>[]
 | a :: as=>a.names ++ AV.namesL as
end
def Blk.names:Blk→List Nat
 | .var cs=>AV.namesL cs
 | .buf _ _ _ ov=>AV.namesL (ov.map (·.2))
 | .mat _ _ _ _ ov=>AV.namesL (ov.map (·.2))
def vJ (C C':Ctx) (nm:Nat):Prop :=
 ∀ b',C'.m nm=some b'→∃ b,C.m nm=some b∧b.es=b'.es∧b.len≤b'.len∧(b.len=b'.len→C'.E nm=C.E nm)
structure Later (C C':Ctx):Prop where
 D:∀ b,C.D b→C'.D b
 w:∀ b,C.D b→C'.w.heap[b]?=C.w.heap[b]?
mutual
theorem AV.rel_mono {P:Program} {C C':Ctx} (L:Later C C'):∀ {a:AV} {v:Value},(∀ nm ∈ a.names,vJ C C' nm)→a.rel P C v→a.rel P C' v
 | .top,_,_,_=>trivial
 | .dat _ _,_,_,h=>aH L.D L.w h
 | .agg cs,_,hn,h=>by
  obtain ⟨us,h1,h2⟩:=h
  exact ⟨us,h1,AV.relL_mono L (by simpa [AV.names] using hn) h2⟩
 | .tup cs,_,hn,h=>by
  obtain ⟨us,h1,h2⟩:=h
  exact ⟨us,h1,AV.relL_mono L (by simpa [AV.names] using hn) h2⟩
 | .val _,_,_,h=>h
 | .buf nm n,_,hn,h=>by
  intro b' hb'
  obtain ⟨b,hb,_,hl,hE⟩:=hn nm (by simp [AV.names]) b' hb'
  obtain ⟨g1,g2⟩:=h b hb
  refine ⟨Nat.le_trans g1 hl,fun e=>?_⟩
  have e1:b.len=n:=by omega
  rw [hE (by omega)];exact g2 e1
 | .ptr nm g i c,_,hn,h=>by
  intro b' hb'
  obtain ⟨b,hb,hes,hl,hE⟩:=hn nm (by simp [AV.names]) b' hb'
  obtain ⟨g1,g2⟩:=h b hb
  refine ⟨Nat.le_trans g1 hl,fun e=>?_⟩
  have e1:b.len=g:=by omega
  rw [hE (by omega),← hes];exact g2 e1
 | .ip t x,_,_,h=>by
  obtain ⟨b,off,us,h1,h2,h3,h4⟩:=h
  exact ⟨b,off,us,h1,L.D _ h2,h3.same (L.w _ h2),aH L.D L.w h4⟩
 | .fn f caps,_,hn,h=>by
  obtain ⟨us,h1,h2⟩:=h
  exact ⟨us,h1,AV.relL_mono L (by simpa [AV.names] using hn) h2⟩
 | .clo1 a r pre g,_,_,h=>by
  obtain ⟨f,caps,h1,h0,h2⟩:=h
  exact ⟨f,caps,h1,h0,fun w' D' g1 g2 g3=>h2 w' D' (fun b hb=>g1 b (L.D b hb)) g2 (fun b hb=>(g3 b (L.D b hb)).trans (L.w b hb))⟩
 | .clo2 a b r pre g,_,_,h=>by
  obtain ⟨f,caps,h1,h0,h2⟩:=h
  exact ⟨f,caps,h1,h0,fun w' D' g1 g2 g3=>h2 w' D' (fun b hb=>g1 b (L.D b hb)) g2 (fun b hb=>(g3 b (L.D b hb)).trans (L.w b hb))⟩
 | .ifc t a,_,hn,h=>by
  obtain ⟨u,h1,h2⟩:=h
  exact ⟨u,h1,AV.rel_mono L (by simpa [AV.names] using hn) h2⟩
 | .grd g a,_,hn,h=>⟨fun hg=>AV.rel_mono L (by simpa [AV.names] using hn) (h.1 hg),h.2⟩
 | .ipv a,_,hn,h=>by
  obtain ⟨b,off,u,h1,h2,h3,h5⟩:=h
  exact ⟨b,off,u,h1,L.D _ h2,(cell?_same (L.w _ h2)).trans h3,AV.rel_mono L (by simpa [AV.names] using hn) h5⟩
 | .ips cs,_,hn,h=>by
  obtain ⟨b,off,us,h1,h2,h3,h5⟩:=h
  exact ⟨b,off,us,h1,L.D _ h2,h3.same (L.w _ h2),AV.relL_mono L (by simpa [AV.names] using hn) h5⟩
 | .ia t xs,_,_,h=>by
  obtain ⟨b,off,h1,h2⟩:=h
  exact ⟨b,off,h1,aH L.D L.w h2⟩
 | .yld _,_,_,h=>h
 | .view nm n,_,hn,h=>by
  intro b' hb'
  obtain ⟨b,hb,_,hl,hE⟩:=hn nm (by simp [AV.names]) b' hb'
  obtain ⟨g1,g2⟩:=h b hb
  refine ⟨Nat.le_trans g1 hl,fun e=>?_⟩
  have e1:b.len=n:=by omega
  rw [hE (by omega)];exact g2 e1
 | .av _ _,_,_,h=>by
  obtain ⟨us,h1,h2,h3⟩:=h
  exact ⟨us,h1,h2,fun i y hy=>aH L.D L.w (h3 i y hy)⟩
 | .sel i cs,_,hn,h=>by
  obtain ⟨us,h1,h2⟩:=h
  exact ⟨us,AV.relL_mono L (by simpa [AV.names] using hn) h1,h2⟩
 | .row nm g i k,_,hn,h=>by
  intro b' hb'
  obtain ⟨b,hb,_,hl,hE⟩:=hn nm (by simp [AV.names]) b' hb'
  obtain ⟨g1,g2⟩:=h b hb
  refine ⟨Nat.le_trans g1 hl,fun e=>?_⟩
  rw [hE (by omega)];exact g2 (by omega)
 | .rptr nm g i k j,_,hn,h=>by
  intro b' hb'
  obtain ⟨b,hb,_,hl,hE⟩:=hn nm (by simp [AV.names]) b' hb'
  obtain ⟨g1,g2⟩:=h b hb
  refine ⟨Nat.le_trans g1 hl,fun e=>?_⟩
  rw [hE (by omega)];exact g2 (by omega)
 | .pin u a,_,hn,h=>⟨h.1,AV.rel_mono L (by simpa [AV.names] using hn) h.2⟩
theorem AV.relL_mono {P:Program} {C C':Ctx} (L:Later C C'):∀ {as:List AV} {us:List Value},(∀ nm ∈ AV.namesL as,vJ C C' nm)→AV.relL P C as us→AV.relL P C' as us
 | [],_,_,h=>h
 | a :: as,_,hn,h=>by
  obtain ⟨u,us',h1,h2,h3⟩:=h
  simp only [AV.namesL,List.mem_append] at hn
  exact ⟨u,us',h1,AV.rel_mono L (fun nm h=>hn nm (.inl h)) h2,AV.relL_mono L (fun nm h=>hn nm (.inr h)) h3⟩
end
theorem AV.relL_length {P:Program} {C:Ctx}:∀ {as:List AV} {us:List Value},AV.relL P C as us→as.length=us.length
 | [],_,h=>by simp only [AV.relL] at h;subst h;rfl
 | a :: as,_,h=>by
  obtain ⟨u,us',h1,_,h3⟩:=h
  subst h1;simp [AV.relL_length h3]
theorem AV.relL_get {P:Program} {C:Ctx}:∀ {as:List AV} {us:List Value},AV.relL P C as us→∀ {i:Nat} {a:AV},as[i]?=some a→∃ u,us[i]?=some u∧a.rel P C u
 | [],_,_,i,a,h=>by simp at h
 | a :: as,_,h,i,a',hi=>by
  obtain ⟨u,us',h1,h2,h3⟩:=h
  subst h1
  cases i with
  | zero=>simp at hi;subst hi;exact ⟨u,rfl,h2⟩
  | succ i=>simpa using AV.relL_get h3 (by simpa using hi)
theorem AV.relL_mk {P:Program} {C:Ctx}:∀ {as:List AV} {us:List Value},as.length=us.length→(∀ (i:Nat) (a:AV) (u:Value),as[i]?=some a→us[i]?=some u→a.rel P C u)→AV.relL P C as us
 | [],[],_,_=>rfl
 | a :: as,u :: us,hl,h=>⟨u,us,rfl,h 0 a u rfl rfl,AV.relL_mk (by simpa using hl) (fun i a' u' h1 h2=>h (i + 1) a' u' (by simpa using h1) (by simpa using h2))⟩
theorem AV.relL_append {P:Program} {C:Ctx} {as bs:List AV} {us vs:List Value} (h1:AV.relL P C as us) (h2:AV.relL P C bs vs):AV.relL P C (as ++ bs) (us ++ vs):=by
 induction as generalizing us with
 | nil=>simp only [AV.relL] at h1;subst h1;exact h2
 | cons a as ih =>
  obtain ⟨u,us',e,g1,g2⟩:=h1
  subst e
  exact ⟨u,us' ++ vs,rfl,g1,ih g2⟩
theorem AV.relL_split {P:Program} {C:Ctx} {as bs:List AV} {us:List Value} (h:AV.relL P C (as ++ bs) us):∃ u1 u2,us=u1 ++ u2∧AV.relL P C as u1∧AV.relL P C bs u2:=by
 induction as generalizing us with
 | nil=>exact ⟨[],us,rfl,rfl,h⟩
 | cons a as ih =>
  obtain ⟨u,us',e,g1,g2⟩:=h
  obtain ⟨u1,u2,e2,g3,g4⟩:=ih g2
  subst e2
  exact ⟨u :: u1,u2,e,⟨u,u1,rfl,g1,g3⟩,g4⟩
theorem AV.relL_drop {P:Program} {C:Ctx} {as:List AV} {us:List Value} (h:AV.relL P C as us) (n:Nat):AV.relL P C (as.drop n) (us.drop n):=by
 refine AV.relL_mk (by rw [List.length_drop,List.length_drop,AV.relL_length h]) fun i a u h1 h2=>?_
 rw [List.getElem?_drop] at h1 h2
 obtain ⟨u',h3,h4⟩:=AV.relL_get h h1
 rw [h3] at h2;cases h2;exact h4
theorem AV.relL_take {P:Program} {C:Ctx} {as:List AV} {us:List Value} (h:AV.relL P C as us) (n:Nat):AV.relL P C (as.take n) (us.take n):=by
 refine AV.relL_mk (by rw [List.length_take,List.length_take,AV.relL_length h]) fun i a u h1 h2=>?_
 rw [List.getElem?_take] at h1 h2
 split at h1
 ·rename_i hlt
  rw [if_pos hlt] at h2
  obtain ⟨u',h3,h4⟩:=AV.relL_get h h1
  rw [h3] at h2;cases h2;exact h4
 ·cases h1
def cellsOf:(t:Ty)→t.den→List AV
 | .pair a b,x=>cellsOf a x.1 ++ cellsOf b x.2
 | .int k,x=>[.dat (.int k) x]
 | .bool,x=>[.dat .bool x]
 | .str,x=>[.dat .str x]
 | .sl e,x=>[.dat (.sl e) x]
theorem qK:∀ (t:Ty) (x:t.den),AV.namesL (cellsOf t x)=[]
 | .pair a b,x=>by
  have app:∀ (l k:List AV),AV.namesL (l ++ k)=AV.namesL l ++ AV.namesL k:=by
   intro l k;induction l with
   | nil=>rfl
   | cons a l ih=>simp [AV.namesL,ih]
  simp only [cellsOf,app,qK a,qK b];rfl
 | .int _,_ | .bool,_ | .str,_ | .sl _,_=>by simp [cellsOf,AV.namesL,AV.names]
theorem fM {P:Program} {C:Ctx}:∀ {t:Ty} {x:t.den} {us:List Value},aF C.w C.D t x us→AV.relL P C (cellsOf t x) us
 | .pair a b,x,us,h=>by
  obtain ⟨u1,u2,h,h1,h2⟩:=h
  subst h
  exact AV.relL_append (fM h1) (fM h2)
 | .int k,x,us,h=>by
  have e:=bG h
  obtain ⟨u,rfl⟩:∃ u,us=[u]:=List.length_eq_one_iff.1 e
  exact ⟨u,[],rfl,h,rfl⟩
 | .bool,x,us,h=>by
  have e:=bG h
  obtain ⟨u,rfl⟩:∃ u,us=[u]:=List.length_eq_one_iff.1 e
  exact ⟨u,[],rfl,h,rfl⟩
 | .str,x,us,h=>by
  have e:=bG h
  obtain ⟨u,rfl⟩:∃ u,us=[u]:=List.length_eq_one_iff.1 e
  exact ⟨u,[],rfl,h,rfl⟩
 | .sl _,x,us,h=>by
  have e:=bG h
  obtain ⟨u,rfl⟩:∃ u,us=[u]:=List.length_eq_one_iff.1 e
  exact ⟨u,[],rfl,h,rfl⟩
theorem aEC {w:World} {D:Nat→Prop} {e:Ty} {xs:List e.den} {ad:Addr} {cap:Nat} (h:aF w D (.sl e) xs [.slice (some ad) (List.length xs) cap]) (c:Nat) (hc:List.length xs≤c) :
  aF w D (.sl e) xs [.slice (some ad) (List.length xs) c]:=by
 obtain ⟨ao,cap',h1,h2,h3,h4,h5⟩:=h
 simp only [List.cons.injEq,Value.slice.injEq,and_true,true_and] at h1
 obtain ⟨h1,_⟩:=h1
 subst h1
 exact ⟨some ad,c,rfl,hc,(fun h=>by cases h),h4,h5⟩
theorem bU (w:World) (D:Nat→Prop) (e:Ty):aF w D (.sl e) [] [.slice none 0 0] :=
 ⟨none,0,rfl,Nat.le_refl _,fun _=>rfl,fun _ h=>(by cases h),fun i y h=>(by rw [List.getElem?_nil] at h;cases h)⟩
def AV.as:AV→(t:Ty)→Option t.den
 | .dat t' x,t=>if h:t'=t then some (h ▸ x) else none
 | .val (.slice none 0 0),.sl _=>some []
 | _,_=>none
theorem AV.as_rel {P:Program} {C:Ctx} {a:AV} {t:Ty} {x:t.den} {v:Value} (h:a.as t=some x) (hr:a.rel P C v):aF C.w C.D t x [v]:=by
 unfold AV.as at h
 split at h
 ·split at h
  ·rename_i hk;subst hk;cases h;exact hr
  ·cases h
 ·cases h
  simp only [AV.rel] at hr
  subst hr
  exact bU _ _ _
 ·cases h
def gG:(t:Ty)→List AV→Option (t.den×List AV)
 | .pair a b,cs=>match gG a cs with
  | some (x,cs)=>match gG b cs with
   | some (y,cs)=>some ((x,y),cs)
   | none=>none
  | none=>none
 | .int k,c :: cs=>(c.as (.int k)).map fun x=>(x,cs)
 | .bool,c :: cs=>(c.as .bool).map fun x=>(x,cs)
 | .str,c :: cs=>(c.as .str).map fun x=>(x,cs)
 | .sl e,c :: cs=>(c.as (.sl e)).map fun x=>(x,cs)
 | .int _,[] | .bool,[] | .str,[] | .sl _,[]=>none
theorem pV {P:Program} {C:Ctx} {t:Ty} {c:AV} {cs rest:List AV} {x:t.den} {us:List Value}
  (h:((c.as t).map fun x=>(x,cs))=some (x,rest)) (hr:AV.relL P C (c :: cs) us) :
  ∃ u1 u2,us=u1 ++ u2∧aF C.w C.D t x u1∧AV.relL P C rest u2:=by
 cases hy:c.as t with
 | none=>rw [hy] at h;cases h
 | some y =>
  rw [hy] at h;cases h
  obtain ⟨u,us',e,g1,g2⟩:=hr
  subst e;exact ⟨[u],us',rfl,AV.as_rel hy g1,g2⟩
theorem fQ {P:Program} {C:Ctx}:∀ {t:Ty} {cs rest:List AV} {x:t.den} {us:List Value},gG t cs=some (x,rest)→AV.relL P C cs us →
  ∃ u1 u2,us=u1 ++ u2∧aF C.w C.D t x u1∧AV.relL P C rest u2
 | .pair a b,cs,rest,x,us,h,hr=>by
  simp only [gG] at h
  split at h
  ·rename_i x1 cs1 h1
   split at h
   ·rename_i x2 cs2 h2
    cases h
    obtain ⟨u1,u2,e,g1,g2⟩:=fQ h1 hr
    obtain ⟨u3,u4,e',g3,g4⟩:=fQ h2 g2
    subst e e'
    exact ⟨u1 ++ u3,u4,by simp,⟨u1,u3,rfl,g1,g3⟩,g4⟩
   ·cases h
  ·cases h
 | .int k,c :: cs,rest,x,us,h,hr=>by simp only [gG] at h;exact pV h hr
 | .bool,c :: cs,rest,x,us,h,hr=>by simp only [gG] at h;exact pV h hr
 | .str,c :: cs,rest,x,us,h,hr=>by simp only [gG] at h;exact pV h hr
 | .sl e,c :: cs,rest,x,us,h,hr=>by simp only [gG] at h;exact pV h hr
 | .int _,[],_,_,_,h,_=>by simp [gG] at h
 | .bool,[],_,_,_,h,_=>by simp [gG] at h
 | .str,[],_,_,_,h,_=>by simp [gG] at h
 | .sl _,[],_,_,_,h,_=>by simp [gG] at h
end Go.Eng
