/- ToR -/
import Derived.RangeFuncNested
import Derived.RangeFuncBound
import Derived.RangeFuncCalls
import Derived.RangeFuncLeaves
import Derived.RangeFuncWrites
import Derived.Shelf.Abstract
import Derived.Shelf.RegionOpen
import Derived.WalkKit
import Derived.OwnWalkIn
import Derived.TacticsInMore
import Derived.LoopNIn
import Derived.LoopIn
import Derived.BigQuiet
set_option linter.unusedSimpArgs false
set_option linter.unusedVariables false
namespace Go
open Go.RowKit
def aBa{σ:Type}(F:Fence)(n:Nat)(P:Program)(gf:Nat)(lb:Array Value)(encs:σ->Array Value)(ok:σ->Prop)(step:σ->σ)(rd:σ->World->Prop)(s0:σ)(fin:σ->Prop):Prop:=
 ∀(l:Nat) (J:σ->World->Prop) (Jx:World->Prop) (W:World),(∀s W1,J s W1->rd s W1)->(∀s W1 m,J s W1->J s (W1.drewN m))->
  (∀s W1,J s W1->ok s->YieldAt F (n-1) P l (encs s) W1 λe W'=>(e=.returned (.bool true)/\J (step s) W')\/(e=.returned (.bool false)/\Jx W'))->
  J s0 W->CallsIn F n P gf (#[.func (.yield l) #[] #[]]++lb) W λe W'=>(∃v,e=.returned v)/\((∃s,fin s/\J s W')\/Jx W')
variable {F:Fence}{n:Nat}{P:Program}
def aF3{σ:Type}(B:Nat)(I:σ->World->Prop)(Ix:Code->World->Prop)(s:σ)(W:World):Exit->Act->World->Prop|.normal,_,W'=>KeepsFrom B W W'/\I s W'|.ret,_,W'=>KeepsFrom B W W'/\Ix .ret W'|_,_,_=>False
theorem s9{σ:Type}{g:Operand}{ps:Array Tmp}{assign body:Code}{Q:Exit->Act->World->Prop}{a:Act}{w:World}
  (hro:F.round=none) (h1:1<=n) {gf:Nat}{lb:Array Value} (hg:a.eval g=.func (.func gf) #[] lb) (hF:F.fn gf) (eg:∀args w,(callFunc gf args).run P w=.ok (.enter gf args) w)
  {encs:σ->Array Value}{ok:σ->Prop}{step:σ->σ}{rd:σ->World->Prop}{s0:σ}{fin:σ->Prop} (hps:∀s,(encs s).size=ps.size)
  (I:σ->World->Prop) (Ix:Code->World->Prop) (hI:OwnFrom w.heap.size I) (hIx:OwnFrom w.heap.size Ix) (hrd:∀s W,I s W->rd s W) (hdr:∀s W m,I s W->I s (W.drewN m))
  (hit:aBa F (n-1) P gf lb encs ok step rd s0 fin) (h0:I s0 w) (a₁:σ->Act)
  (hassign:∀(l:Nat) (s:σ) (W:World) (K:Act->World->Prop),K (a₁ s) W->
   assign.wpIn (F.inRound l) (n-1-1) P (Exit.then K (λ_ _ _=>False)) {tmps:=(ps.zip (encs s)).foldl (λt (p,v)=>t.setIfInBounds p v) a.tmps,defers:=[]} W)
  (hbody:∀(l:Nat) (s:σ) (W:World),I s W->ok s->body.wpIn (F.inRound l) (n-1-1) P (aF3 w.heap.size I Ix (step s) W) (a₁ s) W)
  (hdone:∀(D:Nat) (s:σ) (W:World),w.heap.size<=D->fin s->I s W->W.heap[D]?=some (.deferred (some []))->Q .normal {a with defers:={target:=.collected D,args:=#[]}::a.defers} W)
  (hstop:∀(D:Nat) (W:World),w.heap.size<=D->Ix .ret W->W.heap[D]?=some (.deferred (some []))->Code.ret.wpIn F n P Q {a with defers:={target:=.collected D,args:=#[]}::a.defers} W):
  (Code.rangeFunc g ps assign body).wpIn F n P Q a w:=by
 refine wpIn_rangeFunc λfn hfn=>?_;rw[hro];generalize hrec:(λst pe=>({state:=st,pending:=pe,fn,tmps:=a.tmps,params:=ps,assign,body,defers:=w.heap.size}:Loop))=rec;have hp:∀st pe,(rec st pe).params=ps:=λst pe=>by rw[<- hrec]
 generalize hV:(w.alloc (.deferred (some []))).alloc (.loop (rec .ready none))=V;have sV:V.heap.size=w.heap.size+2:=by rw[<- hV];simp
 have vl:V.heap[w.heap.size+1]?=some (.loop (rec .ready none)):=by
  have:=World.alloc_heap_new (w.alloc (.deferred (some []))) (.loop (rec .ready none));rw[World.size_alloc]at this;rw[<- hV];exact this
 have vd:V.heap[w.heap.size]?=some (.deferred (some [])):=by rw[<- hV];exact(Below.heap_alloc _ _ _ (by simp)).trans (World.alloc_heap_new w _)
 refine⟨w.heap.size+1,[{target:=.collected w.heap.size,args:=#[]}],V,{target:=.fn (.func gf) lb,args:=#[.func (.yield (w.heap.size+1)) #[] #[]]},V,gf,#[.func (.yield (w.heap.size+1)) #[] #[]]++lb,V,?_,?_,?_,?_,λ_=>h1,?_⟩;rw[<- hV,<- hrec];exact run_enterLoop_outer _ _ _ _ _;simp only[resolve,hg];simp[go_sem];intro f' hf';simp[Target.leads]at hf';subst hf';exact hF;simp[invoke,go_sem,eg];have put:∀{s:σ}{W:World}{o:Obj} (o':Obj),I s W->W.heap[w.heap.size+1]?=some o->o.isCells=false->I s (W.putObj (w.heap.size+1) o'):=λo' h1 h2 h3=>hI.putObj o' h1 (by omega) h2 h3;have putx:∀{W:World}{o:Obj} (o':Obj),Ix .ret W->W.heap[w.heap.size+1]?=some o->o.isCells=false->Ix .ret (W.putObj (w.heap.size+1) o'):=λo' h1 h2 h3=>hIx.putObj o' h1 (by omega) h2 h3;have same:∀{W:World}{o:Obj} (o':Obj),W.heap[w.heap.size+1]?=some o->(W.putObj (w.heap.size+1) o').heap[w.heap.size+1]?=some o':=λo' h=>World.putObj_heap_same (Array.getElem?_eq_some_iff.1 h).1;have keep:∀{W:World}{o:Obj} (o':Obj),W.heap[w.heap.size]?=some o->(W.putObj (w.heap.size+1) o').heap[w.heap.size]?=some o:=λo' h=>(World.putObj_heap_other (by omega)).trans h;have hIV:I s0 V:=by rw[<- hV];exact hI.alloc _ (hI.alloc _ h0)
 refine(hit (w.heap.size+1) (λs W=>I s W/\W.heap[w.heap.size+1]?=some (.loop (rec .ready none))/\W.heap[w.heap.size]?=some (.deferred (some [])))
  (λW=>Ix .ret W/\W.heap[w.heap.size+1]?=some (.loop (rec .done (some .ret)))/\W.heap[w.heap.size]?=some (.deferred (some []))) V (λs W h=>hrd s W h.1) (λs W m h=>⟨hdr s W m h.1,h.2.1,h.2.2⟩) ?_ ⟨hIV,vl,vd⟩).mono ?_
 rintro s W ⟨hi,hl,hd⟩ hok;have hy:=run_yield (P:=P) (args:=encs s) hl (by rw[hp];exact hps s);rw[<- hrec]at hy;refine⟨fn,_,assign,body,hy,roundIn_of_wpIn hfn (hassign _ s W _ ⟨_,run_beginRound hl (by rw[<- hrec]),?_⟩)⟩;have b1:=same (.loop {rec .ready none with state:=.busy}) hl;have b2:=keep (.loop {rec .ready none with state:=.busy}) hd;refine wpIn_mono (hbody _ s _ (put _ hi hl rfl) hok) ?_;rintro e a3 W3 hq;cases e with
 |normal=>
  have l3:=hq.1.same _ _ (by omega) b1 rfl;have d3:=hq.1.same _ _ (Nat.le_refl _) b2 rfl;have hr:=run_endRound (P:=P) none l3;rw[<- hrec]at hr l3;rw[<- hrec];exact⟨_,_,hr,.inl ⟨rfl,put _ hq.2 l3 rfl,same _ l3,keep _ d3⟩⟩
 |ret=>
  have l3:=hq.1.same _ _ (by omega) b1 rfl;have d3:=hq.1.same _ _ (Nat.le_refl _) b2 rfl;have hr:=run_endRound (P:=P) (some .ret) l3;rw[<- hrec]at hr l3;rw[<- hrec];exact⟨_,_,hr,.inr ⟨rfl,putx _ hq.2 l3 rfl,same _ l3,keep _ d3⟩⟩
 |exit id=>exact hq.elim|goto t=>exact hq.elim|panic ch=>exact hq.elim|outgrown=>exact hq.elim
 rintro e W2 ⟨⟨v,rfl⟩,⟨s,hf,hi,hl,hd⟩|⟨hi,hl,hd⟩⟩;have hr:=run_endLoop (P:=P) hl (by rw[<- hrec];simp);rw[<- hrec]at hr;exact⟨none,_,hr,hdone _ s _ (Nat.le_refl _) hf (put _ hi hl rfl) (keep _ hd)⟩;have hr:=run_endLoop (P:=P) hl (by rw[<- hrec];simp);rw[<- hrec]at hr;exact⟨some .ret,_,hr,hstop _ _ (Nat.le_refl _) (putx _ hi hl rfl) (keep _ hd)⟩
theorem qz{σ:Type}{g:Operand}{p q:Tmp}{assign body:Code}{Q:Exit->Act->World->Prop}{a:Act}{w:World}
  (hro:F.round=none) (h1:1<=n) {gf:Nat}{lb:Array Value} (hg:a.eval g=.func (.func gf) #[] lb) (hF:F.fn gf) (eg:∀args w,(callFunc gf args).run P w=.ok (.enter gf args) w)
  {enc:σ->Value}{ok:σ->Prop}{step:σ->σ}{rd:σ->World->Prop}{s0:σ}{fin:σ->Prop}
  (I:σ->World->Prop) (Ix:Code->World->Prop) (hI:OwnFrom w.heap.size I) (hIx:OwnFrom w.heap.size Ix) (hrd:∀s W,I s W->rd s W) (hdr:∀s W m,I s W->I s (W.drewN m))
  (hit:aBa F (n-1) P gf lb (λs=>#[enc s]) ok step rd s0 fin) (h0:I s0 w)
  (hassign:∀(l:Nat) (v:Value) (W:World) (K:Act->World->Prop),K {tmps:=(a.tmps.setIfInBounds p v).setIfInBounds q v,defers:=[]} W->
   assign.wpIn (F.inRound l) (n-1-1) P (Exit.then K (λ_ _ _=>False)) {tmps:=a.tmps.setIfInBounds p v,defers:=[]} W)
  (hbody:∀(l:Nat) (s:σ) (W:World),I s W->ok s->body.wpIn (F.inRound l) (n-1-1) P (aF3 w.heap.size I Ix (step s) W) {tmps:=(a.tmps.setIfInBounds p (enc s)).setIfInBounds q (enc s),defers:=[]} W)
  (hdone:∀(D:Nat) (s:σ) (W:World),w.heap.size<=D->fin s->I s W->W.heap[D]?=some (.deferred (some []))->Q .normal {a with defers:={target:=.collected D,args:=#[]}::a.defers} W)
  (hstop:∀(D:Nat) (W:World),w.heap.size<=D->Ix .ret W->W.heap[D]?=some (.deferred (some []))->Code.ret.wpIn F n P Q {a with defers:={target:=.collected D,args:=#[]}::a.defers} W):
  (Code.rangeFunc g #[p] assign body).wpIn F n P Q a w:=
 s9 hro h1 hg hF eg (λ_=>rfl) I Ix hI hIx hrd hdr hit h0 (λs=>{tmps:=(a.tmps.setIfInBounds p (enc s)).setIfInBounds q (enc s),defers:=[]}) (λl s W K hK=>by simpa using hassign l (enc s) W K hK) hbody hdone hstop
end Go
