/- ToQ -/
import Derived.Test.YtecnnbcfgijddaaGreatDoorETBrkM
import Derived.Test.YtecnnbcfgijddaaGreatDoorETBrkO
set_option linter.unusedSimpArgs false
set_option linter.unusedVariables false
namespace Go
variable {P:Program} {ops:Array Oper} {Q:Exit->Act->World->Prop} {md:Region.Mode} {l n:Nat}
theorem Oper.wpIn_of_wp{o:Oper}{a:Act}{w:World}{K:Act->World->Prop}(hd:∀c,o.op≠.defer c)(h:o.wp P a w K Q):o.wpIn (Fence.wide.inRound l) n P a w K Q:=by
 refine⟨λ_ _=>trivial,?_⟩;rw[Oper.semAt_eq _ _ _ hd];unfold Oper.wp at h;revert h;generalize (execOp a.eval o).run P w=r;intro h;unfold Oper.upon at h;unfold Oper.uponIn;split at h;exact h;exact h;exact h;exact⟨λe=>(by cases e),CallsIn.inRound l (callsIn_wide.2 h)⟩;exact⟨λe=>(by cases e),λc cs _=>by
  obtain⟨v,w',r,s⟩:=h c cs;exact⟨v,w',r,stepsIn_wide.2 s⟩⟩
 exact h;exact h.elim
theorem DY{i:Nat}{a:Act}{w:World}{K:Act->World->Prop}(hd:∀(i:Nat) (o:Oper) c,ops[i]?=some o->o.op≠.defer c)(hq:¬LetsOut Q)(h:wpOp P ops Q i K a w):wpOpIn (Fence.wide.inRound l) n P ops Q i K a w:=by
 unfold wpOp at h;unfold wpOpIn;cases e:ops[i]? with
 |none=>rw[e]at h;exact h|some o=>
  rw[e]at h;dsimp only at h ⊢;split;rename_i hw;rw[if_pos hw]at h;rcases h with h|h;exact Oper.wpIn_of_wp (λc=>hd i o c e) h;exact absurd h.2 hq;rename_i hw;rw[if_neg hw]at h;exact⟨λ_ _=>trivial,h⟩
theorem oZ(hd:∀(i:Nat) (o:Oper) c,ops[i]?=some o->o.op≠.defer c)(hq:¬LetsOut Q):∀(fuel:Nat) (listed:Array Bool) (a:Act) (w:World),wpAny P md ops Q fuel listed a w->wpAnyIn (Fence.wide.inRound l) n P md ops Q fuel listed a w|0,_,_,_,h=>h|fuel+1,listed,a,w,h=>⟨h.1,λi hi=>wpOpIn_mono (λa' w' h'=>oZ hd hq fuel _ a' w' h') (DY hd hq (h.2 i hi))⟩
def oB(ops:Array Oper):Bool:=ops.all λo=>match o.op with|.defer _=>false|_=>true
theorem fw(S0 S:World->Prop)(lt:Nat->Bool){id:Nat}{a:Act}{w:World}(hm:P.follows .mixedOrders=true)(hd:oB ops=true)(hq:¬LetsOut Q)
  (h:b7 P .any ops Q S0 S lt ops.size (Array.replicate ops.size false) a w.drew):(Code.region id ops true).wpIn (Fence.wide.inRound l) n P Q a w:=
 wpIn_region_any hm (oZ (λi o c e hc=>by
  have:=Array.all_eq_true'.1 hd o (Array.mem_of_getElem? e);rw[hc]at this;cases this) hq _ _ _ _ (qD _ _ _ _ h))
theorem oP{W:World}{a:Addr}{v:Value}{o:Obj}(h:W.cell? a=some v):(W.alloc o).cell? a=some v:=cell_kept h (World.grownBy_alloc W o none) (λr e=>by cases e)
end Go
