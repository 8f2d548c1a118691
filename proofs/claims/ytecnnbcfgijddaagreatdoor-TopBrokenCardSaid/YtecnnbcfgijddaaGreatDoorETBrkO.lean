/- ToL -/
import Derived.OrdersHeld
import Derived.Laws.World
set_option linter.unusedSimpArgs false
set_option linter.unusedVariables false
namespace Go
section
variable {P:Program}{ops:Array Oper}{Q:Exit->Act->World->Prop}{md:Region.Mode}{S0 S:World->Prop}{lt:Nat->Bool}
def b7(P:Program)(md:Region.Mode)(ops:Array Oper)(Q:Exit->Act->World->Prop)(S0 S:World->Prop)(lt:Nat->Bool):Nat->Array Bool->Act->World->Prop
 |0,listed,a,w=>Region.ready md ops listed=[]/\Q .normal a w|fuel+1,listed,a,w=>(Region.ready md ops listed=[]->Q .normal a w)/\
  ∀i∈Region.ready md ops listed,wpOp P ops Q i (λa' w'=>(S0 w'/\(lt i=false->S w->S w'))/\b7 P md ops Q S0 S lt fuel (listed.setIfInBounds i true) a' w') a w
theorem qD:∀(fuel:Nat) (listed:Array Bool) (a:Act) (w:World),b7 P md ops Q S0 S lt fuel listed a w->wpAny P md ops Q fuel listed a w|0,_,_,_,h=>h|fuel+1,_,_,_,h=>⟨h.1,λi hi=>wpOp_mono (λa' w' h'=>qD fuel _ a' w' h'.2) (h.2 i hi)⟩
def RP(md:Region.Mode)(ops:Array Oper)(lt:Nat->Bool)(i:Nat):Bool:=(List.range ops.size).all λj=>!lt j||match ops[j]? with|some oj=>oj.after.any λe=>Region.binds md e&&e.on==i|none=>true
theorem WV{i j:Nat}{listed:Array Bool}(hl:RP md ops lt i=true)(hi:i∈Region.ready md ops listed)(hj:j∈Region.ready md ops listed):lt j=false:=by
 cases e:lt j with
 |false=>rfl|true=>
  obtain⟨_,oj,hoj,hall⟩:=mem_ready.1 hj;have:=List.all_eq_true.1 hl j (List.mem_range.2 (Array.getElem?_eq_some_iff.1 hoj).1);simp only[e,hoj,Bool.not_true,Bool.false_or]at this;obtain⟨x,hx,hb⟩:=Array.any_eq_true'.1 this;simp only[Bool.and_eq_true,beq_iff_eq]at hb;have h1:=hall x hx hb.1;have h0:=(mem_ready.1 hi).1;rw[hb.2]at h1;rcases Nat.lt_or_ge i listed.size with h'|h';simp[h']at h0 h1;rw[h0]at h1;cases h1;simp[Array.getElem?_eq_none h']at h1
theorem D4{i:Nat}{oi:Oper}{v:Value}(hi:ops[i]?=some oi)(hsel:∀(j:Nat) (o:Oper) cs b,ops[j]?=some o->o.op≠.select cs b)
  (hQ:∀c a w,Q (.panic c) (a.put oi.dst v) w->Q (.panic c) a w) (hl:RP md ops lt i=true):
  ∀(fuel:Nat) (listed:Array Bool) (a:Act) (w:World),
   (∀j oj,ops[j]?=some oj->j≠i->listed.getD j true=false->(∀e∈oj.after,Region.binds md e=true->e.on≠i)->oi.apart ops oj=true)->
   i∈Region.ready md ops listed->YieldsIf P ops S oi v a->S0 w->S w->
   b7 P md ops Q S0 S lt fuel (listed.setIfInBounds i true) (a.put oi.dst v) w->b7 P md ops Q S0 S lt (fuel+1) listed a w:=by
 intro fuel;induction fuel with
 |zero=>
  intro listed a w _ hr hy hT hS H;refine⟨λh=>(by rw[h]at hr;cases hr),λj hj=>?_⟩;by_cases hji:j=i;subst hji;exact hy.wpOp hi hS ⟨⟨hT,λ_ hS=>hS⟩,H⟩;have:=ready_mono hj hji;rw[H.1]at this;cases this
 |succ fuel ih=>
  intro listed a w hfree hr hy hT hS H;refine⟨λh=>(by rw[h]at hr;cases hr),λj hj=>?_⟩;by_cases hji:j=i;subst hji;exact hy.wpOp hi hS ⟨⟨hT,λ_ hS=>hS⟩,H⟩;have g1:=H.2 j (ready_mono hj hji);have gl:lt j=false:=WV hl hr hj;obtain⟨un,oj,hoj,hall⟩:=mem_ready.1 hj;have wait:∀e∈oj.after,Region.binds md e=true->e.on≠i:=λe he hb heq=>by
   have h1:=hall e he hb;have h0:=(mem_ready.1 hr).1;rw[heq]at h1;rcases Nat.lt_or_ge i listed.size with h'|h';simp[h']at h0 h1;rw[h0]at h1;cases h1;simp[Array.getElem?_eq_none h']at h1
  have g2:=wpOp_putIf hoj (hfree j oj hoj hji un wait) (λcs b=>hsel i oi cs b hi) (λcs b=>hsel j oj cs b hoj) hQ hy g1;refine wpOp_mono (λa' w' q=>⟨⟨q.2.1.1,λ_=>q.2.1.2 gl⟩,ih (listed.setIfInBounds j true) a' w' (λk ok hk hki hun hno=>?_) (ready_mono hr (Ne.symm hji)) q.1 q.2.1.1 (q.2.1.2 gl hS) ?_⟩) g2;refine hfree k ok hk hki ?_ hno;by_cases hjk:j=k;subst hjk;exact un;rw[getD_set_ne true hjk]at hun;exact hun;rw[Array.setIfInBounds_comm _ _ hji];exact q.2.2
theorem Bm{i:Nat}{oi:Oper}{v:Value}(hi:ops[i]?=some oi)(hsel:∀(j:Nat) (o:Oper) cs b,ops[j]?=some o->o.op≠.select cs b)
  (hQ:∀c a w,Q (.panic c) (a.put oi.dst v) w->Q (.panic c) a w):
  ∀(fuel:Nat) (listed:Array Bool) (a:Act) (w:World),
   (∀j oj,ops[j]?=some oj->j≠i->listed.getD j true=false->(∀e∈oj.after,Region.binds md e=true->e.on≠i)->oi.apart ops oj=true)->
   i∈Region.ready md ops listed->YieldsIf P ops S0 oi v a->S0 w->
   b7 P md ops Q S0 S lt fuel (listed.setIfInBounds i true) (a.put oi.dst v) w->b7 P md ops Q S0 S lt (fuel+1) listed a w:=by
 intro fuel;induction fuel with
 |zero=>
  intro listed a w _ hr hy hT H;refine⟨λh=>(by rw[h]at hr;cases hr),λj hj=>?_⟩;by_cases hji:j=i;subst hji;exact hy.wpOp hi hT ⟨⟨hT,λ_ hS=>hS⟩,H⟩;have:=ready_mono hj hji;rw[H.1]at this;cases this
 |succ fuel ih=>
  intro listed a w hfree hr hy hT H;refine⟨λh=>(by rw[h]at hr;cases hr),λj hj=>?_⟩;by_cases hji:j=i;subst hji;exact hy.wpOp hi hT ⟨⟨hT,λ_ hS=>hS⟩,H⟩;have g1:=H.2 j (ready_mono hj hji);obtain⟨un,oj,hoj,hall⟩:=mem_ready.1 hj;have wait:∀e∈oj.after,Region.binds md e=true->e.on≠i:=λe he hb heq=>by
   have h1:=hall e he hb;have h0:=(mem_ready.1 hr).1;rw[heq]at h1;rcases Nat.lt_or_ge i listed.size with h'|h';simp[h']at h0 h1;rw[h0]at h1;cases h1;simp[Array.getElem?_eq_none h']at h1
  have g2:=wpOp_putIf hoj (hfree j oj hoj hji un wait) (λcs b=>hsel i oi cs b hi) (λcs b=>hsel j oj cs b hoj) hQ hy g1;refine wpOp_mono (λa' w' q=>⟨⟨q.2.1.1,q.2.1.2⟩,ih (listed.setIfInBounds j true) a' w' (λk ok hk hki hun hno=>?_) (ready_mono hr (Ne.symm hji)) q.1 q.2.1.1 ?_⟩) g2;refine hfree k ok hk hki ?_ hno;by_cases hjk:j=k;subst hjk;exact un;rw[getD_set_ne true hjk]at hun;exact hun;rw[Array.setIfInBounds_comm _ _ hji];exact q.2.2
theorem I2{i:Nat}{oi:Oper}{v:Value}{fuel:Nat}{listed:Array Bool}{a:Act}{w:World}(hi:ops[i]?=some oi)(hs:Region.noSelect ops=true)(hf:Region.free md ops listed i=true)(hr:(Region.ready md ops listed).contains i=true)
  (hl:RP md ops lt i=true) (hQ:∀c a w,Q (.panic c) (a.put oi.dst v) w->Q (.panic c) a w) (hy:YieldsIf P ops S oi v a) (hT:S0 w) (hS:S w)
  (h:b7 P md ops Q S0 S lt fuel (listed.setIfInBounds i true) (a.put oi.dst v) w):b7 P md ops Q S0 S lt (fuel+1) listed a w:=
 D4 hi (Region.noSelect_spec hs) hQ hl fuel listed a w (Region.free_spec hi hf) (by simpa using hr) hy hT hS h
theorem DZ{i:Nat}{oi:Oper}{v:Value}{fuel:Nat}{listed:Array Bool}{a:Act}{w:World}(hi:ops[i]?=some oi)(hs:Region.noSelect ops=true)(hf:Region.free md ops listed i=true)(hr:(Region.ready md ops listed).contains i=true)
  (hQ:∀c a w,Q (.panic c) (a.put oi.dst v) w->Q (.panic c) a w) (hy:YieldsIf P ops S0 oi v a) (hT:S0 w)
  (h:b7 P md ops Q S0 S lt fuel (listed.setIfInBounds i true) (a.put oi.dst v) w):b7 P md ops Q S0 S lt (fuel+1) listed a w:=
 Bm hi (Region.noSelect_spec hs) hQ fuel listed a w (Region.free_spec hi hf) (by simpa using hr) hy hT h
theorem PI{d i:Nat}{oi:Oper}{v:Value}{fuel:Nat}{listed:Array Bool}{a:Act}{w:World}(hi:ops[i]?=some oi)(hd:oi.dst=some d)(hg:oi.guard=none)(hs:Region.noSelect ops=true)(hf:Region.free md ops listed i=true)(hr:(Region.ready md ops listed).contains i=true)
  (hQ:∀c a w,Q (.panic c) (a.put oi.dst v) w->Q (.panic c) a w) (hT:S0 w) (hy:∀w,S0 w->(execOp a.eval oi).run P w=.ok (.value v) w)
  (h:b7 P md ops Q S0 S lt fuel (listed.setIfInBounds i true) (a.put (some d) v) w):b7 P md ops Q S0 S lt (fuel+1) listed a w:=
 DZ hi hs hf hr hQ (.inl ⟨by simp[Region.wanted,hg],hy⟩) hT (hd▸h)
theorem PH{d i:Nat}{oi:Oper}{v:Value}{fuel:Nat}{listed:Array Bool}{a:Act}{w:World}(hi:ops[i]?=some oi)(hd:oi.dst=some d)(hg:oi.guard=none)(hs:Region.noSelect ops=true)(hf:Region.free md ops listed i=true)(hr:(Region.ready md ops listed).contains i=true)
  (hl:RP md ops lt i=true) (hQ:∀c a w,Q (.panic c) (a.put oi.dst v) w->Q (.panic c) a w) (hT:S0 w) (hS:S w) (hy:∀w,S w->(execOp a.eval oi).run P w=.ok (.value v) w)
  (h:b7 P md ops Q S0 S lt fuel (listed.setIfInBounds i true) (a.put (some d) v) w):b7 P md ops Q S0 S lt (fuel+1) listed a w:=
 I2 hi hs hf hr hl hQ (.inl ⟨by simp[Region.wanted,hg],hy⟩) hT hS (hd▸h)
theorem zc{rs:List Nat}{fuel:Nat}{listed:Array Bool}{a:Act}{w:World}(hr:Region.ready md ops listed=rs)(hne:rs≠[])
  (h:∀i∈rs,wpOp P ops Q i (λa' w'=>(S0 w'/\(lt i=false->S w->S w'))/\b7 P md ops Q S0 S lt fuel (listed.setIfInBounds i true) a' w') a w):b7 P md ops Q S0 S lt (fuel+1) listed a w:=
 ⟨λh0=>absurd (hr▸h0) hne,hr▸h⟩
theorem zb{i:Nat}{o:Oper}{fuel:Nat}{listed:Array Bool}{a:Act}{w:World}(hr:Region.ready md ops listed=[i])(ho:ops[i]?=some o)(hg:o.guard=none)
  (h:∀K:Act->World->Prop,(∀a' w',(S0 w'/\(lt i=false->S w->S w'))/\b7 P md ops Q S0 S lt fuel (listed.setIfInBounds i true) a' w'->K a' w')->Oper.wp P o a w K Q):b7 P md ops Q S0 S lt (fuel+1) listed a w:=by
 refine zc hr (by simp) λj hj=>?_;obtain rfl:=List.mem_singleton.1 hj;unfold wpOp;simp only[ho];have hw:Region.wanted o (yielded ops a.tmps)=true:=by simp[Region.wanted,hg]
 rw[if_pos hw];exact .inl (h _ λ_ _ h=>h)
theorem mV{i j:Nat}{o o':Oper}{fuel:Nat}{listed:Array Bool}{a:Act}{w:World}(hr:Region.ready md ops listed=[i,j])(ho:ops[i]?=some o)(ho':ops[j]?=some o')(hg:o.guard=none)(hg':o'.guard=none)
  (h:∀K:Act->World->Prop,(∀a' w',(S0 w'/\(lt i=false->S w->S w'))/\b7 P md ops Q S0 S lt fuel (listed.setIfInBounds i true) a' w'->K a' w')->Oper.wp P o a w K Q)
  (h':∀K:Act->World->Prop,(∀a' w',(S0 w'/\(lt j=false->S w->S w'))/\b7 P md ops Q S0 S lt fuel (listed.setIfInBounds j true) a' w'->K a' w')->Oper.wp P o' a w K Q):b7 P md ops Q S0 S lt (fuel+1) listed a w:=by
 refine zc hr (by simp) λq hq=>?_;rcases List.mem_cons.1 hq with rfl|hq;unfold wpOp;simp only[ho];have hw:Region.wanted o (yielded ops a.tmps)=true:=by simp[Region.wanted,hg]
 rw[if_pos hw];exact .inl (h _ λ_ _ h=>h);obtain rfl:=List.mem_singleton.1 hq;unfold wpOp;simp only[ho'];have hw:Region.wanted o' (yielded ops a.tmps)=true:=by simp[Region.wanted,hg']
 rw[if_pos hw];exact .inl (h' _ λ_ _ h=>h)
theorem cU{listed:Array Bool}{a:Act}{w:World}(hr:Region.ready md ops listed=[])(h:Q .normal a w):∀fuel,b7 P md ops Q S0 S lt fuel listed a w|0=>⟨hr,h⟩|_+1=>⟨λ_=>h,by rw[hr];simp⟩
theorem nJ(S0 S:World->Prop)(lt:Nat->Bool){id:Nat}{a:Act}{w:World}(hm:P.follows .mixedOrders=true)(h:b7 P .any ops Q S0 S lt ops.size (Array.replicate ops.size false) a w.drew):(Code.region id ops true).wp P Q a w:=
 wp_region_any hm (qD _ _ _ _ h)
end
end Go
