/- ToLu -/
import Derived.Test.YtecnnbcfgijddaaGreatDoorETBrkO
import Derived.Tactics
import Derived.KernelRfl
set_option linter.unusedSimpArgs false
set_option linter.unusedVariables false
namespace Go
section
variable {P:Program}{ops:Array Oper}{Q:Exit->Act->World->Prop}{md:Region.Mode}{S0 S:World->Prop}{lt:Nat->Bool}
theorem aX(i:Nat){d fuel:Nat}{oi:Oper}{v:Value}{listed L:Array Bool}{a A:Act}{w:World}(h:b7 P md ops Q S0 S lt fuel L A w)
  (hi:ops[i]?=some oi:=by rfl) (hd:oi.dst=some d:=by rfl) (hg:oi.guard=none:=by rfl) (hs:Region.noSelect ops=true:=by kernel_rfl) (hf:Region.free md ops listed i=true:=by kernel_rfl) (hr:(Region.ready md ops listed).contains i=true:=by kernel_rfl)
  (hQ:∀c a w,Q (.panic c) (a.put oi.dst v) w->Q (.panic c) a w:=by exact λ_ _ _ h=>h) (hT:S0 w:=by first|assumption|exact trivial|exact oP (by assumption)|(go_simp;done))
  (hy:∀w,S0 w->(execOp a.eval oi).run P w=.ok (.value v) w:=by intro w hSw;(try dsimp only at hSw);(repeat (obtain⟨_,hSw⟩:=hSw));go_simp;(try with_reducible rfl))
  (eL:listed.setIfInBounds i true=L:=by conv=>lhs;simp only[List.setIfInBounds_toArray,List.set_cons_zero,List.set_cons_succ]) (eA:a.put (some d) v=A:=by conv=>lhs;simp only[Act.put,List.setIfInBounds_toArray,List.set_cons_zero,List.set_cons_succ]):b7 P md ops Q S0 S lt (fuel+1) listed a w:=
 PI hi hd hg hs hf hr hQ hT hy (by rw[eL,eA];exact h)
theorem lU(i:Nat){d fuel:Nat}{oi:Oper}{v:Value}{listed L:Array Bool}{a A:Act}{w:World}(h:b7 P md ops Q S0 S lt fuel L A w)
  (hi:ops[i]?=some oi:=by rfl) (hd:oi.dst=some d:=by rfl) (hg:oi.guard=none:=by rfl) (hs:Region.noSelect ops=true:=by kernel_rfl) (hf:Region.free md ops listed i=true:=by kernel_rfl) (hr:(Region.ready md ops listed).contains i=true:=by kernel_rfl) (hl:RP md ops lt i=true:=by kernel_rfl)
  (hQ:∀c a w,Q (.panic c) (a.put oi.dst v) w->Q (.panic c) a w:=by exact λ_ _ _ h=>h) (hT:S0 w:=by first|assumption|exact trivial|exact oP (by assumption)|(go_simp;done)) (hS:S w:=by(try dsimp only);(repeat' apply And.intro)<;>first|assumption|exact trivial|exact oP (by assumption)|(go_simp;done))
  (hy:∀w,S w->(execOp a.eval oi).run P w=.ok (.value v) w:=by intro w hSw;(try dsimp only at hSw);(repeat (obtain⟨_,hSw⟩:=hSw));go_simp;(try with_reducible rfl))
  (eL:listed.setIfInBounds i true=L:=by conv=>lhs;simp only[List.setIfInBounds_toArray,List.set_cons_zero,List.set_cons_succ]) (eA:a.put (some d) v=A:=by conv=>lhs;simp only[Act.put,List.setIfInBounds_toArray,List.set_cons_zero,List.set_cons_succ]):b7 P md ops Q S0 S lt (fuel+1) listed a w:=
 PH hi hd hg hs hf hr hl hQ hT hS hy (by rw[eL,eA];exact h)
theorem bA(i:Nat){fuel:Nat}{o:Oper}{listed L:Array Bool}{a A A':Act}{w w':World}(h:b7 P md ops Q S0 S lt fuel L A' w')
  (hr:Region.ready md ops listed=[i]:=by kernel_rfl) (ho:ops[i]?=some o:=by rfl) (hg:o.guard=none:=by rfl)
  (hz:∀K:Act->World->Prop,K A w'->Oper.wp P o a w K Q:=by intro K hK;go_simp;exact hK) (hT:S0 w':=by first|assumption|exact trivial|exact oP (by assumption)|(go_simp;done))
  (hS:lt i=false->S w->S w':=by first|exact λh=>absurd h (by decide)|(intro _ _;(try dsimp only);(repeat' apply And.intro)<;>first|assumption|exact trivial|exact oP (by assumption)|(go_simp;done)))
  (eL:listed.setIfInBounds i true=L:=by conv=>lhs;simp only[List.setIfInBounds_toArray,List.set_cons_zero,List.set_cons_succ]) (eA:A=A':=by conv=>lhs;(try simp only[Act.put,List.setIfInBounds_toArray,List.set_cons_zero,List.set_cons_succ])):b7 P md ops Q S0 S lt (fuel+1) listed a w:=
 zb hr ho hg λK hK=>hz K (hK _ _ ⟨⟨hT,hS⟩,by rw[eL,eA];exact h⟩)
theorem pq(i:Nat){o:Oper}{fuel:Nat}{listed:Array Bool}{a:Act}{w:World}(h:∀K:Act->World->Prop,(∀a' w',(S0 w'/\(lt i=false->S w->S w'))/\b7 P md ops Q S0 S lt fuel (listed.setIfInBounds i true) a' w'->K a' w')->Oper.wp P o a w K Q)
  (hr:Region.ready md ops listed=[i]:=by kernel_rfl) (ho:ops[i]?=some o:=by rfl) (hg:o.guard=none:=by rfl):b7 P md ops Q S0 S lt (fuel+1) listed a w:=
 zb hr ho hg h
theorem ji{X Z:World->Prop}{c:Bool}{Y p:Prop}{R K:Act->World->Prop}{A:Act}{W:World}(hK:∀a' w',(X w'/\(c=false->Y->Z w'))/\R a' w'->K a' w')(h:p)
  (hT:X W:=by first|assumption|exact trivial|exact oP (by assumption)|(go_simp;done)) (hS:c=false->Y->Z W:=by first|exact λh=>absurd h (by decide)|(intro _ _;(try dsimp only);(repeat' apply And.intro)<;>first|assumption|exact trivial|exact oP (by assumption)|(go_simp;done)))
  (e:R A W=p:=by conv=>lhs;(try simp only[Act.put,List.setIfInBounds_toArray,List.set_cons_zero,List.set_cons_succ])):K A W:=
 hK _ _ ⟨⟨hT,hS⟩,e▸h⟩
end
end Go
