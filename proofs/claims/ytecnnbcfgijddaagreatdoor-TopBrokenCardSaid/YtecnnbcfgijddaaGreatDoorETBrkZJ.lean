/- H19 -/
import Derived.Test.YtecnnbcfgijddaaGreatDoorETBrkE
import Derived.ChangeSame
import Derived.Carry
set_option linter.unusedSimpArgs false
set_option linter.unusedVariables false
namespace Go.Eng
open Go.RowKit Go.ChangeShapes
theorem BN{H:Type}{enc:TypeId×Value->H}{P:Program}{f:Func}{s:ChangeSpec}{apart fresh y again:Bool}{W W':World}{args:Array Value}{v:Value}{ds gs:List (DataW H)}{before pa pv:List MemPlace}
  (hW:DataW.Whole enc P f.params.toList s.vars apart W args.toList ds gs before) (hb:Below W.heap.size W W')
  (z:∀(b:Nat) (sp:Nat->Bool) (hd:Bool),DataW.TrodAll enc P W' b sp hd f.resultTypes.toList (v.resultList f.resultTypes.size) (s.fn H (ds++gs)).results [])
  (u:∀sp:Nat->Bool,(∀p∈before,sp p.block=true)->DataW.TrodAll enc P W' 0 sp true f.params.toList args.toList (s.fn H (ds++gs)).args pa)
  (h:∀sp:Nat->Bool,(∀p∈before,sp p.block=true)->DataW.TrodVars enc P W' sp s.vars (s.fn H (ds++gs)).vars pv)
  (A:before=pa++pv)
  (hok:∀(j:Nat) (t:TypeId) (r:Value),f.resultTypes[j]?=some t->(v.resultList f.resultTypes.size)[j]?=some r->Value.okWide P W' .any 0 t r):
  s.post enc P f apart fresh y again W args v W':=by
 have X:∀p∈before,p.block<W.heap.size:=λp G=>hW.lt p G;have hold:∀p∈before,(λb=>decide (b<W.heap.size)) p.block=true:=λp G=>by simpa using X p G
 refine⟨ds,gs,before,[],pa,pv,hW,z _ _ _,u _ hold,h _ hold,hb.frame _,λ_=>?_⟩;obtain⟨_,_,_,_,_,hz,hn⟩:=hW;refine⟨hok,_,_,([]++pa)++pv,⟨[]++pa,pv,trodAll_append (u _ (λ_ _=>rfl)) (z _ _ _),h _ (λ_ _=>rfl),rfl,?_,?_⟩,?_⟩;intro b off G;have L:MemPlace.cell b off∈before:=by rw[A];simpa using G
 rw[hb.frozen (X _ L)];exact hz b off L;intro ha;have:=hn ha;rw[A]at this;simpa using this;intro p G _;rw[A];simpa using G
end Go.Eng
