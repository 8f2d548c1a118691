/- ETL -/
import Derived.Test.YtecnnbcfgijddaaGreatDoorETBrkZI
import Derived.Test.YtecnnbcfgijddaaGreatDoorETBrkZK
import Derived.Test.YtecnnbcfgijddaaGreatDoorRows
import Derived.JoinedCond
import Derived.LaidMore
import Derived.ProofKit
set_option linter.unusedSimpArgs false
set_option linter.unusedVariables false
namespace Go.Proofs.YtecnnbcfgijddaaGreatDoor.topBroken
open Go Go.ChangeShapes Go.WideShapes Go.ChangeAt Go.RowKit Go.Eng Go.Eng.Sv
abbrev RR:List (String×DataW Unit):=[("math/bits.deBruijn32tab", Rows.laid_math_bits_deBruijn32tab),("math/bits.deBruijn64tab", Rows.laid_math_bits_deBruijn64tab),("internal/strconv.uint64pow10", Rows.laid_internal_strconv_uint64pow10),("postilion/survey.keyWords", Rows.laid_postilion_survey_keyWords)]
theorem own:ownKnob Tryz.prog.godebug=none:=by kernel_rfl
theorem door_met(os:Os)(args:Array Value):laidMetH Tryz.prog RR ((World.doorLaid Tryz.prog 400 os).forCall (λ_ _=>0) ⟨#[],args,[]⟩).memory:=
 laidMetH_of_parts3 (fuel:=8) (laidMet_of_run' 8 (by kernel_rfl) (by kernel_rfl)) (by kernel_rfl) (by kernel_rfl)
theorem He{P:Program}{W:World}{x:String×DataW Unit}{r:List (String×DataW Unit)}{ps:List MemPlace}(h:DataW.LaidVars P W (x::r) ps):∃q,DataW.LaidVars P W r q:=by
 obtain⟨_,_,_,_,_,q',_,_,_,_,hr,_⟩:=h;exact⟨q',hr⟩
theorem RQ{P:Program}{n:String}{g:Nat}{ta te m:Nat}{w:World}{k:IntKind}{xs:List Int}(hg:P.globalNamed n=some g)(ht:(P.globals[g]?).map (·.type)=some ta)(ha:P.underlying ta=some (.array m te))
  (he:P.underlying te=some (.int k)) (hc:P.cellsOf te=1) (hne:0<m) {r:List (String×DataW Unit)}{ps:List MemPlace}
  (h:DataW.LaidVars P w ((n,.agg (xs.map λs=>.lit (.int k s)))::r) ps) (hca:P.cellsOf ta=m:=by kernel_rfl):jG P ⟨w,N8 w,noM,noE⟩ [(g,.ia (.int k) xs)]/\∃ps',DataW.LaidVars P w r ps':=by
 obtain⟨g',t',cs,fuel,p,q',hg',ht',hv,hd,hr,_⟩:=h;obtain rfl:=Option.some.inj (hg.symm.trans hg');obtain rfl:=Option.some.inj (ht.symm.trans ht');refine⟨λz hz=>?_,q',hr⟩;obtain rfl:=List.mem_singleton.1 hz;obtain⟨ys,f,rfl,hx,hlen,hm,hel⟩:=DataW.trod_array ha hd;simp only[Prod.mk.injEq,DataW.agg.injEq]at hx;have hxl:xs.length=m:=by
  have:=congrArg List.length hx.1;simpa[hm]using this
 have cell:∀i (hi:i<m),∃y,xs[i]?=some y/\w.cell? ⟨g,i,none⟩=some (.int k y):=by
  intro i hi;have h1:=hel i hi;rw[hc,Nat.mul_one,List.getElem?_eq_getElem (by omega)]at h1;obtain⟨s,e1,e2,_⟩:=DataW.trod_int he h1;have h2:cs[i]?=some (.int k s):=by
   have:=congrArg (·[0]?) e1;simpa[List.getElem?_take,List.getElem?_drop]using this
  refine⟨s,?_,by rw[World.var?_cell hg hv];exact h2⟩;have h3:=congrArg (·[i]?) hx.1;simp only[List.getElem?_map,List.getElem?_eq_getElem (show i<ys.length by omega),List.getElem?_eq_getElem (show i<xs.length by omega),Option.map_some,Option.some.injEq]at h3;rw[e2]at h3;simp only[DataW.lit.injEq,Lit.int.injEq]at h3;rw[List.getElem?_eq_getElem (by omega)];exact congrArg some h3.2
 have hblk:N8 w g:=by
  obtain⟨y,_,h2⟩:=cell 0 hne;show g<w.heap.size;unfold World.cell? at h2;split at h2;rename_i c t' fr hcc;exact(Array.getElem?_eq_some_iff.1 hcc).1;cases h2
 refine⟨rfl,⟨g,0,rfl,some ⟨g,0,none⟩,xs.length,by rfl,Nat.le_refl _,(λh=>by cases h),λa' ha' _=>by cases ha';rfl,λi y hy=>?_⟩,hblk,?_⟩
 rotate_left
 have hv':=hv;simp only[World.var?,hg,Option.bind_some]at hv';split at hv';rename_i c' el fr hcc;cases hv';exact⟨_,el,fr,hcc,by rw[<- Array.length_toList,hlen,hca];show m=xs.length*1;omega⟩;cases hv';have hi:=(List.getElem?_eq_some_iff.1 hy).1;obtain⟨y',e1,e2⟩:=cell i (by omega);obtain rfl:=Option.some.inj (hy.symm.trans e1);refine⟨⟨g,0,none⟩,[.int k y],rfl,hblk,λj u hj=>?_,rfl⟩;have:j=0:=by
  have:=(List.getElem?_eq_some_iff.1 hj).1;simp at this;omega
 subst this;obtain rfl:Value.int k y=u:=by simpa using hj
 simpa[Ty.sz]using e2
theorem glob{W:World}(h:laidMetH Tryz.prog RR W):jG Tryz.prog ⟨W,N8 W,noM,noE⟩ G0:=by
 rw[MakeChecks.laidMetH_plain _ _ _ (by kernel_rfl)]at h;obtain⟨ps,hv,_⟩:=h;obtain⟨_,hv⟩:=He hv;obtain⟨_,hv⟩:=He hv;obtain⟨h1,_,hv⟩:=RQ (P:=Tryz.prog) (n := "internal/strconv.uint64pow10") (g:=1) (m:=20) (ta:=278) (te:=257) (k:=.u64) (xs:=p10) (by kernel_rfl) (by kernel_rfl) (by kernel_rfl) (by kernel_rfl) (by kernel_rfl) (by decide) hv
 have h2:=(laid_strs (P:=Tryz.prog) (n := "postilion/survey.keyWords") (g:=0) (m:=17) (ta:=274) (te:=9) (xs:=kw) (by kernel_rfl) (by kernel_rfl) (by kernel_rfl) (by kernel_rfl) (by kernel_rfl) (by decide) (by decide) hv).1
 intro z hz;rcases List.mem_cons.1 hz with rfl|hz;exact h2 _ List.mem_cons_self;exact h1 _ hz
set_option maxRecDepth 100000 in
theorem lifted(os:Os)(started:os.Started)(H:Type)(enc:TypeId×Value->H):
  ReturnsInHanded {} Tryz.checked os 3 .any (λw args=>(Rows.topBrokenSpec.pre enc Tryz.prog Tryz.f3 [] false w args/\laidMetH Tryz.prog RR w)/\sizedMet enc Tryz.prog Tryz.f3 (OpenSpec.ofChange Rows.topBrokenSpec) false w args)
   (Rows.topBrokenSpec.post enc Tryz.prog Tryz.f3 false true false false):=by
 refine returnsInHanded_of_change_and (C:=Tryz.checked) (X:=λw _=>laidMetH Tryz.prog RR w) (λ_ _ _ hh h=>h.of_heap hh) own started (by kernel_rfl) Tryz.func3
  (ChangeSpec.witness_shaped (enc:=enc) (C:=Tryz.checked) (os:=os) (X:=λw _=>laidMetH Tryz.prog RR w) false (World.doorLaid Tryz.prog 400 os) #[.agg #[.slice none 0 0,.slice none 0 0,.slice none 0 0,.slice none 0 0,.slice none 0 0,.slice none 0 0],.slice none 0 0,.slice none 0 0] 8 rfl (World.shaped_of_RefB (by kernel_rfl) (by kernel_rfl)) (by kernel_rfl) (by kernel_rfl) (by kernel_rfl) (door_met os _)) ?_
 intro W base args ds gs before hval hW _ _ hL _;exact law_contractG (l:=[(true,N),(false,R),(false,.sl Df)]) (X:=λx=>okL [(true,N),(false,R),(false,.sl Df)] x) (λx hx=>(Vg Qh x.2.1 x.2.2.1 x.1.1 x.1.2.1 x.1.2.2.1 x.1.2.2.2.1 x.1.2.2.2.2.1 x.1.2.2.2.2.2).weaken λ_=>⟨hx.2.1.1,by
   have h:=hx.2.2.1;refine⟨by unfold lP;rw[List.length_map];exact h.1,λd hd=>?_⟩;obtain⟨e,he,rfl⟩:=List.mem_map.1 hd;exact(h.2 e he).2.2.1⟩) (by kernel_rfl) (by kernel_rfl) (by kernel_rfl) (rt:=4) (by kernel_rfl) (by kernel_rfl) rfl
  (λhl=>by
   match ds,hl with
   |[a,b,c],_=>rfl) hval hW (λ_ h _=>h) (glob hL)
end Go.Proofs.YtecnnbcfgijddaaGreatDoor.topBroken
