/- JoC -/
import Derived.Test.YtecnnbcfgijddaaGreatDoorETPrmE
import Derived.Test.YtecnnbcfgijddaaGreatDoorETPrmZK
set_option linter.unusedSimpArgs false
set_option linter.unusedVariables false
namespace Go.Eng.Sv
open Go.Proofs Go.RowKit
def joF(l:List ByteArray)(s:ByteArray):ByteArray:=⟨(Go.Lib.join (l.map (·.data.toList)) s.data.toList).toArray⟩
def joP(l:List ByteArray)(k:Nat)(s:ByteArray):Prop:=l.length=k/\l.length<=1000000/\s.size<=1000/\∀x∈l,x.size<=1000
theorem Xi{l:List (List UInt8)}{s:List UInt8}{a b:Nat}(L:s.length<=a)(j:∀x∈l,x.length<=b):(Go.Lib.join l s).length<=l.length*(a+b):=by
 cases l with
 |nil=>exact wE _|cons x r=>
  rw[Go.Lib.join_cons,qG];have G:=j x wO;have:∀r:List (List UInt8),(∀x∈r,x.length<=b)->(Go.Lib.joinTail s r).length<=r.length*(a+b):=λr=>by
   induction r with
   |nil=>intro _;exact wE _
   |cons y r u=>
    intro h;have A:=u λz f=>h z (wU _ f);have h2:=h y wO;unfold Go.Lib.joinTail at A ⊢;rw[wR,xQ,qG,qG,wH,Nat.succ_mul];omega
  have X:=this r λz f=>j z (wU _ f);rw[wH,Nat.succ_mul];omega
theorem aB9{G:List (Nat×AV)}{te:TypeId}(xs:List ByteArray)(k:Nat)(s:ByteArray):aj Tryz.prog G 58 [.buf 0 k,.dat .str s] [(0,.buf te .str xs [])] ⟨joP xs k s,.dat .str (joF xs s),[]⟩:=by
 rintro⟨hk,hl,hs,hx⟩ w D E us hD _ L X;obtain⟨v,_,rfl,hv,u,_,rfl,hu,rfl⟩:=L;obtain rfl:v=(E 0).handle k:=(hv _ rfl).2 hk;cases(hu:[u]=[Value.string s]);obtain⟨raw,A,hel⟩:=X.bl 0 _ rfl;have hJ:Calls Tryz.prog 58 #[(E 0).handle k,.string s] w λe w'=>e=.returned (.string (joF xs s))/\Below w.heap.size w w':=by
  rw[<- hk];rcases id A with⟨z,⟨e,h0⟩|⟨g,cap,cur,e,hg,hb,hcap,_,hsz,htk⟩⟩;have h0:xs=[]:=vI h0;subst h0;have e:(E 0).handle 0=.slice none 0 0:=e;show Calls _ 58 #[(E 0).handle 0,_] _ _;rw[e];exact(Any.strings_Join_none Tryz.joinA Tryz.joinX none 0 s w).mono λe w' ⟨he,hw⟩=>⟨he,hw▸Below.refl _ _⟩;have e:(E 0).handle xs.length=.slice (some ⟨g,0,none⟩) xs.length cap:=e;rw[e];have hlen:=Xi (l:=xs.map (·.data.toList)) (s:=s.data.toList) (a:=1000) (b:=1000) hs λx h=>by
   obtain⟨y,hy,rfl⟩:=vU.1 h;exact hx y hy
  refine Any.strings_Join Tryz.joinA Tryz.joinX g 0 cap xs s w (λj x hj=>?_) (qK.1 hb).1 Z hcap (by rw[vT]at hlen;omega);have z:(raw.drop (j*1)).take 1=[Value.string x]:=hel j x hj;rw[yS]at z;have z:raw[j]?=some (.string x):=by
   have:=zX (λl=>l[0]?) z;simpa[vW,vO]using this
  have:=A.cells (g:=g) (by show((E 0).handle xs.length).ownBlock=_;rw[e];rfl) j _ z;rwa [show(⟨g,0,none⟩:Addr).add j=⟨g,0+j,none⟩ by cases j<;>simp[Addr.add]]at this
 refine hJ.mono ?_;rintro e w' ⟨rfl,hB⟩;have hN:∀f,mH ⟨w,D,bG [(0,.buf te .str xs [])],E⟩ ⟨w',D,bG [(0,.buf te .str xs [])],E⟩ f:=λf b' h=>⟨b',h,rfl,qN _,λ_=>rfl⟩;refine⟨_,D,E,rfl,⟨(Chg.refl _ _).below hB,λ_ h=>h,λ_ h=>.inl h,λb h=>qI (hD b h) hB.size,?_,λ_ _ _ _ _ _=>rfl,λf b b' h1 h2 h3=>.inl ⟨f,b,h1,h3,rfl⟩,λf b h1 h2 _=>?_,λf i b h=>.inl h⟩,rfl⟩;show Held _ _ _ (bG _) _;have z:∀f b,bG [(0,Blk.buf te .str xs [])] f=some b->∀i k,¬rowsOf (E f) b i k:=λf b h i k ⟨_,_,_,_,_,_,e,_⟩=>by
  subst e;unfold bG at h;rw[List.lookup_cons]at h;split at h<;>cases h
 exact⟨λf b h=>dG.mono (C:=⟨w,D,bG _,E⟩) (C':=⟨w',D,bG _,E⟩) ⟨λ_ h=>h,λb h=>hB.block b (hD b h)⟩ (λf _=>hN f) (λg=>hB.block _ (X.own f b h g).1) (λi k g=>absurd g (z f b h i k)) (X.bl f b h),
  λf b h g=>⟨qI (X.own f b h g).1 hB.size,(X.own f b h g).2⟩,X.inj,eU.nil λf i b h=>by obtain⟨_,h1,h2⟩:=aH.1 h;exact z _ _ h1 _ _ h2⟩
 exact absurd (h1.symm.trans h2) nofun
end Go.Eng.Sv
