/- Ty3 -/
import Derived.Lib.ItoaNum
import Derived.Lib.Small
import Derived.Lib.Join
set_option linter.unusedSimpArgs false
set_option linter.unusedVariables false
namespace Go.Eng.Top
open Go.Lib
def aGo(l:List UInt8):Nat:=l.foldl (λa d=>a*10+(d.toNat-48)) 0
def aFW(b:UInt8):Prop:=48<=b.toNat/\b.toNat<=57
theorem TL{i:Nat}(h:i<10):aFW (UInt8.ofNat (48+i))/\(UInt8.ofNat (48+i)).toNat-48=i:=by
 have:(UInt8.ofNat (48+i)).toNat=48+i:=by simp[UInt8.toNat_ofNat'];omega
 unfold aFW;omega
theorem wA(u:Nat):aGo (decDigits u)=u/\∀b∈decDigits u,aFW b:=by
 rw[decDigits];split;rename_i h;have:=TL h;refine⟨?_,λb f=>by rw[List.mem_singleton.1 f];exact this.1⟩;show 0*10+_=u;omega;rename_i h;have j:=wA (u/10);have:=TL (i:=u%10) (by omega);refine⟨?_,λb f=>(List.mem_append.1 f).elim (j.2 b) λf=>by rw[List.mem_singleton.1 f];exact this.1⟩;unfold aGo at j ⊢;rw[List.foldl_append,j.1];show u/10*10+_=u;omega
theorem mQ(n:Int):∀b∈itoa n,b≠32:=by
 intro b f e;subst e;have h:∀u,(32:UInt8)∉decDigits u:=λu h=>by have:=((wA u).2 _ h).1;exact absurd this (by decide)
 unfold itoa at f;split at f;rcases List.mem_cons.1 f with f|f;exact absurd f (by decide);exact h _ f;exact h _ f
theorem Xk{m n:Int}(h:itoa m=itoa n):m=n:=by
 have j:∀{u:Nat}{l:List UInt8},decDigits u≠45::l:=λ{u l} e=>by
  have:=((wA u).2 45 (by rw[e];exact List.mem_cons_self)).1;exact absurd this (by decide)
 have f:∀{u v:Nat},decDigits u=decDigits v->u=v:=λ{u v} e=>by rw[<- (wA u).1,e,(wA v).1]
 unfold itoa at h;split at h<;>split at h;have:=f (List.cons.inj h).2;omega;exact absurd h.symm j;exact absurd h j;have:=f h;omega
theorem mP{a b:List UInt8}{r s:List (List UInt8)}(u:r≠[])(j:s≠[])(G:∀x∈a,x≠32)(A:∀x∈b,x≠32)(h:join (a::r) [32]=join (b::s) [32]):a=b/\join r [32]=join s [32]:=by
 have e:∀{c:List UInt8}{t:List (List UInt8)},t≠[]->join (c::t) [32]=c++32::join t [32]:=λ{c t} X=>by
  cases t with
  |nil=>exact absurd rfl X|cons x t=>rw[join_cons,join_cons];simp[joinTail]
 rw[e u,e j]at h;clear e u j;induction a generalizing b with
 |nil=>
  cases b with
  |nil=>exact⟨rfl,(List.cons.inj h).2⟩|cons y b=>exact absurd (List.cons.inj h).1.symm (A y List.mem_cons_self)
 |cons x a L=>
  cases b with
  |nil=>exact absurd (List.cons.inj h).1 (G x List.mem_cons_self)|cons y b=>
   obtain⟨h1,h2⟩:=List.cons.inj h;obtain⟨g1,g2⟩:=L (λz f=>G z (List.mem_cons_of_mem _ f)) (b:=b) (λz f=>A z (List.mem_cons_of_mem _ f)) h2;exact⟨by rw[h1,g1],g2⟩
theorem vR{r s:List (List UInt8)}(j:r≠[])(f:s≠[]):∀{l m:List Int},l.length=m.length->join (l.map itoa++r) [32]=join (m.map itoa++s) [32]->l=m
 |[],[],_,_=>rfl|a::l,b::m,u,h=>by
  obtain⟨z,y⟩:=mP (by simp[j]) (by simp[f]) (mQ a) (mQ b) h;rw[Xk z,vR j f (by simpa using u) y]
 |[],_::_,h,_=>by simp at h|_::_,[],h,_=>by simp at h
end Go.Eng.Top
