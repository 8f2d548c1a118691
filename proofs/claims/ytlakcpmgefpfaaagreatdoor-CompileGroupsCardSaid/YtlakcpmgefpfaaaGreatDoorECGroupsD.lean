/- PeSvDist PeSv1n PeSv2n PeSv3n PeMxn PeMxSn PeSv4n PeSv5n PeSvKn PeSvSn PeTt1n PeTt2n PeTr1n -/
import Derived.Test.YtlakcpmgefpfaaaGreatDoorECGroupsA
import Derived.Test.YtlakcpmgefpfaaaGreatDoorECGroupsB
import Derived.Test.YtlakcpmgefpfaaaGreatDoorECGroupsC
import Derived.Test.YtlakcpmgefpfaaaGreatDoorChecked
set_option linter.unusedSimpArgs false
set_option linter.unusedVariables false
namespace Go.Eng.Sv
def aY(l:Line): Int:=l.2.1
def lTo(l:Line): Int:=l.2.2.1
def lAt(l:Line): Int:=l.2.2.2.1
def aX(l:Line): Int:=l.2.2.2.2.1
def cell(xs:List Int)(a b:Nat): Int:=xs.getD (a*12+b) 0
def dZ(xs:List Int)(a b len:Int): List Int:=
 bif decide (cell xs a.toNat b.toNat=-1)||decide (len<cell xs a.toNat b.toNat)then xs.set (a.toNat*12+b.toNat) len else xs
def EW: List Int:=(List.range 144).map λi=>if i/12=i%12 then 0 else -1
def nX(ls:Ll): List Int:=ls.foldl (λxs l=>dZ xs (aY l) (lTo l) (aX l)) EW
def w8(xs:List Int)(q:Nat): List Int:=
 bif (cell xs (q/12%12) (q/144) != -1)&&(cell xs (q/144) (q%12) != -1)then dZ xs (q/12%12:Nat) (q%12:Nat) (cell xs (q/12%12) (q/144)+cell xs (q/144) (q%12))else xs
def fwN(ls:Ll)(k:Nat): List Int:=(List.range k).foldl w8 (nX ls)
def xu(ls:Ll): List Int:=fwN ls 1728
structure cA (n:Nat) (ls:Ll):Prop where
 n12:n<=12
 at_:∀l∈ls,0<=aY l/\aY l<n/\0<=lTo l/\lTo l<n/\aY l≠lTo l/\1<=aX l/\aX l<=5000
theorem Ug{xs:List Int}{a b c d:Nat}{x:Int}(hb:b<12)(hd:d<12)(hl:a*12+b<xs.length):
  cell (xs.set (a*12+b) x) c d=if c=a/\d=b then x else cell xs c d:=by
 unfold cell;rw[List.getD_eq_getElem?_getD,List.getElem?_set,List.getD_eq_getElem?_getD];by_cases h:c=a/\d=b
 .obtain⟨rfl,rfl⟩:=h;simp[hl]
 .rw[if_neg h,if_neg (by omega)]
theorem gK(xs:List Int)(a b len:Int): (dZ xs a b len).length=xs.length:=by
 unfold dZ;cases(decide (cell xs a.toNat b.toNat=-1)||decide (len<cell xs a.toNat b.toNat))<;>simp
theorem dD{xs:List Int}(hl:xs.length=144){a b:Nat}(ha:a<12)(hb:b<12){len:Int}{c d:Nat}(hd:d<12):
  cell (dZ xs a b len) c d=if c=a/\d=b/\(cell xs a b=-1\/len<cell xs a b)then len else cell xs c d:=by
 unfold dZ;simp only[Int.toNat_natCast];by_cases h:cell xs a b=-1\/len<cell xs a b
 .have:(decide (cell xs a b=-1)||decide (len<cell xs a b))=true:=by simpa using h
  rw[this,cond_true,Ug hb hd (by omega)]
  by_cases e:c=a/\d=b
  .rw[if_pos e,if_pos ⟨e.1,e.2,h⟩]
  .rw[if_neg e,if_neg λg=>e ⟨g.1,g.2.1⟩]
 .have:(decide (cell xs a b=-1)||decide (len<cell xs a b))=false:=by
   rw[Bool.eq_false_iff];simpa using h
  rw[this,cond_false,if_neg λg=>h g.2.2]
theorem nW(ls:Ll): (nX ls).length=144:=by
 unfold nX;have:∀(ls:Ll) (xs:List Int),(ls.foldl (λxs l=>dZ xs (aY l) (lTo l) (aX l)) xs).length=xs.length:=by
  intro ls;induction ls with
  | nil=>intro xs;rfl
  | cons l ls ih=>intro xs;rw[List.foldl_cons,ih,gK]
 rw[this];rfl
theorem Ag(xs:List Int)(q:Nat): (w8 xs q).length=xs.length:=by
 unfold w8;cases(cell xs (q/12%12) (q/144) != -1)&&(cell xs (q/144) (q%12) != -1)<;>simp[gK]
theorem yn(ls:Ll)(k:Nat): fwN ls (k+1)=w8 (fwN ls k) k:=by
 unfold fwN;rw[List.range_succ,List.foldl_append];rfl
theorem pj(ls:Ll): ∀k,(fwN ls k).length=144
 | 0=>nW ls
 | k+1=>by rw[yn,Ag,pj ls k]
inductive Walk (ls:Ll):Nat->Nat->Int->Prop
 | nil (a:Nat):Walk ls a a 0
 | snoc {a:Nat} {n:Int} (l:Line):l∈ls->Walk ls a (aY l).toNat n->Walk ls a (lTo l).toNat (n+aX l)
inductive Wk (ls:Ll) (k:Nat):Nat->Nat->Int->Prop
 | refl (a:Nat):Wk ls k a a 0
 | edge (l:Line):l∈ls->Wk ls k (aY l).toNat (lTo l).toNat (aX l)
 | via {a b c:Nat} {m n:Int}:c<k->Wk ls k a c m->Wk ls k c b n->Wk ls k a b (m+n)
theorem Walk.trans {ls:Ll} {a b c:Nat} {m n:Int} (h:Walk ls a b m) (g:Walk ls b c n):Walk ls a c (m+n):=by
 induction g with
 | nil=>simpa using h
 | snoc l hl _ ih=>rw[<- Int.add_assoc];exact .snoc l hl ih
theorem Wk.nonneg {N:Nat} {ls:Ll} (ok:cA N ls) {k a b:Nat} {n:Int} (h:Wk ls k a b n):0<=n:=by
 induction h with
 | refl=>exact Int.le_refl _
 | edge l hl=>have:=(ok.at_ l hl).2.2.2.2.2.1;omega
 | via _ _ _ h1 h2=>omega
theorem Wk.split {N:Nat} {ls:Ll} (ok:cA N ls) {k a b:Nat} {n:Int} (h:Wk ls (k+1) a b n):
  (∃m,m<=n/\Wk ls k a b m)\/∃m1 m2,m1+m2<=n/\Wk ls k a k m1/\Wk ls k k b m2:=by
 induction h with
 | refl a=>exact .inl ⟨0,Int.le_refl _,.refl a⟩
 | edge l hl=>exact .inl ⟨_,Int.le_refl _,.edge l hl⟩
 | @via a b c m n hc _ _ h1 h2=>
  by_cases e:c=k
  .subst e
   right
   have l1:∃m1,m1<=m/\Wk ls c a c m1:=by
    rcases h1 with⟨x,hx,g⟩ | ⟨x,y,hx,g,g'⟩
    .exact⟨x,hx,g⟩
    .have:=g'.nonneg ok;exact⟨x,by omega,g⟩
   have l2:∃m2,m2<=n/\Wk ls c c b m2:=by
    rcases h2 with⟨x,hx,g⟩ | ⟨x,y,hx,g,g'⟩
    .exact⟨x,hx,g⟩
    .have:=g.nonneg ok;exact⟨y,by omega,g'⟩
   obtain⟨x,hx,g⟩:=l1;obtain⟨y,hy,g'⟩:=l2;exact⟨x,y,by omega,g,g'⟩
  .have hc:c<k:=by omega
   rcases h1 with⟨x,hx,g⟩ | ⟨x,y,hx,g,g'⟩<;>rcases h2 with⟨u,hu,q⟩ | ⟨u,v,hu,q,q'⟩
   .exact .inl ⟨x+u,by omega,.via hc g q⟩
   .exact .inr ⟨x+u,v,by omega,.via hc g q,q'⟩
   .exact .inr ⟨x,y+u,by omega,g,.via hc g' q⟩
   .have:=g'.nonneg ok;have:=q.nonneg ok;exact .inr ⟨x,v,by omega,g,q'⟩
structure YR (ls:Ll) (xs:List Int):Prop where
 len:xs.length=144
 diag:∀a,a<12->cell xs a a=0
 walk:∀a b,a<12->b<12->cell xs a b=-1\/(0<=cell xs a b/\Walk ls a b (cell xs a b))
def Below(xs:List Int)(a b:Nat)(n:Int): Prop:=cell xs a b≠-1/\cell xs a b<=n
def aBQ(ls:Ll)(k:Nat)(xs:List Int): Prop:=∀a b n,a<12->b<12->Wk ls k a b n->Below xs a b n
theorem lk{xs:List Int}(hl:xs.length=144){a b c d:Nat}(ha:a<12)(hb:b<12)(hd:d<12){len n:Int}(hlen:len≠-1)(h:Below xs c d n): Below (dZ xs a b len) c d n:=by
 unfold Below at h ⊢;rw[dD hl ha hb hd];split
 .rename_i g;obtain⟨rfl,rfl,g⟩:=g;exact⟨hlen,by omega⟩
 .exact h
theorem AN{xs:List Int}(hl:xs.length=144){a b:Nat}(ha:a<12)(hb:b<12){len:Int}(hlen:len≠-1): Below (dZ xs a b len) a b len:=by
 unfold Below;rw[dD hl ha hb hb];split
 .exact⟨hlen,Int.le_refl _⟩
 .rename_i g;simp only[true_and,not_or]at g;exact⟨g.1,by omega⟩
theorem sk{ls:Ll}{xs:List Int}(h:YR ls xs){a b:Nat}(ha:a<12)(hb:b<12){len:Int}(h0:0<=len)(hw:Walk ls a b len): YR ls (dZ xs a b len):=by
 refine⟨by rw[gK];exact h.len,λc hc=>?_,λc d hc hd=>?_⟩
 .rw[dD h.len ha hb hc];split
  .rename_i g;obtain⟨rfl,rfl,g⟩:=g;have:=h.diag c hc;omega
  .exact h.diag c hc
 .rw[dD h.len ha hb hd];split
  .rename_i g;obtain⟨rfl,rfl,g⟩:=g;exact .inr ⟨h0,hw⟩
  .exact h.walk c d hc hd
theorem me{a b:Nat}(ha:a<12)(hb:b<12): cell EW a b=if a=b then 0 else -1:=by
 unfold cell EW;rw[List.getD_eq_getElem?_getD,List.getElem?_map,List.getElem?_range (by omega)]
 simp only[Option.map_some,Option.getD_some];rw[show(a*12+b)/12=a by omega,show(a*12+b)%12=b by omega]
theorem Jk(ls:Ll): YR ls EW:=by
 refine⟨rfl,λa ha=>by rw[me ha ha,if_pos rfl],λa b ha hb=>?_⟩
 rw[me ha hb];split
 .rename_i e;subst e;exact .inr ⟨Int.le_refl _,.nil a⟩
 .exact .inl rfl
theorem toNat_lt{N:Nat}{x:Int}(h0:0<=x)(h1:x<N)(hN:N<=12): x.toNat<12:=by omega
theorem s8{N:Nat}{ls:Ll}(ok:cA N ls): ∀(rs:Ll) (xs:List Int),(∀l∈rs,l∈ls)->YR ls xs->(∀a b,a<12->b<12->cell xs a b<=5000)->
  YR ls (rs.foldl (λxs l=>dZ xs (aY l) (lTo l) (aX l)) xs)/\
  (∀a b n,a<12->b<12->Below xs a b n->Below (rs.foldl (λxs l=>dZ xs (aY l) (lTo l) (aX l)) xs) a b n)/\
  (∀l∈rs,Below (rs.foldl (λxs l=>dZ xs (aY l) (lTo l) (aX l)) xs) (aY l).toNat (lTo l).toNat (aX l))/\
  (∀a b,a<12->b<12->cell (rs.foldl (λxs l=>dZ xs (aY l) (lTo l) (aX l)) xs) a b<=5000)
 | [],xs,_,h,hb=>⟨h,λ_ _ _ _ _ h=>h,(λl hl=>by cases hl),hb⟩
 | l::rs,xs,hrs,h,hb=>by
  have hl:=hrs l (by simp)
  obtain⟨o1,o2,o3,o4,o5,o6,o7⟩:=ok.at_ l hl;have ha:=toNat_lt o1 o2 ok.n12;have hb':=toNat_lt o3 o4 ok.n12;have e:dZ xs (aY l) (lTo l) (aX l)=dZ xs ((aY l).toNat:Nat) ((lTo l).toNat:Nat) (aX l):=by
   rw[Int.toNat_of_nonneg o1,Int.toNat_of_nonneg o3]
  have hw:Walk ls (aY l).toNat (lTo l).toNat (aX l):=by
   have:=Walk.snoc l hl (.nil (aY l).toNat)
   rwa [Int.zero_add]at this
  obtain⟨g1,g2,g3,g4⟩:=s8 ok rs (dZ xs (aY l) (lTo l) (aX l)) (λx hx=>hrs x (by simp[hx])) (by rw[e];exact sk h ha hb' (by omega) hw) (λa b h1 h2=>by
   rw[e,dD h.len ha hb' h2];split
   .exact o7
   .exact hb a b h1 h2)
  rw[List.foldl_cons];refine⟨g1,λa b n h1 h2 hB=>g2 a b n h1 h2 (by rw[e];exact lk h.len ha hb' h2 (by omega) hB),λx hx=>?_,g4⟩
  rcases List.mem_cons.1 hx with rfl | hx
  .exact g2 _ _ _ ha hb' (by rw[e];exact AN h.len ha hb' (by omega))
  .exact g3 x hx
theorem EM{N:Nat}{ls:Ll}(ok:cA N ls): YR ls (nX ls)/\aBQ ls 0 (nX ls)/\∀a b,a<12->b<12->cell (nX ls) a b<=5000:=by
 obtain⟨g1,g2,g3,g4⟩:=s8 ok ls EW (λ_ h=>h) (Jk ls) (λa b h1 h2=>by rw[me h1 h2];split<;>omega)
 refine⟨g1,λa b n ha hb hw=>?_,g4⟩
 cases hw with
 | refl=>refine g2 a a 0 ha ha ?_;unfold Below;rw[me ha ha,if_pos rfl];omega
 | edge l hl=>exact g3 l hl
 | via hc=>omega
structure Mid (ls:Ll) (o i:Nat) (xs:List Int):Prop where
 sane:YR ls xs
 compl:aBQ ls o xs
 done:∀a b m n,a<12->b<12->a*12+b<i->Wk ls o a o m->Wk ls o o b n->Below xs a b (m+n)
 edge:∀a,a<12->cell xs a o<=5000*2 ^ o/\cell xs o a<=5000*2 ^ o
 all:∀a b,a<12->b<12->cell xs a b<=2*(5000*2 ^ o)
theorem Mid.step {N:Nat} {ls:Ll} (ok:cA N ls) {o i:Nat} (ho:o<12) (hi:i<144) {xs:List Int} (h:Mid ls o i xs):Mid ls o (i+1) (w8 xs (o*144+i)):=by
 have e1:(o*144+i)/12%12=i/12:=by omega
 have e2:(o*144+i)/144=o:=by omega
 have e3:(o*144+i)%12=i%12:=by omega
 have ha:i/12<12:=by omega
 have hb:i%12<12:=by omega
 unfold w8;rw[e1,e2,e3];cases hc:(cell xs (i/12) o != -1)&&(cell xs o (i%12) != -1)with
 | false=>
  rw[cond_false];refine⟨h.sane,h.compl,λa b m n h1 h2 h3 w1 w2=>?_,h.edge,h.all⟩
  by_cases e:a*12+b<i
  .exact h.done a b m n h1 h2 e w1 w2
  .have ea:a=i/12:=by omega
   have eb:b=i%12:=by omega
   have g1:=h.compl a o m h1 ho w1;have g2:=h.compl o b n ho h2 w2;rw[<- ea,<- eb]at hc;simp only[Bool.and_eq_false_iff,bne_eq_false_iff_eq]at hc;rcases hc with hc | hc
   .exact(g1.1 hc).elim
   .exact(g2.1 hc).elim
 | true=>
  rw[cond_true];simp only[Bool.and_eq_true,bne_iff_ne,ne_eq]at hc;obtain⟨c1,c2⟩:=hc;obtain⟨p1,p2⟩:=(h.sane.walk _ _ ha ho).resolve_left c1;obtain⟨p3,p4⟩:=(h.sane.walk _ _ ho hb).resolve_left c2;have hne:cell xs (i/12) o+cell xs o (i%12)≠-1:=by omega
  refine⟨sk h.sane ha hb (by omega) (p2.trans p4),λa b n h1 h2 w=>lk h.sane.len ha hb h2 hne (h.compl a b n h1 h2 w),λa b m n h1 h2 h3 w1 w2=>?_,λa h1=>?_,λa b h1 h2=>?_⟩
  .by_cases e:a*12+b<i
   .exact lk h.sane.len ha hb h2 hne (h.done a b m n h1 h2 e w1 w2)
   .have ea:a=i/12:=by omega
    have eb:b=i%12:=by omega
    have g1:=(h.compl a o m h1 ho w1).2;have g2:=(h.compl o b n ho h2 w2).2;rw[<- ea,<- eb]at hne ⊢;have g3:=AN (a:=a) (b:=b) h.sane.len h1 h2 hne;exact⟨g3.1,by have:=g3.2;omega⟩
  .have hd:=h.sane.diag o ho;have q:=h.edge a h1;constructor
   .rw[dD h.sane.len ha hb ho];split
    .rename_i g;obtain⟨rfl,g5,g6⟩:=g;rw[<- g5,hd]at g6;have:=q.1;omega
    .exact q.1
   .rw[dD h.sane.len ha hb h1];split
    .rename_i g;obtain⟨g5,rfl,g6⟩:=g;rw[<- g5,hd]at g6;have:=q.2;omega
    .exact q.2
  .rw[dD h.sane.len ha hb h2];split
   .have q1:=(h.edge (i/12) ha).1;have q2:=(h.edge (i%12) hb).2;omega
   .exact h.all a b h1 h2
theorem Mid.next {N:Nat} {ls:Ll} (ok:cA N ls) {o:Nat} (ho:o+1<12) {xs:List Int} (h:Mid ls o 144 xs):Mid ls (o+1) 0 xs:=by
 have e:5000*2 ^ (o+1)=2*(5000*2 ^ o:Int):=by rw[Int.pow_succ];omega
 refine⟨h.sane,λa b n h1 h2 w=>?_,λa b m n h1 h2 h3=>by omega,λa h1=>by rw[e];exact⟨h.all a (o+1) h1 ho,h.all (o+1) a ho h1⟩,λa b h1 h2=>?_⟩
 .rcases w.split ok with⟨m,hm,g⟩ | ⟨m1,m2,hm,g1,g2⟩
  .have:=h.compl a b m h1 h2 g;exact⟨this.1,by have:=this.2;omega⟩
  .have:=h.done a b m1 m2 h1 h2 (by omega) g1 g2;exact⟨this.1,by have:=this.2;omega⟩
 .have:=h.all a b h1 h2;have h0:(0:Int)<=5000*2 ^ o:=Int.mul_nonneg (by decide) (Int.le_of_lt (Int.pow_pos (by decide)))
  rw[e];omega
theorem Yk{N:Nat}{ls:Ll}(ok:cA N ls): ∀(o:Nat),o<12->∀i,i<=144->Mid ls o i (fwN ls (o*144+i)):=by
 intro o;have row:∀o,o<12->Mid ls o 0 (fwN ls (o*144))->∀i,i<=144->Mid ls o i (fwN ls (o*144+i)):=by
  intro o ho h i;induction i with
  | zero=>intro _;exact h
  | succ i ih=>
   intro hi;rw[<- Nat.add_assoc,yn];exact(ih (by omega)).step ok ho (by omega)
 induction o with
 | zero=>
  intro _;refine row 0 (by decide) ?_
  obtain⟨g1,g2,g3⟩:=EM ok;refine⟨g1,g2,λa b m n h1 h2 h3=>by omega,λa h1=>⟨?_,?_⟩,λa b h1 h2=>?_⟩
  .have:=g3 a 0 h1 (by decide)
   show cell (nX ls) a 0<=5000*2 ^ 0;omega
  .have:=g3 0 a (by decide) h1
   show cell (nX ls) 0 a<=5000*2 ^ 0;omega
  .have:=g3 a b h1 h2;simp only[Int.pow_zero,Int.mul_one];show cell (nX ls) a b<=_;omega
 | succ o ih=>
  intro ho;refine row (o+1) ho ?_;have:=(ih (by omega) 144 (Nat.le_refl _)).next ok ho
  rw[show o*144+144=(o+1)*144 by omega]at this
  exact this
theorem BL{N:Nat}{ls:Ll}(ok:cA N ls){k:Nat}(hk:k<=1728){a b:Nat}(ha:a<12)(hb:b<12): -1<=cell (fwN ls k) a b/\cell (fwN ls k) a b<=20480000:=by
 have h:∃o i,o<12/\i<=144/\k=o*144+i:=by
  by_cases e:k=1728
  .exact⟨11,144,by decide,by decide,by omega⟩
  .exact⟨k/144,k%144,by omega,by omega,by omega⟩
 obtain⟨o,i,ho,hi,rfl⟩:=h;have m:=Yk ok o ho i hi;have h1:=m.all a b ha hb;have h2:=m.sane.walk a b ha hb;have h3:(2:Int) ^ o<=2 ^ 11:=by
  have:(2:Nat) ^ o<=2 ^ 11:=Nat.pow_le_pow_right (by decide) (by omega)
  exact_mod_cast this
 have h4:(2:Int) ^ 11=2048:=by decide
 constructor
 .rcases h2 with h2 | h2<;>omega
 .omega
structure lR (ls:Ll) (a:Nat) (d:Nat->Int):Prop where
 self:d a=0
 low:∀b,b<12->-1<=d b
 line:∀l∈ls,0<=d (aY l).toNat->0<=d (lTo l).toNat/\d (lTo l).toNat<=d (aY l).toNat+aX l
 last:∀b,b<12->b≠a->0<=d b->∃l∈ls,(lTo l).toNat=b/\0<=d (aY l).toNat/\d b=d (aY l).toNat+aX l
theorem lR.walk {N:Nat} {ls:Ll} (ok:cA N ls) {a:Nat} {d:Nat->Int} (h:lR ls a d) {b:Nat} {n:Int} (w:Walk ls a b n):0<=d b/\d b<=n:=by
 induction w with
 | nil=>rw[h.self];exact⟨Int.le_refl _,Int.le_refl _⟩
 | snoc l hl _ ih=>have:=h.line l hl ih.1;have:=ih.2;omega
theorem Walk.wk {N:Nat} {ls:Ll} (ok:cA N ls) {a b:Nat} {n:Int} (w:Walk ls a b n):Wk ls 12 a b n:=by
 induction w with
 | nil=>exact .refl _
 | snoc l hl _ ih=>
  have o:=ok.at_ l hl;exact .via (toNat_lt o.1 o.2.1 ok.n12) ih (.edge l hl)
theorem lR.toWalk {N:Nat} {ls:Ll} (ok:cA N ls) {a:Nat} {d:Nat->Int} (h:lR ls a d):∀(k b:Nat),b<12->0<=d b->(d b).toNat<=k->Walk ls a b (d b):=by
 intro k;induction k with
 | zero=>
  intro b hb h0 hk;by_cases e:b=a
  .subst e;rw[h.self];exact .nil b
  .obtain⟨l,hl,e1,e2,e3⟩:=h.last b hb e h0;have:=(ok.at_ l hl).2.2.2.2.2.1;omega
 | succ k ih=>
  intro b hb h0 hk;by_cases e:b=a
  .subst e;rw[h.self];exact .nil b
  .obtain⟨l,hl,e1,e2,e3⟩:=h.last b hb e h0;have o:=ok.at_ l hl;have:=o.2.2.2.2.2.1;have w:=ih _ (toNat_lt o.1 o.2.1 ok.n12) e2 (by omega)
   have:=Walk.snoc l hl w;rw[e1,<- e3]at this;exact this
theorem lR.unique {N:Nat} {ls:Ll} (ok:cA N ls) {a:Nat} {d e:Nat->Int} (h:lR ls a d) (g:lR ls a e) {b:Nat} (hb:b<12):d b=e b:=by
 have h1:=h.low b hb;have h2:=g.low b hb;by_cases p:0<=d b
 .have:=g.walk ok (h.toWalk ok _ b hb p (Nat.le_refl _));have:=h.walk ok (g.toWalk ok _ b hb this.1 (Nat.le_refl _));omega
 .by_cases q:0<=e b
  .have:=h.walk ok (g.toWalk ok _ b hb q (Nat.le_refl _));omega
  .omega
def at1(row:List Int)(b:Nat): Int:=row.getD b 0
def gv(row:List Int)(l:Line): List Int:=
 bif decide (0<=at1 row (aY l).toNat)&&(decide (at1 row (lTo l).toNat<0)||decide (at1 row (lTo l).toNat>at1 row (aY l).toNat+aX l))then row.set (lTo l).toNat (at1 row (aY l).toNat+aX l)else row
def oI(m:Nat)(a:Nat): List Int:=(List.range m).map λb=>if b=a then 0 else -1
def zo(ls:Ll)(row:List Int): List Int:=ls.foldl gv row
def bfN(ls:Ll)(m a r:Nat): List Int:=(List.range r).foldl (λrow _=>zo ls row) (oI m a)
theorem YK{row:List Int}{i b:Nat}{x:Int}(hi:i<row.length): at1 (row.set i x) b=if b=i then x else at1 row b:=by
 unfold at1;rw[List.getD_eq_getElem?_getD,List.getElem?_set,List.getD_eq_getElem?_getD];by_cases h:i=b
 .subst h;simp[hi]
 .rw[if_neg h,if_neg (λe=>h e.symm)]
theorem jY(row:List Int)(l:Line): (gv row l).length=row.length:=by
 unfold gv;cases(decide (0<=at1 row (aY l).toNat)&&(decide (at1 row (lTo l).toNat<0)||decide (at1 row (lTo l).toNat>at1 row (aY l).toNat+aX l)))<;>simp
theorem oH{row:List Int}{l:Line}(ht:(lTo l).toNat<row.length)(b:Nat): at1 (gv row l) b =
  if b=(lTo l).toNat/\0<=at1 row (aY l).toNat/\(at1 row (lTo l).toNat<0\/at1 row (lTo l).toNat>at1 row (aY l).toNat+aX l)then at1 row (aY l).toNat+aX l else at1 row b:=by
 unfold gv;by_cases h:0<=at1 row (aY l).toNat/\(at1 row (lTo l).toNat<0\/at1 row (lTo l).toNat>at1 row (aY l).toNat+aX l)
 .have e:(decide (0<=at1 row (aY l).toNat)&&(decide (at1 row (lTo l).toNat<0)||decide (at1 row (lTo l).toNat>at1 row (aY l).toNat+aX l)))=true:=by simpa using h
  rw[e,cond_true,YK ht];by_cases hb:b=(lTo l).toNat
  .rw[if_pos hb,if_pos ⟨hb,h⟩]
  .rw[if_neg hb,if_neg λg=>hb g.1]
 .have e:(decide (0<=at1 row (aY l).toNat)&&(decide (at1 row (lTo l).toNat<0)||decide (at1 row (lTo l).toNat>at1 row (aY l).toNat+aX l)))=false:=by
   rw[Bool.eq_false_iff];simpa using h
  rw[e,cond_false,if_neg λg=>h g.2]
def Abv(m:Nat)(d:Nat->Int)(row:List Int): Prop:=row.length=m/\∀b,b<m->at1 row b=-1\/(0<=d b/\d b<=at1 row b)
def Uz(d:Nat->Int)(row:List Int)(b:Nat): Prop:=0<=d b/\at1 row b=d b
section
variable {m:Nat} {ls:Ll} {a:Nat} {d:Nat->Int}
theorem JR(ok:cA m ls)(h:lR ls a d){row:List Int}(hr:Abv m d row){l:Line}(hl:l∈ls): Abv m d (gv row l):=by
 have o:=ok.at_ l hl;refine⟨by rw[jY];exact hr.1,λb hb=>?_⟩
 rw[oH (by rw[hr.1];omega)]
 split
 .rename_i g;obtain⟨rfl,g1,g2⟩:=g;rcases hr.2 (aY l).toNat (by omega)with q | q
  .omega
  .have:=h.line l hl q.1
   right
   omega
 .exact hr.2 b hb
theorem wm(ok:cA m ls)(h:lR ls a d){row:List Int}(hr:Abv m d row){l:Line}(hl:l∈ls){b:Nat}(hb:b<m)(hs:Uz d row b): Uz d (gv row l) b:=by
 have o:=ok.at_ l hl;refine⟨hs.1,?_⟩;rw[oH (by rw[hr.1];omega)]
 split
 .rename_i g;obtain⟨rfl,g1,g2⟩:=g;rcases hr.2 (aY l).toNat (by omega)with q | q
  .omega
  .have:=h.line l hl q.1;have:=hs.1;have:=hs.2;omega
 .exact hs.2
theorem JQ(ok:cA m ls){row:List Int}(hr:Abv m d row){l:Line}(hl:l∈ls)(hs:Uz d row (aY l).toNat)(h0:0<=d (lTo l).toNat)(he:d (lTo l).toNat=d (aY l).toNat+aX l): Uz d (gv row l) (lTo l).toNat:=by
 have o:=ok.at_ l hl;refine⟨h0,?_⟩;have e1:=hs.2;have e2:=hs.1;rw[oH (by rw[hr.1];omega)]
 split
 .omega
 .rename_i g;have g':¬(0<=at1 row (aY l).toNat/\(at1 row (lTo l).toNat<0\/at1 row (lTo l).toNat>at1 row (aY l).toNat+aX l)):=λq=>g ⟨rfl,q⟩
  rcases hr.2 (lTo l).toNat (by omega)with q | q<;>omega
theorem Vs(ok:cA m ls)(h:lR ls a d): ∀(rs:Ll) (row:List Int),(∀l∈rs,l∈ls)->Abv m d row->Abv m d (rs.foldl gv row)/\(∀b,b<m->Uz d row b->Uz d (rs.foldl gv row) b)/\
  ∀l∈rs,Uz d row (aY l).toNat->0<=d (lTo l).toNat->d (lTo l).toNat=d (aY l).toNat+aX l->Uz d (rs.foldl gv row) (lTo l).toNat
 | [],row,_,hr=>⟨hr,λ_ _ h=>h,(λl hl=>by cases hl)⟩
 | x::rs,row,hrs,hr=>by
  have hx:=hrs x (by simp)
  have ox:=ok.at_ x hx;obtain⟨g1,g2,g3⟩:=Vs ok h rs (gv row x) (λl hl=>hrs l (by simp[hl])) (JR ok h hr hx)
  rw[List.foldl_cons];refine⟨g1,λb hb hs=>g2 b hb (wm ok h hr hx hb hs),λl hl hs h0 he=>?_⟩
  have o:=ok.at_ l (hrs l hl);rcases List.mem_cons.1 hl with rfl | hl
  .exact g2 _ (by omega) (JQ ok hr hx hs h0 he)
  .exact g3 l hl (wm ok h hr hx (by omega) hs) h0 he
def rank(m:Nat)(d:Nat->Int)(b:Nat): Nat:=((List.range m).filter λx=>decide (0<=d x/\d x<d b)).length
theorem filter_lt{α:Type}{p q:α->Bool}: ∀{l:List α} {x:α},(∀y,p y=true->q y=true)->x∈l->p x=false->q x=true->(l.filter p).length<(l.filter q).length
 | [],_,_,h,_,_=>by cases h
 | y::l,x,hpq,hx,hp,hq=>by
  have le:∀l:List α,(l.filter p).length<=(l.filter q).length:=by
   intro l;induction l with
   | nil=>exact Nat.le_refl _
   | cons z l ih=>
    simp only[List.filter_cons];cases h1:p z with
    | true=>rw[hpq z h1];simpa using ih
    | false=>cases q z<;>simp<;>omega
  rcases List.mem_cons.1 hx with rfl | hx
  .simp only[List.filter_cons,hp,hq,Bool.false_eq_true,if_false,if_true,List.length_cons];have:=le l;omega
  .have ih:=filter_lt hpq hx hp hq;simp only[List.filter_cons];cases h1:p y with
   | true=>rw[hpq y h1];simpa using ih
   | false=>cases q y<;>simp<;>omega
theorem MU{b c:Nat}(hc:c<m)(h0:0<=d c)(h1:d c<d b): rank m d c<rank m d b:=by
 refine filter_lt (x:=c) (λy hy=>?_) (List.mem_range.2 hc) ?_ ?_
 .have:=of_decide_eq_true hy;exact decide_eq_true (by omega)
 .exact decide_eq_false (by omega)
 .exact decide_eq_true (by omega)
theorem Cj{x:Nat}(hx:x<m): at1 (oI m a) x=if x=a then 0 else -1:=by
 unfold at1 oI;rw[List.getD_eq_getElem?_getD,List.getElem?_map,List.getElem?_range hx];rfl
theorem zp(ls:Ll)(m a r:Nat): bfN ls m a (r+1)=zo ls (bfN ls m a r):=by
 unfold bfN;rw[List.range_succ,List.foldl_append];rfl
theorem Un(ok:cA m ls)(h:lR ls a d)(ha:a<m): ∀r,Abv m d (bfN ls m a r)/\∀b,b<m->0<=d b->rank m d b<=r->Uz d (bfN ls m a r) b
 | 0=>by
  have e:bfN ls m a 0=oI m a:=rfl;rw[e];refine⟨⟨by simp[oI],λb hb=>?_⟩,λb hb h0 hr=>?_⟩
  .rw[Cj hb];split
   .rename_i e;subst e;right;rw[h.self];omega
   .exact .inl rfl
  .by_cases e:b=a
   .subst e;exact⟨h0,by rw[Cj hb,if_pos rfl,h.self]⟩
   .obtain⟨l,hl,e1,e2,e3⟩:=h.last b (Nat.lt_of_lt_of_le hb ok.n12) e h0;have:=(ok.at_ l hl).2.2.2.2.2.1;have:=MU (m:=m) (d:=d) (b:=b) (c:=a) ha (by rw[h.self];omega) (by rw[h.self];omega)
    omega
 | r+1=>by
  obtain⟨g1,g2⟩:=Un ok h ha r;obtain⟨f1,f2,f3⟩:=Vs ok h ls (bfN ls m a r) (λ_ h=>h) g1
  rw[zp];refine⟨f1,λb hb h0 hr=>?_⟩
  by_cases e:b=a
  .have:rank m d b<=r\/rank m d b=r+1:=by omega
   have hz:rank m d b=0:=by
    unfold rank;rw[List.length_eq_zero_iff,List.filter_eq_nil_iff];intro x _;rw[e,h.self];exact λg=>by have:=of_decide_eq_true g;omega
   exact f2 b hb (g2 b hb h0 (by omega))
  .obtain⟨l,hl,e1,e2,e3⟩:=h.last b (Nat.lt_of_lt_of_le hb ok.n12) e h0;have o:=ok.at_ l hl;have hlt:=MU (m:=m) (d:=d) (b:=b) (c:=(aY l).toNat) (by omega) e2 (by omega)
   have hs:=g2 _ (by omega) e2 (by omega)
   have:=f3 l hl hs (by rw[e1];exact h0) (by rw[e1];exact e3)
   rwa [e1]at this
end
end Go.Eng.Sv
set_option maxRecDepth 100000
noncomputable section
namespace Go.Eng.Sv
open Go.Proofs
abbrev I: Ty:=.int .i64
abbrev U: Ty:=.int .u8
abbrev B: Ty:=.sl .bool
abbrev R: Ty:=.sl I
abbrev LC: Type:=List (Int×List Bool×Li)
abbrev LB: Type:=List ByteArray
abbrev C: Ty:=.pair I (.pair B R)
abbrev S: Ty:=.str
abbrev cal(z:Int)(w:List Bool)(h:Li): AV:=.agg [.dat I z,.dat B w,.dat R h]
def kw: List ByteArray:=[⟨#[99,97,108,101,110,100,97,114]⟩,⟨#[111,112,101,114,97,116,111,114]⟩,⟨#[111,102,102,105,99,101]⟩,⟨#[108,105,110,101]⟩,⟨#[99,108,97,115,115]⟩,⟨#[122,111,110,101]⟩,⟨#[119,101,101,107]⟩,⟨#[104,111,108,105,100,97,121]⟩,⟨#[112,111,99,107,101,116,115]⟩,⟨#[112,97,115,115,101,115]⟩,⟨#[109,105,110,117,116,101,115]⟩,⟨#[99,111,100,101,115]⟩,⟨#[97,116]⟩,⟨#[116,114,97,118,101,108]⟩,⟨#[108,111,97,100]⟩,⟨#[99,117,116]⟩,⟨#[100,101,108,105,118,101,114]⟩]
def ji(b:Int): Bool:=decide (97<=b/\b<=122)
def fm(b:Int): Bool:=decide (48<=b/\b<=57)
def dQ(v a b:Int): Bool:=decide (a<=v/\v<=b)
def nameB(b:Int): Bool:=ji b||fm b||decide (b=95)
def tW(b:Int): Bool:=fm b||decide (65<=b/\b<=90)
def isKey(s:ByteArray): Bool:=kw.any λw=>w.toList==s.toList
def cm(s:ByteArray): Bool:=decide (1<=s.size/\s.size<=16)&&ji ((s.data.getD 0 0).toNat:Int)&&(s.data.toList.all λb=>nameB (b.toNat:Int))&&!isKey s
def da(s:ByteArray): Bool:=decide (1<=s.size/\s.size<=8)&&s.data.toList.all λb=>tW (b.toNat:Int)
def nQ(s:ByteArray)(k:Int): Prop:=0<=k/\k<=s.size/\(s.data.toList.take k.toNat).all (λb=>nameB (b.toNat:Int))=true
def ou(s:ByteArray)(k:Int): Prop:=0<=k/\k<=s.size/\(s.data.toList.take k.toNat).all (λb=>tW (b.toNat:Int))=true
def pg(s:ByteArray)(k:Int): Prop:=0<=k/\k<=17/\(kw.take k.toNat).any (λw=>w.toList==s.toList)=false
def aw(z:Int)(w:List Bool)(h:Li): Bool:=decide (-720<=z/\z<=840/\w.length=7/\h.length<=40)&&(List.range (h.length-1)).all λi=>decide (h.getD i 0<h.getD (i+1) 0)
def gn(w:List Bool)(h:Li): Bool:=decide (w.length<=20)&&decide (h.length<=60)
def qz(h:Li)(k:Int): Prop:=1<=k/\(k<=h.length\/k=1)/\h.length<=40/\∀i:Nat,(i:Int)+1<k->h.getD i 0<h.getD (i+1) 0
def iQ(k:Int): Int:=if k=3 then 12 else if k=4 then 40 else if k=5 then 4 else 6
def K0: Kt:=λf args m=>none
def G0: List (Nat×AV):=[(0,.ia S kw)]
def KI0: FuncId->List AV->Option i9:=λ_ _=>none
noncomputable def mkc(K:Kt): Cfg:=⟨Tryz.prog,G0,K,λ_=>false,KI0,false,λ_ _ _=>none,λ_=>false⟩
def Gu(h:Li): Ann:=⟨λid s=>match id with
 | 4=>some {α:=Int,inv:=λk=>qz h k,st:=λk=>put s [(3,.dat I k)],μ:=λk=>Dc (Dj (Df h) k)}
 | _=>none,λ_ _=>none,λ_ _=>none⟩
theorem wv(z:Int)(w:List Bool)(h:Li)(hvc:
 let c1:=Dp z (-720);let c2:=Di c1;let c3:=Ea c1 true (Ei z 840);let c4:=Di c3;let c5:=Ea c3 true (Dy (Df w) 7);let c6:=Di c5;let c7:=Ea c5 true (Ei (Df h) 40);let c8:=(z,w,h);true/\(True->(c2->c2->c2)/\(c2->c2->c2)/\(Dh true c2->c2)/\(c4->c4->c4)/\(c4->c4->c4)/\(c4->c4->c4)/\(Dh true c4->c4)/\(c6->c6->c6)/\(c6->c6->c6)/\(c6->c6->c6)/\(Dh true c6->c6)/\(c7->false=aw z w h/\True)/\(c7=false->(∃x,qz h x/\c8=c8/\1=x/\True)/\∀(x:Int),let c9:=Dp x (Df h);let c10:=x-1;let c11:=Eh (Du h (Dc x) 0) (Du h (Dc c10) 0);let c12:=x+1;qz h x->(c9->0<=x/\x<Df h/\inR .i64 c10/\0<=c10/\c10<Df h/\(c11->false=aw z w h/\True)/\(c11=false->inR .i64 c12/\∃y,qz h y/\(c8=c8/\c12=y/\True)/\Dc (Df h-y)<Dc (Df h-x)))/\(c9=false->true=aw z w h/\True)))):
  evF (mkc K0) (lvA [(4,[1,2,3])] (Gu h)) 161 [cal z w h] [] ⟨True,.dat .bool (aw z w h),[]⟩:=oE hvc
theorem Kr(z:Int)(w:List Bool)(h:Li)(hvc:
 let c1:=Dp z (-720);let c2:=Di c1;let c3:=Ea c1 true (Ei z 840);let c4:=Di c3;let c13:=c4->c4->c4;let c5:=Ea c3 true (Dy (Df w) 7);let c6:=Di c5;let c14:=c6->c6->c6;let c7:=Ea c5 true (Ei (Df h) 40);let c8:=(z,w,h);true/\(True->(c2->c2->c2)/\(c2->c2->c2)/\(Dh true c2->c2)/\c13/\c13/\c13/\(Dh true c4->c4)/\c14/\c14/\c14/\(Dh true c6->c6)/\(c7->false=aw z w h/\True)/\(c7=false->(∃x,qz h x/\c8=c8/\1=x/\True)/\∀(x:Int),let c9:=Dp x (Df h);let c10:=x-1;let c11:=Ed (Du h (Dc c10) 0) (Du h (Dc x) 0);let c12:=x+1;qz h x->(c9->inR .i64 c10/\0<=c10/\c10<Df h/\0<=x/\x<Df h/\(c11->false=aw z w h/\True)/\(c11=false->inR .i64 c12/\∃y,qz h y/\(c8=c8/\c12=y/\True)/\Dc (Df h-y)<Dc (Df h-x)))/\(c9=false->true=aw z w h/\True)))):
  evF (mkc K0) (lvA [(4,[1,2,3])] (Gu h)) 118 [cal z w h] [] ⟨True,.dat .bool (aw z w h),[]⟩:=oE hvc
theorem P6(z:Int)(w:List Bool)(h:Li)(hvc:
 let c1:=Eh (Df w) 20;let c2:=c1->c1->c1;true/\(True->c2/\c2/\c2/\(Dh true c1->c1)/\Ea c1 (Eh (Df h) 60) false=gn w h/\True)):
  evF (mkc K0) az 167 [cal z w h] [] ⟨True,.dat .bool (gn w h),[]⟩:=oE hvc
theorem Ip(b:Int)(hvc:
 let c1:=Ed b 97;true/\(True->(c1->c1->c1)/\(Dh true c1->c1)/\Ea c1 (Eh b 122) false=ji b/\True)):
  evF (mkc K0) az 283 [.dat U b] [] ⟨True,.dat .bool (ji b),[]⟩:=oE hvc
theorem Iq(b:Int)(hvc:
 let c1:=Ed b 48;true/\(True->(c1->c1->c1)/\(Dh true c1->c1)/\Ea c1 (Eh b 57) false=fm b/\True)):
  evF (mkc K0) az 284 [.dat U b] [] ⟨True,.dat .bool (fm b),[]⟩:=oE hvc
theorem QM(b:Int)(hvc:
 let c1:=Ed b 48;true/\(True->(c1->c1->c1)/\(Dh true c1->c1)/\Ea c1 (Eh b 57) false=fm b/\True)):
  evF (mkc K0) az 297 [.dat U b] [] ⟨True,.dat .bool (fm b),[]⟩:=oE hvc
theorem KC(v a b:Int)(hvc:
 let c1:=Ed v a->Ed v a->Ed v a;true/\(True->c1/\c1/\(Dh true (Ed v a)->Ed v a)/\Ea (Ed v a) (Eh v b) false=dQ v a b/\True)):
  evF (mkc K0) az 248 [.dat I v,.dat I a,.dat I b] [] ⟨True,.dat .bool (dQ v a b),[]⟩:=oE hvc
theorem Iy(v a b:Int)(hvc:
 let c1:=Ed v a->Ed v a->Ed v a;true/\(True->c1/\c1/\(Dh true (Ed v a)->Ed v a)/\Ea (Ed v a) (Eh v b) false=dQ v a b/\True)):
  evF (mkc K0) az 300 [.dat I v,.dat I a,.dat I b] [] ⟨True,.dat .bool (dQ v a b),[]⟩:=oE hvc
theorem Qv(k:Int)(hvc:
 let c1:=Eb k 3;let c2:=Eb k 4;let c3:=Eb k 5;true/\(True->(c1->12=iQ k/\True)/\(c1=false->(c2->40=iQ k/\True)/\(c2=false->(c3->4=iQ k/\True)/\(c3=false->6=iQ k/\True))))):
  evF (mkc K0) az 226 [.dat I k] [] ⟨True,.dat I (iQ k),[]⟩:=oE hvc
theorem Wa(hvc:
 true/\(True->[ByteArray.mk #[(99:UInt8),(97:UInt8),(108:UInt8),(101:UInt8),(110:UInt8),(100:UInt8),(97:UInt8),(114:UInt8)],ByteArray.mk #[(111:UInt8),(112:UInt8),(101:UInt8),(114:UInt8),(97:UInt8),(116:UInt8),(111:UInt8),(114:UInt8)],ByteArray.mk #[(111:UInt8),(102:UInt8),(102:UInt8),(105:UInt8),(99:UInt8),(101:UInt8)],ByteArray.mk #[(108:UInt8),(105:UInt8),(110:UInt8),(101:UInt8)],ByteArray.mk #[(99:UInt8),(108:UInt8),(97:UInt8),(115:UInt8),(115:UInt8)],ByteArray.mk #[(122:UInt8),(111:UInt8),(110:UInt8),(101:UInt8)],ByteArray.mk #[(119:UInt8),(101:UInt8),(101:UInt8),(107:UInt8)],ByteArray.mk #[(104:UInt8),(111:UInt8),(108:UInt8),(105:UInt8),(100:UInt8),(97:UInt8),(121:UInt8)],ByteArray.mk #[(112:UInt8),(111:UInt8),(99:UInt8),(107:UInt8),(101:UInt8),(116:UInt8),(115:UInt8)],ByteArray.mk #[(112:UInt8),(97:UInt8),(115:UInt8),(115:UInt8),(101:UInt8),(115:UInt8)],ByteArray.mk #[(109:UInt8),(105:UInt8),(110:UInt8),(117:UInt8),(116:UInt8),(101:UInt8),(115:UInt8)],ByteArray.mk #[(99:UInt8),(111:UInt8),(100:UInt8),(101:UInt8),(115:UInt8)],ByteArray.mk #[(97:UInt8),(116:UInt8)],ByteArray.mk #[(116:UInt8),(114:UInt8),(97:UInt8),(118:UInt8),(101:UInt8),(108:UInt8)],ByteArray.mk #[(108:UInt8),(111:UInt8),(97:UInt8),(100:UInt8)],ByteArray.mk #[(99:UInt8),(117:UInt8),(116:UInt8)],ByteArray.mk #[(100:UInt8),(101:UInt8),(108:UInt8),(105:UInt8),(118:UInt8),(101:UInt8),(114:UInt8)]]=kw/\True)):
  evF (mkc K0) az 303 [] [] ⟨True,.dat (.sl S) kw,[]⟩:=oE hvc
def K1: Kt:=λf args m=>match f,args,m with
 | 161,[.agg [.dat (.int .i64) z,.dat (.sl .bool) w,.dat (.sl (.int .i64)) h]],[]=>some ⟨True,.dat .bool (aw z w h),[]⟩
 | 118,[.agg [.dat (.int .i64) z,.dat (.sl .bool) w,.dat (.sl (.int .i64)) h]],[]=>some ⟨True,.dat .bool (aw z w h),[]⟩
 | 167,[.agg [.dat (.int .i64) z,.dat (.sl .bool) w,.dat (.sl (.int .i64)) h]],[]=>some ⟨True,.dat .bool (gn w h),[]⟩
 | 283,[.dat (.int .u8) b],[]=>some ⟨True,.dat .bool (ji b),[]⟩
 | 284,[.dat (.int .u8) b],[]=>some ⟨True,.dat .bool (fm b),[]⟩
 | 297,[.dat (.int .u8) b],[]=>some ⟨True,.dat .bool (fm b),[]⟩
 | 248,[.dat (.int .i64) v,.dat (.int .i64) a,.dat (.int .i64) b],[]=>some ⟨True,.dat .bool (dQ v a b),[]⟩
 | 300,[.dat (.int .i64) v,.dat (.int .i64) a,.dat (.int .i64) b],[]=>some ⟨True,.dat .bool (dQ v a b),[]⟩
 | 226,[.dat (.int .i64) k],[]=>some ⟨True,.dat I (iQ k),[]⟩
 | 303,[],[]=>some ⟨True,.dat (.sl S) kw,[]⟩
 | _,_,_=>none
def Yc(s:ByteArray): Ann:=⟨λid st=>match id with
 | 4=>some {α:=Int,inv:=λk=>nQ s k,st:=λk=>put st [(24,.dat I k)],μ:=λk=>Dc (Dj (Et s) k)}
 | 10=>some {α:=Int,inv:=λk=>pg s k,st:=λk=>put st [(42,.dat I k)],μ:=λk=>Dc (Dj 17 k)}
 | _=>none,λ_ _=>none,λ_ _=>none⟩
def Yd(s:ByteArray): Ann:=⟨λid st=>match id with
 | 4=>some {α:=Int,inv:=λk=>ou s k,st:=λk=>put st [(16,.dat I k)],μ:=λk=>Dc (Dj (Et s) k)}
 | _=>none,λ_ _=>none,λ_ _=>none⟩
def aE5(s:ByteArray): Ann:=⟨λid st=>match id with
 | 3=>some {α:=Int,inv:=λk=>pg s k,st:=λk=>put st [(4,.dat I k)],μ:=λk=>Dc (Dj 17 k)}
 | _=>none,λ_ _=>none,λ_ _=>none⟩
theorem C3(v:Int)(hvc:
 let c1:=dQ v 0 1439;true/\(True->True/\c1=c1/\True)):
  evF (mkc K1) az 202 [.dat I v] [] ⟨True,.dat .bool (dQ v 0 1439),[]⟩:=oE hvc
theorem KB(s:ByteArray)(hvc:
 let c15:=Fp s;let c1:=Dp (Et s) 1;let c2:=Di c1;let c3:=Ea c1 true (Ei (Et s) 16);let c4:=Di c3;let c16:=c4->c4->c4;let c5:=Ea c3 true (Di (ji (Gf s 0)));true/\(True->(c2->c2->c2)/\(c2->c2->c2)/\(Dh true c2->c2)/\c16/\(c4->Dl 0 0)/\(c4->0<Et s)/\c16/\(c4->True)/\c16/\(Dh true c4->c4)/\(c5->false=cm s/\True)/\(c5=false->(∃x,nQ s x/\s=s/\Fp s=Fp s/\Df c15=Df c15/\0=x/\True)/\∀(x:Int),let c6:=Dp x (Df c15);let c7:=Du c15 (Dc x) 0;let c8:=Di (ji c7);let c9:=Ea c8 (Di (fm c7)) false;let c10:=Ea c9 (Dy c7 95) false;let c11:=x+1;nQ s x->(c6->0<=x/\x<Df c15/\True/\(c8->c8->c8)/\(c8->True)/\(c8->c8->c8)/\(Dh true c8->c8)/\(c9->c9->c9)/\(Dh true c9->c9)/\(c10->false=cm s/\True)/\(c10=false->inR .i64 c11/\∃y,nQ s y/\(s=s/\Fp s=Fp s/\Df c15=Df c15/\c11=y/\True)/\Dc (Et s-y)<Dc (Et s-x)))/\(c6=false->Dk kw=17/\(∃x,pg s x/\s=s/\kw=kw/\0=x/\True)/\∀(x:Int),let c12:=Dp x 17;let c13:=Fv s (Du kw (Dc x) (ByteArray.mk #[]));let c14:=x+1;pg s x->(c12->0<=x/\x<Dx (17)/\Dk kw=17/\(c13->false=cm s/\True)/\(c13=false->inR .i64 c14/\∃y,pg s y/\(s=s/\kw=kw/\c14=y/\True)/\Dc (17-y)<Dc (17-x)))/\(c12=false->true=cm s/\True))))):
  evF (mkc K1) (lvA [(4,[0,2,4,6,22,23,24,41,42]),(10,[0,2,6,41,42])] (Yc s)) 236 [.dat S s] [] ⟨True,.dat .bool (cm s),[]⟩:=oE hvc
theorem KD(s:ByteArray)(hvc:
 let c10:=Fp s;let c1:=Dp (Et s) 1;let c2:=Di c1;let c3:=Ea c1 true (Ei (Et s) 8);true/\(True->(c2->c2->c2)/\(c2->c2->c2)/\(Dh true c2->c2)/\(c3->false=da s/\True)/\(c3=false->(∃x,ou s x/\Fp s=Fp s/\Df c10=Df c10/\0=x/\True)/\∀(x:Int),let c4:=Dp x (Df c10);let c5:=Du c10 (Dc x) 0;let c6:=Di (fm c5);let c12:=c6->c6->c6;let c7:=Dp c5 65;let c11:=Di c7;let c8:=Ea c6 (Ea c7 true (Ei c5 90)) false;let c9:=x+1;ou s x->(c4->0<=x/\x<Df c10/\True/\c12/\c12/\(Dh c6 c11->Dh c6 c11->Dh c6 c11)/\c12/\(c6->Dh c6 c11->Dh c6 c11)/\(Dh true c6->c6)/\(c8->false=da s/\True)/\(c8=false->inR .i64 c9/\∃y,ou s y/\(Fp s=Fp s/\Df c10=Df c10/\c9=y/\True)/\Dc (Et s-y)<Dc (Et s-x)))/\(c4=false->true=da s/\True)))):
  evF (mkc K1) (lvA [(4,[2,4,14,15,16])] (Yd s)) 247 [.dat S s] [] ⟨True,.dat .bool (da s),[]⟩:=oE hvc
theorem gL(s:ByteArray)(hvc:
 true/\(True->True/\(∃x,pg s x/\s=s/\kw=kw/\0=x/\True)/\∀(x:Int),let c1:=Dp x (Df kw);let c2:=Fv (Du kw (Dc x) (ByteArray.mk #[])) s;let c3:=x+1;pg s x->(c1->0<=x/\x<Df kw/\(c2->true=isKey s/\True)/\(c2=false->inR IntKind.i64 c3/\∃y,pg s y/\(s=s/\kw=kw/\c3=y/\True)/\Dc (17-y)<Dc (17-x)))/\(c1=false->false=isKey s/\True))):
  evF (mkc K1) (lvA [(3,[0,2,3,4])] (aE5 s)) 296 [.dat S s] [] ⟨True,.dat .bool (isKey s),[]⟩:=oE hvc
def K2: Kt:=λf args m=>match f,args,m with
 | 202,[.dat (.int .i64) v],[]=>some ⟨True,.dat .bool (dQ v 0 1439),[]⟩
 | 236,[.dat .str s],[]=>some ⟨True,.dat .bool (cm s),[]⟩
 | 247,[.dat .str s],[]=>some ⟨True,.dat .bool (da s),[]⟩
 | 296,[.dat .str s],[]=>some ⟨True,.dat .bool (isKey s),[]⟩
 | _,_,_=>K1 f args m
theorem ql(x y:Bool): Ea x true y=(x||y):=by cases x<;>rfl
theorem jb(x y:Bool): Ea x y false=(x&&y):=by cases x<;>rfl
theorem hm: Tryz.prog.follows .mixedOrders=true:=by kernel_rfl
theorem KS0: aj Tryz.prog G0 K0:=λf args m c h=>by cases h
theorem aL: br Tryz.prog G0 KI0:=λf args c h=>by cases h
def O2(z:Int)(w:List Bool)(h:Li): Prop:=(-720<=z/\z<=840/\w.length=7/\h.length<=40)/\∀i:Nat,i+1<h.length->h.getD i 0<h.getD (i+1) 0
theorem cF{z:Int}{w:List Bool}{h:Li}: aw z w h=true↔O2 z w h:=by
 unfold aw O2;rw[qC,qE,qN];refine and_congr_right λ_=>⟨λg i hi=>?_,λg i hi=>?_⟩
 .have:=g i (qX.2 (by omega))
  simpa using this
 .have:=qX.1 hi;simpa using g i (by omega)
theorem oN{z:Int}{w:List Bool}{h:Li}(hn:¬O2 z w h): false=aw z w h:=by
 cases hv:aw z w h with
 | false=>rfl
 | true=>exact(hn (cF.1 hv)).elim
theorem BG{h:Li}(hl:¬(h.length:Int)>40): qz h 1:=⟨qL _,.inr rfl,by omega,λi hi=>by omega⟩
theorem vL{h:Li}{x:Int}(hx:qz h x)(hlt:x<h.length)(hn:h.getD (x-1).toNat 0<h.getD x.toNat 0): qz h (x+1):=by
 obtain⟨g1,g2,g3,g4⟩:=hx;refine⟨by omega,by omega,g3,λi hi=>?_⟩
 by_cases e:(i:Int)+1<x
 .exact g4 i e
 .have e1:(x-1).toNat=i:=by omega
  have e2:x.toNat=i+1:=by omega
  rwa [e1,e2]at hn
theorem BH{z:Int}{w:List Bool}{h:Li}{x:Int}(hx:qz h x)(hlt:x<h.length)(hn:h.getD x.toNat 0<=h.getD (x-1).toNat 0): false=aw z w h:=by
 refine oN λhv=>?_
 have:=hx.1;have:=hv.2 (x-1).toNat (by omega)
 rw[show(x-1).toNat+1=x.toNat by omega]at this
 omega
theorem BI{z:Int}{w:List Bool}{h:Li}{x:Int}(hx:qz h x)(hge:¬x<h.length)(h1:-720<=z)(h2:z<=840)(h3:w.length=7): true=aw z w h:=
 (cF.2 ⟨⟨h1,h2,h3,by have:=hx.2.2.1;omega⟩,λi hi=>hx.2.2.2 i (by omega)⟩).symm
theorem DG(z:Int)(w:List Bool)(h:Li): af Tryz.prog G0 161 [cal z w h] [] ⟨True,.dat .bool (aw z w h),[]⟩:=by
 refine ae (c:=mkc K0) KS0 aL hm (wv z w h ⟨rfl,λ_=>?_⟩)
 simp only[qc,Dh,Es,Di,qd,Dt,Eb,Dy,Dp,Ei,Eh,Ed,Ew,Df,Et,Dl,Dn,Eo,Dz,Dw,Dj,Dq,Ee,Fe,Dc,Dx,Dk,Ec,Em,Du,Eu,Ez,En,Ef,Fg,Fj,Fh,Ep,Ej,Ey,Fb];refine⟨λhb=>oN λhv=>?_,λ⟨⟨⟨h1,h2⟩,h3⟩,h4⟩=>⟨BG h4,λx hx=>⟨λhlt=>?_,λhge=>BI hx hge (by omega) (by omega) (by omega)⟩⟩⟩
 .obtain⟨⟨g1,g2,g3,g4⟩,_⟩:=hv;omega
 .have hx1:=hx.1;have hx3:=hx.2.2.1;refine⟨by omega,hlt,⟨by omega,by omega⟩,by omega,by omega,λhle=>BH hx hlt hle,λhn=>⟨⟨by omega,by omega⟩,x+1,vL hx hlt (by omega),rfl,by omega⟩⟩
theorem RO(z:Int)(w:List Bool)(h:Li): af Tryz.prog G0 118 [cal z w h] [] ⟨True,.dat .bool (aw z w h),[]⟩:=by
 refine ae (c:=mkc K0) KS0 aL hm (Kr z w h ⟨rfl,λ_=>?_⟩)
 simp only[qc,Dh,Es,Di,qd,Dt,Eb,Dy,Dp,Ei,Eh,Ed,Ew,Df,Et,Dl,Dn,Eo,Dz,Dw,Dj,Dq,Ee,Fe,Dc,Dx,Dk,Ec,Em,Du,Eu,Ez,En,Ef,Fg,Fj,Fh,Ep,Ej,Ey,Fb];refine⟨λhb=>oN λhv=>?_,λ⟨⟨⟨h1,h2⟩,h3⟩,h4⟩=>⟨BG h4,λx hx=>⟨λhlt=>?_,λhge=>BI hx hge (by omega) (by omega) (by omega)⟩⟩⟩
 .obtain⟨⟨g1,g2,g3,g4⟩,_⟩:=hv;omega
 .have hx1:=hx.1;have hx3:=hx.2.2.1;refine⟨⟨by omega,by omega⟩,by omega,by omega,by omega,hlt,λhle=>BH hx hlt hle,λhn=>⟨⟨by omega,by omega⟩,x+1,vL hx hlt (by omega),rfl,by omega⟩⟩
theorem XG(z:Int)(w:List Bool)(h:Li): af Tryz.prog G0 167 [cal z w h] [] ⟨True,.dat .bool (gn w h),[]⟩:=by
 refine ae (c:=mkc K0) KS0 aL hm (P6 z w h ⟨rfl,λ_=>?_⟩)
 simp only[qc,Dh,Es,Di,gn,Eh,Df]
 congr 1<;>congr 1<;>exact propext (by omega)
theorem lQ(p q:Prop)[Decidable p][Decidable q]: (decide p&&decide q)=decide (p/\q):=by by_cases hp:p<;>by_cases hq:q<;>simp[hp,hq]
theorem L2(b:Int): af Tryz.prog G0 283 [.dat U b] [] ⟨True,.dat .bool (ji b),[]⟩:=by
 refine ae (c:=mkc K0) KS0 aL hm (Ip b ⟨rfl,λ_=>?_⟩)
 simp only[qc,Dh,Es,Di,ji,Ed,Eh,lQ,kN]
theorem L6(b:Int): af Tryz.prog G0 284 [.dat U b] [] ⟨True,.dat .bool (fm b),[]⟩:=by
 refine ae (c:=mkc K0) KS0 aL hm (Iq b ⟨rfl,λ_=>?_⟩)
 simp only[qc,Dh,Es,Di,fm,Ed,Eh,lQ,kN]
theorem XL(b:Int): af Tryz.prog G0 297 [.dat U b] [] ⟨True,.dat .bool (fm b),[]⟩:=by
 refine ae (c:=mkc K0) KS0 aL hm (QM b ⟨rfl,λ_=>?_⟩)
 simp only[qc,Dh,Es,Di,fm,Ed,Eh,lQ,kN]
theorem RQ(v a b:Int): af Tryz.prog G0 248 [.dat I v,.dat I a,.dat I b] [] ⟨True,.dat .bool (dQ v a b),[]⟩:=by
 refine ae (c:=mkc K0) KS0 aL hm (KC v a b ⟨rfl,λ_=>?_⟩)
 simp only[qc,Dh,Es,Di,dQ,Ed,Eh,lQ,kN]
theorem Mc(v a b:Int): af Tryz.prog G0 300 [.dat I v,.dat I a,.dat I b] [] ⟨True,.dat .bool (dQ v a b),[]⟩:=by
 refine ae (c:=mkc K0) KS0 aL hm (Iy v a b ⟨rfl,λ_=>?_⟩)
 simp only[qc,Dh,Es,Di,dQ,Ed,Eh,lQ,kN]
theorem XI(k:Int): af Tryz.prog G0 226 [.dat I k] [] ⟨True,.dat I (iQ k),[]⟩:=by
 refine ae (c:=mkc K0) KS0 aL hm (Qv k ⟨rfl,λ_=>?_⟩)
 simp only[qc,Dh,Es,Di,qd,Dt,Eb,Dy,Dp,Ei,Eh,Ed,Ew,Df,Et,Dl,Dn,Eo,Dz,Dw,Dj,Dq,Ee,Fe,Dc,Dx,Dk,Ec,Em,Du,Eu,Ez,En,Ef,Fg,Fj,Fh,Ep,Ej,Ey,Fb,iQ];refine⟨λh=>by rw[if_pos h],λh1=>⟨λh=>by rw[if_neg h1,if_pos h],λh2=>⟨λh=>by rw[if_neg h1,if_neg h2,if_pos h],λh=>by rw[if_neg h1,if_neg h2,if_neg h]⟩⟩⟩
theorem aAv: af Tryz.prog G0 303 [] [] ⟨True,.dat (.sl S) kw,[]⟩:=
 ae (c:=mkc K0) KS0 aL hm (Wa ⟨rfl,λ_=>⟨rfl,trivial⟩⟩)
theorem KS1: aj Tryz.prog G0 K1:=by
 intro f args m c h;unfold K1 at h;split at h
 .cases h;exact DG _ _ _
 .cases h;exact RO _ _ _
 .cases h;exact XG _ _ _
 .cases h;exact L2 _
 .cases h;exact L6 _
 .cases h;exact XL _
 .cases h;exact RQ _ _ _
 .cases h;exact Mc _ _ _
 .cases h;exact XI _
 .cases h;exact aAv
 .cases h
theorem JI(s:ByteArray)(i:Nat): (Fp s).getD i 0=((s.data.getD i 0).toNat:Int):=by
 show(List.map (λb:UInt8=>(b.toNat:Int)) s.data.toList).getD i 0=_
 rw[qA,qP,zY,qK];cases s.data[i]?<;>rfl
theorem B8(s:ByteArray)(x:Int): (Fp s).getD x.toNat 0=Gf s x:=JI s x.toNat
theorem qm(s:ByteArray): (Fp s).length=s.size:=by
 show(List.map _ s.data.toList).length=s.data.size;rw[vV,vH]
theorem mj(s:ByteArray): s.data.toList.length=s.size:=vH
theorem gZ{α:Type}{l:List α}{p:α->Bool}{d:α}{k:Nat}(h:(l.take k).all p=true)(hk:k<l.length)(hp:p (l.getD k d)=true): (l.take (k+1)).all p=true:=by
 rw[wX,qB hk,kY,h];rw[qA,qB hk]at hp;simpa using hp
theorem pD{α:Type}{l:List α}{p:α->Bool}{d:α}{k:Nat}(hk:k<l.length)(hp:p (l.getD k d)=false): l.all p=false:=by
 rw[qA,qB hk]at hp;rw[qCt];exact⟨l[k],wQ hk,by simpa using hp⟩
theorem Vw{α:Type}{l:List α}{p:α->Bool}{d:α}{k:Nat}(hk:k<l.length)(hp:p (l.getD k d)=true): l.any p=true:=by
 rw[qA,qB hk]at hp;exact xE.2 ⟨l[k],wQ hk,by simpa using hp⟩
theorem wq{α:Type}{l:List α}{p:α->Bool}{d:α}{k:Nat}(h:(l.take k).any p=false)(hk:k<l.length)(hp:p (l.getD k d)=false): (l.take (k+1)).any p=false:=by
 rw[wX,qB hk,qDi,h];rw[qA,qB hk]at hp;simpa using hp
theorem oq(s:ByteArray)(i:Nat): s.data.toList.getD i 0=s.data.getD i 0:=by
 rw[qA,zY,qK]
theorem EC(s:ByteArray): nQ s 0:=⟨qL _,vC _,by simp⟩
theorem FK(s:ByteArray): ou s 0:=⟨qL _,vC _,by simp⟩
theorem vB(s:ByteArray): pg s 0:=⟨qL _,by decide,by simp⟩
theorem ED{s:ByteArray}{x:Int}(h:nQ s x)(hx:x<s.size)(hp:nameB (Gf s x)=true): nQ s (x+1):=by
 obtain⟨h0,h1,h2⟩:=h;refine⟨by omega,by omega,?_⟩
 rw[show(x+1).toNat=x.toNat+1 by omega]
 exact gZ (d:=0) h2 (by rw[mj];omega) (by rw[oq];exact hp)
theorem FM{s:ByteArray}{x:Int}(h:ou s x)(hx:x<s.size)(hp:tW (Gf s x)=true): ou s (x+1):=by
 obtain⟨h0,h1,h2⟩:=h;refine⟨by omega,by omega,?_⟩
 rw[show(x+1).toNat=x.toNat+1 by omega]
 exact gZ (d:=0) h2 (by rw[mj];omega) (by rw[oq];exact hp)
theorem I4{s:ByteArray}{x:Int}(h:nQ s x)(hx:¬x<s.size): (s.data.toList.all λb=>nameB (b.toNat:Int))=true:=by
 obtain⟨h0,h1,h2⟩:=h
 rwa [qO (by rw[mj];omega)]at h2
theorem JB{s:ByteArray}{x:Int}(h:ou s x)(hx:¬x<s.size): (s.data.toList.all λb=>tW (b.toNat:Int))=true:=by
 obtain⟨h0,h1,h2⟩:=h
 rwa [qO (by rw[mj];omega)]at h2
theorem SX{s:ByteArray}{x:Int}(h:nQ s x)(hx:x<s.size)(hp:nameB (Gf s x)=false): (s.data.toList.all λb=>nameB (b.toNat:Int))=false:=
 pD (d:=0) (k:=x.toNat) (by rw[mj];have:=h.1;omega) (by rw[oq];exact hp)
theorem TX{s:ByteArray}{x:Int}(h:ou s x)(hx:x<s.size)(hp:tW (Gf s x)=false): (s.data.toList.all λb=>tW (b.toNat:Int))=false:=
 pD (d:=0) (k:=x.toNat) (by rw[mj];have:=h.1;omega) (by rw[oq];exact hp)
theorem vD{s:ByteArray}{x:Int}(h:pg s x)(hx:x<17)(hp:s.toList≠(kw.getD x.toNat ⟨#[]⟩).toList): pg s (x+1):=by
 obtain⟨h0,h1,h2⟩:=h;refine⟨by omega,by omega,?_⟩
 rw[show(x+1).toNat=x.toNat+1 by omega]
 exact wq (d:=⟨#[]⟩) h2 (by show x.toNat<17;omega) (by simpa using λe=>hp e.symm)
theorem Vb{s:ByteArray}{x:Int}(h:pg s x)(hx:x<17)(hp:s.toList=(kw.getD x.toNat ⟨#[]⟩).toList): isKey s=true:=
 Vw (d:=⟨#[]⟩) (k:=x.toNat) (by have:=h.1;show x.toNat<17;omega) (by simpa using hp.symm)
theorem BA{s:ByteArray}{x:Int}(h:pg s x)(hx:¬x<17): isKey s=false:=by
 obtain⟨h0,h1,h2⟩:=h;have:x=17:=by omega
 subst this;exact h2
theorem EB{s:ByteArray}(h:cm s=true->False): false=cm s:=by
 cases e:cm s with
 | false=>rfl
 | true=>exact(h e).elim
theorem Ou{s:ByteArray}(h:da s=true->False): false=da s:=by
 cases e:da s with
 | false=>rfl
 | true=>exact(h e).elim
theorem jR{s:ByteArray}: cm s=true↔(1<=s.size/\s.size<=16)/\ji (Gf s 0)=true/\(s.data.toList.all λb=>nameB (b.toNat:Int))=true/\isKey s=false:=by
 unfold cm;simp only[qC,qE,zJ,qDe];exact Iff.rfl
theorem m4{s:ByteArray}: da s=true↔(1<=s.size/\s.size<=8)/\(s.data.toList.all λb=>tW (b.toNat:Int))=true:=by
 unfold da;simp only[qC,qE]
theorem EE{b:Int}(h1:ji b=false)(h2:fm b=false)(h3:b≠95): nameB b=false:=by simp[nameB,h1,h2,h3]
theorem IL(v:Int): af Tryz.prog G0 202 [.dat I v] [] ⟨True,.dat .bool (dQ v 0 1439),[]⟩:=
 ae (c:=mkc K1) KS1 aL hm (C3 v ⟨rfl,λ_=>⟨trivial,rfl,trivial⟩⟩)
theorem SY{b:Int}(h:ji b=false->fm b=false->b=95): nameB b=true:=by
 unfold nameB;cases q1:ji b with
 | true=>rfl
 | false=>cases q2:fm b with
  | true=>rfl
  | false=>simpa using h q1 q2
theorem T0{b:Int}(h:fm b=false->65<=b/\b<=90): tW b=true:=by
 unfold tW;cases q1:fm b with
 | true=>rfl
 | false=>simpa using h q1
theorem FO{b:Int}(h1:fm b=false)(h2:b<65\/b>90): tW b=false:=by
 unfold tW;rw[h1];simp;omega
theorem RP(s:ByteArray): af Tryz.prog G0 236 [.dat S s] [] ⟨True,.dat .bool (cm s),[]⟩:=by
 refine ae (c:=mkc K1) KS1 aL hm (KB s ⟨rfl,λ_=>?_⟩)
 simp only[qc,Dh,Es,Di,qd,Dt,Eb,Dy,Dp,Ei,Eh,Ed,Ew,Df,Et,Dl,Dn,Eo,Dz,Dw,Dj,Dq,Ee,Fe,Dc,Dx,Dk,Ec,Em,Du,Eu,Ez,En,Ef,Fg,Fj,Fh,Ep,Ej,Ey,Fb,B8,qm];refine⟨λ_=>qL _,λh=>by omega,λh=>EB λg=>?_,λ⟨⟨h1,h2⟩,h3⟩=>⟨EC s,λx hx=>⟨λhlt=>?_,λhge=>?_⟩⟩⟩
 .rw[jR]at g;rcases h with h | h
  .omega
  .rw[g.2.1]at h;cases h
 .refine⟨hx.1,hlt,λ⟨⟨b1,b2⟩,b3⟩=>EB λg=>?_,λhb=>⟨⟨by have:=hx.1;omega,by omega⟩,x+1,ED hx hlt (SY λq1 q2=>hb ⟨q1,q2⟩),rfl,by have:=hx.1;omega⟩⟩
  have:=SX hx hlt (EE b1 b2 b3);rw[(jR.1 g).2.2.1]at this;cases this
 .refine⟨rfl,vB s,λy hy=>⟨λhlt=>⟨hy.1,by omega,rfl,λhe=>EB λg=>?_,λhne=>⟨⟨by have:=hy.1;omega,by omega⟩,y+1,vD hy hlt hne,rfl,by have:=hy.1;omega⟩⟩,λhge2=>(jR.2 ⟨by omega,h3,I4 hx hge,BA hy hge2⟩).symm⟩⟩
  have:=Vb hy hlt he;rw[(jR.1 g).2.2.2]at this;cases this
theorem RR(s:ByteArray): af Tryz.prog G0 247 [.dat S s] [] ⟨True,.dat .bool (da s),[]⟩:=by
 refine ae (c:=mkc K1) KS1 aL hm (KD s ⟨rfl,λ_=>?_⟩)
 simp only[qc,Dh,Es,Di,qd,Dt,Eb,Dy,Dp,Ei,Eh,Ed,Ew,Df,Et,Dl,Dn,Eo,Dz,Dw,Dj,Dq,Ee,Fe,Dc,Dx,Dk,Ec,Em,Du,Eu,Ez,En,Ef,Fg,Fj,Fh,Ep,Ej,Ey,Fb,B8,qm];refine⟨λh=>Ou λg=>by rw[m4]at g;omega,λ⟨h1,h2⟩=>⟨FK s,λx hx=>⟨λhlt=>?_,λhge=>(m4.2 ⟨by omega,JB hx hge⟩).symm⟩⟩⟩
 refine⟨hx.1,hlt,λ⟨b1,b2⟩=>Ou λg=>?_,λhb=>⟨⟨by have:=hx.1;omega,by omega⟩,x+1,FM hx hlt (T0 λq1=>by have:=hb q1;omega),rfl,by have:=hx.1;omega⟩⟩
 have:=TX hx hlt (FO b1 b2);rw[(m4.1 g).2]at this;cases this
theorem aDr(s:ByteArray): af Tryz.prog G0 296 [.dat S s] [] ⟨True,.dat .bool (isKey s),[]⟩:=by
 refine ae (c:=mkc K1) KS1 aL hm (gL s ⟨rfl,λ_=>?_⟩)
 simp only[qc,Dh,Es,Di,qd,Dt,Eb,Dy,Dp,Ei,Eh,Ed,Ew,Df,Et,Dl,Dn,Eo,Dz,Dw,Dj,Dq,Ee,Fe,Dc,Dx,Dk,Ec,Em,Du,Eu,Ez,En,Ef,Fg,Fj,Fh,Ep,Ej,Ey,Fb];have hl:(kw.length:Int)=17:=rfl;refine⟨vB s,λy hy=>⟨λhlt=>⟨hy.1,hlt,λhe=>(Vb hy (by omega) he.symm).symm,λhne=>⟨⟨by have:=hy.1;omega,by omega⟩,y+1,vD hy (by omega) (λe=>hne e.symm),rfl,by have:=hy.1;omega⟩⟩,λhge=>(BA hy (by omega)).symm⟩⟩
theorem KS2: aj Tryz.prog G0 K2:=by
 intro f args m c h;unfold K2 at h;split at h
 .cases h;exact IL _
 .cases h;exact RP _
 .cases h;exact RR _
 .cases h;exact aDr _
 .exact KS1 _ _ _ _ h
end Go.Eng.Sv
set_option maxRecDepth 100000
noncomputable section
namespace Go.Eng.Sv
open Go.Proofs
abbrev Of: Ty:=.pair S (.pair I (.pair I (.pair I (.pair I (.pair I (.sl S))))))
abbrev Ln: Ty:=.pair S (.pair I (.pair I (.pair I (.pair I I))))
abbrev Kl: Ty:=.pair S (.pair I I)
abbrev Fa: Ty:=.pair I (.pair I I)
abbrev N: Ty:=.pair (.sl C) (.pair (.sl S) (.pair (.sl S) (.pair (.sl Of) (.pair (.sl Ln) (.sl Kl)))))
abbrev Off:=ByteArray×Int×Int×Int×Int×Int×List ByteArray
abbrev Lo:=List Off
abbrev Cla:=ByteArray×Int×Int
abbrev Lk:=List Cla
abbrev Net:=List (Int×List Bool×Li)×List ByteArray×List ByteArray×Lo×Ll×Lk
abbrev net(cs:LC)(ns os:LB)(fs:Lo)(ls:Ll)(ks:Lk): AV:=.agg [.dat (.sl C) cs,.dat (.sl S) ns,.dat (.sl S) os,.dat (.sl Of) fs,.dat (.sl Ln) ls,.dat (.sl Kl) ks]
def dM(i n:Int): Bool:=decide (0<=i/\i<n)
def idx(i n:Int): Prop:=0<=i/\i<n
def qf(i n:Int): Prop:=0<=i/\i<n/\i<=1000
def jV(l:List ByteArray)(k:Int): Prop:=0<=k/\k<=l.length/\(l.take k.toNat).all da=true
def db(n:Net)(o:Off): Bool:=dM o.2.1 n.2.2.1.length&&dM o.2.2.1 n.1.length&&decide (o.2.2.2.2.2.2.length<=20)&&o.2.2.2.2.2.2.all da&&dQ o.2.2.2.1 2 64&&dQ o.2.2.2.2.1 1 4&&dQ o.2.2.2.2.2.1 1 240
def dc(n:Net)(l:Line): Bool:=dM l.2.1 n.2.2.2.1.length&&dM l.2.2.1 n.2.2.2.1.length&&decide (l.2.1≠l.2.2.1)&&dQ l.2.2.2.1 0 1439&&dQ l.2.2.2.2.1 1 5000&&dQ l.2.2.2.2.2 1 40
def iy(k:Cla): Bool:=dQ k.2.1 0 1439&&dQ k.2.2 0 1439
def aA(cs:List (Int×List Bool×Li))(ns:List ByteArray): List ByteArray:=(List.range cs.length).map λi=>ns.getD i ⟨#[]⟩
def aC(fs:Lo): List ByteArray:=fs.map (·.1)
def aD(ls:Ll): List ByteArray:=ls.map (·.1)
def aE(ks:Lk): List ByteArray:=ks.map (·.1)
def bn(cs:List (Int×List Bool×Li)): List Bool:=cs.map λc=>aw c.1 c.2.1 c.2.2
def bU(os:List ByteArray): List Bool:=os.map λ_=>true
def cP(n:Net): List Bool:=n.2.2.2.1.map (db n)
def cD(n:Net): List Bool:=n.2.2.2.2.1.map (dc n)
def bv(ks:Lk): List Bool:=ks.map iy
def gb(l:List ByteArray)(i:Int): ByteArray:=l.getD i.toNat ⟨#[]⟩
def bF(l:List ByteArray)(i:Int): Int:=if cm (gb l i)then 0 else 1
def rule2(l:List ByteArray)(i:Int): Int:=if(l.take i.toNat).any (λw=>w.toList==(gb l i).toList)then 4 else 0
def bO(g:List Bool)(i:Int): Int:=if g.getD i.toNat false then 0 else 1
def uv(l:List ByteArray)(i k:Int): Prop:=0<=k/\k<=i/\(l.take k.toNat).any (λw=>w.toList==(gb l i).toList)=false
def bZ(l:List ByteArray)(g:List Bool)(i k:Int): Prop:=0<=k/\k<=3/\(0<k->bF l i=0)/\(1<k->rule2 l i=0)/\(2<k->bO g i=0)
def HJ(l:List ByteArray)(g:List Bool)(i:Int): Int:=if bF l i≠0 then bF l i else if rule2 l i≠0 then rule2 l i else bO g i
def aR(kind:Int)(l:List ByteArray)(g:List Bool)(k:Int): List (Int×Int×Int):=(List.range k.toNat).filterMap λi:Nat=>if HJ l g i=0 then none else some (kind,(i:Int),HJ l g i)
def I2(kind lim:Int)(l:List ByteArray): List (Int×Int×Int):=if lim<l.length then[(kind,lim,2)]else[]
def bD(kind lim:Int)(l:List ByteArray)(g:List Bool): List (Int×Int×Int):=aR kind l g (min l.length lim)++I2 kind lim l
def cQ(k n lim:Int): Prop:=0<=k/\k<=n/\k<=lim
def E0(n:Net): List (Int×Int×Int):=if n.2.1.length=n.1.length then[]else[(1,-1,1)]
def aP(n:Net)(k:Int): List ByteArray:=if k=1 then aA n.1 n.2.1 else if k=2 then n.2.2.1 else if k=3 then aC n.2.2.2.1 else if k=4 then aD n.2.2.2.2.1 else if k=5 then aE n.2.2.2.2.2 else[]
def NU(n:Net)(k:Int): List Bool:=if k=1 then bn n.1 else if k=2 then bU n.2.2.1 else if k=3 then cP n else if k=4 then cD n else if k=5 then bv n.2.2.2.2.2 else[]
def iW(n:Net)(k:Int): List (Int×Int×Int):=E0 n++(List.range (k.toNat-1)).flatMap λj:Nat=>bD (j+1) (iQ (j+1)) (aP n (j+1)) (NU n (j+1))
def ff(n:Net): List (Int×Int×Int):=iW n 6
def mN(n:Net): Bool:=decide (n.1.length<=10/\n.2.1.length<=10/\n.2.2.1.length<=10/\n.2.2.2.1.length<=16/\n.2.2.2.2.1.length<=50/\n.2.2.2.2.2.length<=8)
theorem Qy(i:Int)(xs:List Of.den)(hvc:
 let c1:=Ed i 0;let c3:=c1->c1->c1;let c2:=Df xs;true/\(True->c3/\c3/\c3/\(Dh true c1->c1)/\Ea c1 (Dp i c2) false=dM i c2/\True)):
  evF (mkc K2) az 252 [.dat I i,.dat (.sl Of) xs] [] ⟨True,.dat .bool (dM i (Df xs)),[]⟩:=oE hvc
theorem Wc(i:Int)(xs:List S.den)(hvc:
 let c1:=Ed i 0;let c2:=c1->c1->c1;true/\(True->c2/\c2/\c2/\(Dh true c1->c1)/\Ea c1 (Dp i (Df xs)) false=dM i (Df xs)/\True)):
  evF (mkc K2) az 245 [.dat I i,.dat (.sl S) xs] [] ⟨True,.dat .bool (dM i (Df xs)),[]⟩:=oE hvc
theorem Wg(i:Int)(xs:List C.den)(hvc:
 let c1:=Ed i 0;let c3:=c1->c1->c1;let c2:=Df xs;true/\(True->c3/\c3/\c3/\(Dh true c1->c1)/\Ea c1 (Dp i c2) false=dM i c2/\True)):
  evF (mkc K2) az 246 [.dat I i,.dat (.sl C) xs] [] ⟨True,.dat .bool (dM i (Df xs)),[]⟩:=oE hvc
def K3: Kt:=kOr 252 (ax [.val I,.val (.sl Of)] (λ_=>True) λ(i,xs,_)=>.dat .bool (dM i (Df xs)))
 (kOr 245 (ax [.val I,.val (.sl S)] (λ_=>True) λ(i,xs,_)=>.dat .bool (dM i (Df xs)))
 (kOr 246 (ax [.val I,.val (.sl C)] (λ_=>True) λ(i,xs,_)=>.dat .bool (dM i (Df xs))) K2))
def aBi(l:List ByteArray): Ann:=⟨λid st=>match id with
 | 4=>some {α:=Int,inv:=λk=>jV l k,st:=λk=>put st [(30,.dat I k)],μ:=λk=>Dc (Dj (Df l) k)}
 | _=>none,λ_ _=>none,λ_ _=>none⟩
theorem wx(cs:LC)(ns os:LB)(fs:Lo)(ls:Ll)(ks:Lk)(e1:ByteArray)(e2 e3 e4 e5 e6:Int)(e7:List ByteArray)(hvc:
 let c1:=Di (dM e2 (Df os));let c2:=Di c1;let c13:=c2->c2->c2;let c3:=Ea c1 true (Di (dM e3 (Df cs)));let c4:=Di c3;let c14:=c4->c4->c4;let c5:=Ea c3 true (Ei (Df e7) 20);let c6:=(e1,e2,e3,e4,e5,e6,e7);let c7:=db (cs,ns,os,fs,ls,ks) c6;let c8:=dQ e4 2 64;let c9:=Ea c8 (dQ e5 1 4) false;true/\(True->True/\c13/\c13/\c13/\c13/\(c2->True)/\c13/\(Dh true c2->c2)/\c14/\c14/\c14/\(Dh true c4->c4)/\(c5->false=c7/\True)/\(c5=false->(∃x,jV e7 x/\c6=c6/\e7=e7/\Df e7=Df e7/\0=x/\True)/\∀(x:Int),let c10:=Dp x (Df e7);let c11:=Di (da (Du e7 (Dc x) (ByteArray.mk #[])));let c12:=x+1;jV e7 x->(c10->0<=x/\x<Df e7/\True/\(c11->false=c7/\True)/\(c11=false->inR .i64 c12/\∃y,jV e7 y/\(c6=c6/\e7=e7/\Df e7=Df e7/\c12=y/\True)/\Dc (Df e7-y)<Dc (Df e7-x)))/\(c10=false->True/\(c8->c8->c8)/\(c8->c8->c8)/\(c8->True)/\(Dh true c8->c8)/\(c9->c9->c9)/\(c9->c9->c9)/\(c9->True)/\(Dh true c9->c9)/\Ea c9 (dQ e6 1 240) false=c7/\True)))):
  evF (mkc K3) (lvA [(4,[3,4,6,28,29,30])] (aBi e7)) 194 [net cs ns os fs ls ks,.agg [.dat .str e1,.dat (.int .i64) e2,.dat (.int .i64) e3,.dat (.int .i64) e4,.dat (.int .i64) e5,.dat (.int .i64) e6,.dat (.sl .str) e7]] [] ⟨True,.dat .bool (db (cs,ns,os,fs,ls,ks) (e1,e2,e3,e4,e5,e6,e7)),[]⟩:=oE hvc
theorem C5(cs:LC)(ns os:LB)(fs:Lo)(ls:Ll)(ks:Lk)(e1:ByteArray)(e2 e3 e4 e5 e6:Int)(hvc:
 let c1:=Df fs;let c2:=Di (dM e2 c1);let c3:=Di c2;let c10:=c3->c3->c3;let c4:=Ea c2 true (Di (dM e3 c1));let c5:=Di c4;let c11:=c5->c5->c5;let c6:=Ea c4 true (Eb e2 e3);let c7:=dc (cs,ns,os,fs,ls,ks) (e1,e2,e3,e4,e5,e6);let c8:=dQ e4 0 1439;let c9:=Ea c8 (dQ e5 1 5000) false;true/\(True->True/\c10/\c10/\c10/\c10/\(c3->True)/\c10/\(Dh true c3->c3)/\c11/\c11/\c11/\c11/\(Dh true c5->c5)/\(c6->false=c7/\True)/\(c6=false->True/\(c8->c8->c8)/\(c8->c8->c8)/\(c8->True)/\(Dh true c8->c8)/\(c9->c9->c9)/\(c9->c9->c9)/\(c9->True)/\(Dh true c9->c9)/\Ea c9 (dQ e6 1 40) false=c7/\True))):
  evF (mkc K3) az 198 [net cs ns os fs ls ks,.agg [.dat .str e1,.dat (.int .i64) e2,.dat (.int .i64) e3,.dat (.int .i64) e4,.dat (.int .i64) e5,.dat (.int .i64) e6]] [] ⟨True,.dat .bool (dc (cs,ns,os,fs,ls,ks) (e1,e2,e3,e4,e5,e6)),[]⟩:=oE hvc
def K4: Kt:=kOr 194 (ax [.row N,.row Of] (λ_=>True) λ(n,o,_)=>.dat .bool (db n o))
 (kOr 198 (ax [.row N,.row Ln] (λ_=>True) λ(n,l,_)=>.dat .bool (dc n l)) K3)
theorem ZV(i:Int)(cs:LC)(ns os:LB)(fs:Lo)(ls:Ll)(ks:Lk)(hvc:
 let c1:=Dp i (Df ns);let c2:=gb (aA cs ns) i;true/\(idx i (Df cs)->(c1->0<=i/\i<Df ns/\Du ns (Dc i) (ByteArray.mk #[])=c2/\True)/\(c1=false->ByteArray.mk #[]=c2/\True))):
  evF (mkc K4) az 186 [.dat I i,.ip N (cs,ns,os,fs,ls,ks)] [] ⟨idx i (Df cs),.dat S (gb (aA cs ns) i),[]⟩:=oE hvc
theorem ZU(i:Int)(cs:LC)(ns os:LB)(fs:Lo)(ls:Ll)(ks:Lk)(hvc:
 true/\(idx i (Df os)->0<=i/\i<Df os/\Du os (Dc i) (ByteArray.mk #[])=gb os i/\True)):
  evF (mkc K4) az 188 [.dat I i,.ip N (cs,ns,os,fs,ls,ks)] [] ⟨idx i (Df os),.dat S (gb os i),[]⟩:=oE hvc
theorem Z8(e1:ByteArray)(hvc:
 true/\(True->true/\True)):
  evF (mkc K4) az 190 [.agg [.dat .str e1]] [] ⟨True,.dat .bool true,[]⟩:=oE hvc
theorem ZT(i:Int)(cs:LC)(ns os:LB)(fs:Lo)(ls:Ll)(ks:Lk)(hvc:
 let c1:=Df fs;true/\(idx i c1->0<=i/\i<c1/\(Du fs (Dc i) (ByteArray.mk #[],(0:Int),(0:Int),(0:Int),(0:Int),(0:Int),Dt ByteArray)).1=gb (aC fs) i/\True)):
  evF (mkc K4) az 191 [.dat I i,.ip N (cs,ns,os,fs,ls,ks)] [] ⟨idx i (Df fs),.dat S (gb (aC fs) i),[]⟩:=oE hvc
theorem Z7(cs:LC)(ns os:LB)(fs:Lo)(ls:Ll)(ks:Lk)(e1:ByteArray)(e2 e3 e4 e5 e6:Int)(e7:List ByteArray)(hvc:
 let c1:=db (cs,ns,os,fs,ls,ks) (e1,e2,e3,e4,e5,e6,e7);true/\(True->True/\c1=c1/\True)):
  evF (mkc K4) az 193 [.agg [.dat .str e1,.dat (.int .i64) e2,.dat (.int .i64) e3,.dat (.int .i64) e4,.dat (.int .i64) e5,.dat (.int .i64) e6,.dat (.sl .str) e7],.ip N (cs,ns,os,fs,ls,ks)] [] ⟨True,.dat .bool (db (cs,ns,os,fs,ls,ks) (e1,e2,e3,e4,e5,e6,e7)),[]⟩:=oE hvc
theorem ZS(i:Int)(cs:LC)(ns os:LB)(fs:Lo)(ls:Ll)(ks:Lk)(hvc:
 let c1:=Df ls;true/\(idx i c1->0<=i/\i<c1/\(Du ls (Dc i) (ByteArray.mk #[],(0:Int),(0:Int),(0:Int),(0:Int),(0:Int))).1=gb (aD ls) i/\True)):
  evF (mkc K4) az 195 [.dat I i,.ip N (cs,ns,os,fs,ls,ks)] [] ⟨idx i (Df ls),.dat S (gb (aD ls) i),[]⟩:=oE hvc
theorem Z6(cs:LC)(ns os:LB)(fs:Lo)(ls:Ll)(ks:Lk)(e1:ByteArray)(e2 e3 e4 e5 e6:Int)(hvc:
 let c1:=dc (cs,ns,os,fs,ls,ks) (e1,e2,e3,e4,e5,e6);true/\(True->True/\c1=c1/\True)):
  evF (mkc K4) az 197 [.agg [.dat .str e1,.dat (.int .i64) e2,.dat (.int .i64) e3,.dat (.int .i64) e4,.dat (.int .i64) e5,.dat (.int .i64) e6],.ip N (cs,ns,os,fs,ls,ks)] [] ⟨True,.dat .bool (dc (cs,ns,os,fs,ls,ks) (e1,e2,e3,e4,e5,e6)),[]⟩:=oE hvc
theorem ZR(i:Int)(cs:LC)(ns os:LB)(fs:Lo)(ls:Ll)(ks:Lk)(hvc:
 let c1:=Df ks;true/\(idx i c1->0<=i/\i<c1/\(Du ks (Dc i) (ByteArray.mk #[],(0:Int),(0:Int))).1=gb (aE ks) i/\True)):
  evF (mkc K4) az 199 [.dat I i,.ip N (cs,ns,os,fs,ls,ks)] [] ⟨idx i (Df ks),.dat S (gb (aE ks) i),[]⟩:=oE hvc
theorem Z5(e1:ByteArray)(e2 e3:Int)(hvc:
 let c1:=dQ e2 0 1439;true/\(True->True/\(c1->c1->c1)/\(c1->c1->c1)/\(c1->True)/\(Dh true c1->c1)/\Ea c1 (dQ e3 0 1439) false=iy (e1,e2,e3)/\True)):
  evF (mkc K4) az 201 [.agg [.dat .str e1,.dat (.int .i64) e2,.dat (.int .i64) e3]] [] ⟨True,.dat .bool (iy (e1,e2,e3)),[]⟩:=oE hvc
def K5: Kt:=kOr 186 (ax [.val I,.ptr N] (λ(i,(cs,ns,os,fs,ls,ks),_)=>idx i (Df cs)) λ(i,(cs,ns,os,fs,ls,ks),_)=>.dat S (gb (aA cs ns) i))
 (kOr 188 (ax [.val I,.ptr N] (λ(i,(cs,ns,os,fs,ls,ks),_)=>idx i (Df os)) λ(i,(cs,ns,os,fs,ls,ks),_)=>.dat S (gb (os) i))
 (kOr 190 (ax [.row S] (λ_=>True) λ_=>.dat .bool true)
 (kOr 191 (ax [.val I,.ptr N] (λ(i,(cs,ns,os,fs,ls,ks),_)=>idx i (Df fs)) λ(i,(cs,ns,os,fs,ls,ks),_)=>.dat S (gb (aC fs) i))
 (kOr 193 (ax [.row Of,.ptr N] (λ_=>True) λ(o,n,_)=>.dat .bool (db n o))
 (kOr 195 (ax [.val I,.ptr N] (λ(i,(cs,ns,os,fs,ls,ks),_)=>idx i (Df ls)) λ(i,(cs,ns,os,fs,ls,ks),_)=>.dat S (gb (aD ls) i))
 (kOr 197 (ax [.row Ln,.ptr N] (λ_=>True) λ(l,n,_)=>.dat .bool (dc n l))
 (kOr 199 (ax [.val I,.ptr N] (λ(i,(cs,ns,os,fs,ls,ks),_)=>idx i (Df ks)) λ(i,(cs,ns,os,fs,ls,ks),_)=>.dat S (gb (aE ks) i))
 (kOr 201 (ax [.row Kl] (λ_=>True) λ(k,_)=>.dat .bool (iy k)) K4))))))))
def twA(l:List ByteArray)(i:Int): Ann:=⟨λid st=>match id with
 | 2=>some {α:=Int,inv:=λk=>uv l i k,st:=λk=>put st [(6,.dat I k)],μ:=λk=>Dc (Dj i k)}
 | _=>none,λ_ _=>none,λ_ _=>none⟩
theorem ZO(i:Int)(cs:LC)(ns os:LB)(fs:Lo)(ls:Ll)(ks:Lk)(hvc:
 let c1:=Di (cm (gb (aA cs ns) i));let c2:=bF (aA cs ns) i;true/\(idx i (Df cs)->idx i (Df cs)/\True/\(c1->1=c2/\True)/\(c1=false->0=c2/\True))):
  evF (mkc K5) az 235 [.dat I i,.ipv (.fn 186 [.ip N (cs,ns,os,fs,ls,ks)])] [] ⟨idx i (Df cs),.dat I (bF (aA cs ns) i),[]⟩:=oE hvc
theorem ZJ(i:Int)(cs:LC)(ns os:LB)(fs:Lo)(ls:Ll)(ks:Lk)(hvc:
 let c6:=aA cs ns;let c1:=Df cs;let c2:=(cs,ns,os,fs,ls,ks);let c3:=rule2 c6 i;true/\(qf i c1->(∃x,uv c6 i x/\i=i/\c2=c2/\i=i/\0=x/\True)/\∀(x:Int),let c4:=Fv (gb c6 x) (gb c6 i);let c5:=x+1;uv c6 i x->(Dp x i->idx x c1/\idx i c1/\(c4->4=c3/\True)/\(c4=false->inR IntKind.i64 c5/\∃y,uv c6 i y/\(i=i/\c2=c2/\i=i/\c5=y/\True)/\Dc (i-y)<Dc (i-x)))/\(Dp x i=false->0=c3/\True))):
  evF (mkc K5) (lvA [(2,[0,1,3,4,5,6])] (twA (aA cs ns) i)) 237 [.dat I i,.ipv (.fn 186 [.ip N (cs,ns,os,fs,ls,ks)])] [] ⟨qf i (Df cs),.dat I (rule2 (aA cs ns) i),[]⟩:=oE hvc
theorem ZE(i:Int)(cs:LC)(ns os:LB)(fs:Lo)(ls:Ll)(ks:Lk)(hvc:
 let c1:=Df cs;let c2:=Du cs (Dc i) ((0:Int),Dt Bool,Dt Int);let c4:=Di (aw c2.1 c2.2.1 c2.2.2);true/\(idx i c1->0<=i/\i<c1/\True/\(c4->1=bO (bn cs) i/\True)/\(c4=false->0=bO (bn cs) i/\True))):
  evF (mkc K5) az 238 [.dat I i,.ipv (.fn 161 []),.ip (.sl C) cs] [] ⟨idx i (Df cs),.dat I (bO (bn cs) i),[]⟩:=oE hvc
theorem ZN(i:Int)(cs:LC)(ns os:LB)(fs:Lo)(ls:Ll)(ks:Lk)(hvc:
 let c1:=Di (cm (gb os i));true/\(idx i (Df os)->idx i (Df os)/\True/\(c1->1=bF os i/\True)/\(c1=false->0=bF os i/\True))):
  evF (mkc K5) az 239 [.dat I i,.ipv (.fn 188 [.ip N (cs,ns,os,fs,ls,ks)])] [] ⟨idx i (Df os),.dat I (bF (os) i),[]⟩:=oE hvc
theorem ZI(i:Int)(cs:LC)(ns os:LB)(fs:Lo)(ls:Ll)(ks:Lk)(hvc:
 let c4:=Df os;let c1:=(cs,ns,os,fs,ls,ks);true/\(qf i c4->(∃x,uv os i x/\i=i/\c1=c1/\i=i/\0=x/\True)/\∀(x:Int),let c2:=Fv (gb os x) (gb os i);let c3:=x+1;uv os i x->(Dp x i->idx x c4/\idx i c4/\(c2->4=rule2 os i/\True)/\(c2=false->inR .i64 c3/\∃y,uv os i y/\(i=i/\c1=c1/\i=i/\c3=y/\True)/\Dc (i-y)<Dc (i-x)))/\(Dp x i=false->0=rule2 os i/\True))):
  evF (mkc K5) (lvA [(2,[0,1,3,4,5,6])] (twA (os) i)) 240 [.dat I i,.ipv (.fn 188 [.ip N (cs,ns,os,fs,ls,ks)])] [] ⟨qf i (Df os),.dat I (rule2 (os) i),[]⟩:=oE hvc
theorem ZD(i:Int)(cs:LC)(ns os:LB)(fs:Lo)(ls:Ll)(ks:Lk)(hvc:
 true/\(idx i (Df os)->0<=i/\i<Df os/\True/\(Di true->1=bO (bU os) i/\True)/\(Di true=false->0=bO (bU os) i/\True))):
  evF (mkc K5) az 241 [.dat I i,.ipv (.fn 190 []),.ip (.sl S) os] [] ⟨idx i (Df os),.dat I (bO (bU os) i),[]⟩:=oE hvc
theorem ZM(i:Int)(cs:LC)(ns os:LB)(fs:Lo)(ls:Ll)(ks:Lk)(hvc:
 let c1:=Di (cm (gb (aC fs) i));true/\(idx i (Df fs)->idx i (Df fs)/\True/\(c1->1=bF (aC fs) i/\True)/\(c1=false->0=bF (aC fs) i/\True))):
  evF (mkc K5) az 242 [.dat I i,.ipv (.fn 191 [.ip N (cs,ns,os,fs,ls,ks)])] [] ⟨idx i (Df fs),.dat I (bF (aC fs) i),[]⟩:=oE hvc
theorem ZH(i:Int)(cs:LC)(ns os:LB)(fs:Lo)(ls:Ll)(ks:Lk)(hvc:
 let c1:=Df fs;let c2:=(cs,ns,os,fs,ls,ks);true/\(qf i c1->(∃x,uv (aC fs) i x/\i=i/\c2=c2/\i=i/\0=x/\True)/\∀(x:Int),let c3:=Fv (gb (aC fs) x) (gb (aC fs) i);let c4:=x+1;uv (aC fs) i x->(Dp x i->idx x c1/\idx i c1/\(c3->4=rule2 (aC fs) i/\True)/\(c3=false->inR .i64 c4/\∃y,uv (aC fs) i y/\(i=i/\c2=c2/\i=i/\c4=y/\True)/\Dc (i-y)<Dc (i-x)))/\(Dp x i=false->0=rule2 (aC fs) i/\True))):
  evF (mkc K5) (lvA [(2,[0,1,3,4,5,6])] (twA (aC fs) i)) 243 [.dat I i,.ipv (.fn 191 [.ip N (cs,ns,os,fs,ls,ks)])] [] ⟨qf i (Df fs),.dat I (rule2 (aC fs) i),[]⟩:=oE hvc
theorem ZC(i:Int)(cs:LC)(ns os:LB)(fs:Lo)(ls:Ll)(ks:Lk)(hvc:
 let c1:=Df fs;let c2:=(cs,ns,os,fs,ls,ks);let c9:=Di (db c2 (Du fs (Dc i) (ByteArray.mk #[],(0:Int),(0:Int),(0:Int),(0:Int),(0:Int),Dt ByteArray)));let c10:=bO (cP c2) i;true/\(idx i c1->0<=i/\i<c1/\True/\(c9->1=c10/\True)/\(c9=false->0=c10/\True))):
  evF (mkc K5) az 244 [.dat I i,.ipv (.fn 193 [.ip N (cs,ns,os,fs,ls,ks)]),.ip (.sl Of) fs] [] ⟨idx i (Df fs),.dat I (bO (cP (cs,ns,os,fs,ls,ks)) i),[]⟩:=oE hvc
theorem ZL(i:Int)(cs:LC)(ns os:LB)(fs:Lo)(ls:Ll)(ks:Lk)(hvc:
 let c1:=Di (cm (gb (aD ls) i));true/\(idx i (Df ls)->idx i (Df ls)/\True/\(c1->1=bF (aD ls) i/\True)/\(c1=false->0=bF (aD ls) i/\True))):
  evF (mkc K5) az 249 [.dat I i,.ipv (.fn 195 [.ip N (cs,ns,os,fs,ls,ks)])] [] ⟨idx i (Df ls),.dat I (bF (aD ls) i),[]⟩:=oE hvc
theorem ZG(i:Int)(cs:LC)(ns os:LB)(fs:Lo)(ls:Ll)(ks:Lk)(hvc:
 let c1:=Df ls;let c2:=(cs,ns,os,fs,ls,ks);true/\(qf i c1->(∃x,uv (aD ls) i x/\i=i/\c2=c2/\i=i/\0=x/\True)/\∀(x:Int),let c3:=Fv (gb (aD ls) x) (gb (aD ls) i);let c4:=x+1;uv (aD ls) i x->(Dp x i->idx x c1/\idx i c1/\(c3->4=rule2 (aD ls) i/\True)/\(c3=false->inR .i64 c4/\∃y,uv (aD ls) i y/\(i=i/\c2=c2/\i=i/\c4=y/\True)/\Dc (i-y)<Dc (i-x)))/\(Dp x i=false->0=rule2 (aD ls) i/\True))):
  evF (mkc K5) (lvA [(2,[0,1,3,4,5,6])] (twA (aD ls) i)) 250 [.dat I i,.ipv (.fn 195 [.ip N (cs,ns,os,fs,ls,ks)])] [] ⟨qf i (Df ls),.dat I (rule2 (aD ls) i),[]⟩:=oE hvc
theorem ZB(i:Int)(cs:LC)(ns os:LB)(fs:Lo)(ls:Ll)(ks:Lk)(hvc:
 let c1:=Df ls;let c2:=(cs,ns,os,fs,ls,ks);let c8:=Di (dc c2 (Du ls (Dc i) (ByteArray.mk #[],(0:Int),(0:Int),(0:Int),(0:Int),(0:Int))));let c9:=bO (cD c2) i;true/\(idx i c1->0<=i/\i<c1/\True/\(c8->1=c9/\True)/\(c8=false->0=c9/\True))):
  evF (mkc K5) az 251 [.dat I i,.ipv (.fn 197 [.ip N (cs,ns,os,fs,ls,ks)]),.ip (.sl Ln) ls] [] ⟨idx i (Df ls),.dat I (bO (cD (cs,ns,os,fs,ls,ks)) i),[]⟩:=oE hvc
theorem ZK(i:Int)(cs:LC)(ns os:LB)(fs:Lo)(ls:Ll)(ks:Lk)(hvc:
 let c1:=Di (cm (gb (aE ks) i));true/\(idx i (Df ks)->idx i (Df ks)/\True/\(c1->1=bF (aE ks) i/\True)/\(c1=false->0=bF (aE ks) i/\True))):
  evF (mkc K5) az 253 [.dat I i,.ipv (.fn 199 [.ip N (cs,ns,os,fs,ls,ks)])] [] ⟨idx i (Df ks),.dat I (bF (aE ks) i),[]⟩:=oE hvc
theorem ZF(i:Int)(cs:LC)(ns os:LB)(fs:Lo)(ls:Ll)(ks:Lk)(hvc:
 let c1:=Df ks;let c2:=(cs,ns,os,fs,ls,ks);true/\(qf i c1->(∃x,uv (aE ks) i x/\i=i/\c2=c2/\i=i/\0=x/\True)/\∀(x:Int),let c3:=Fv (gb (aE ks) x) (gb (aE ks) i);let c4:=x+1;uv (aE ks) i x->(Dp x i->idx x c1/\idx i c1/\(c3->4=rule2 (aE ks) i/\True)/\(c3=false->inR .i64 c4/\∃y,uv (aE ks) i y/\(i=i/\c2=c2/\i=i/\c4=y/\True)/\Dc (i-y)<Dc (i-x)))/\(Dp x i=false->0=rule2 (aE ks) i/\True))):
  evF (mkc K5) (lvA [(2,[0,1,3,4,5,6])] (twA (aE ks) i)) 254 [.dat I i,.ipv (.fn 199 [.ip N (cs,ns,os,fs,ls,ks)])] [] ⟨qf i (Df ks),.dat I (rule2 (aE ks) i),[]⟩:=oE hvc
theorem ZA(i:Int)(cs:LC)(ns os:LB)(fs:Lo)(ls:Ll)(ks:Lk)(hvc:
 let c1:=Df ks;let c4:=Di (iy (Du ks (Dc i) (ByteArray.mk #[],(0:Int),(0:Int))));true/\(idx i c1->0<=i/\i<c1/\True/\(c4->1=bO (bv ks) i/\True)/\(c4=false->0=bO (bv ks) i/\True))):
  evF (mkc K5) az 255 [.dat I i,.ipv (.fn 201 []),.ip (.sl Kl) ks] [] ⟨idx i (Df ks),.dat I (bO (bv ks) i),[]⟩:=oE hvc
def K6: Kt:=
 kOr 235 (ax [.val I,.fnp 186 N] (λ(i,(cs,ns,os,fs,ls,ks),_)=>idx i (Df cs)) λ(i,(cs,ns,os,fs,ls,ks),_)=>.dat I (bF (aA cs ns) i)) <|
 kOr 237 (ax [.val I,.fnp 186 N] (λ(i,(cs,ns,os,fs,ls,ks),_)=>qf i (Df cs)) λ(i,(cs,ns,os,fs,ls,ks),_)=>.dat I (rule2 (aA cs ns) i)) <|
 kOr 238 (ax [.val I,.fnp0 161,.ptr (.sl C)] (λ(i,_,cs,_)=>idx i (Df cs)) λ(i,_,cs,_)=>.dat I (bO (bn cs) i)) <|
 kOr 239 (ax [.val I,.fnp 188 N] (λ(i,(cs,ns,os,fs,ls,ks),_)=>idx i (Df os)) λ(i,(cs,ns,os,fs,ls,ks),_)=>.dat I (bF (os) i)) <|
 kOr 240 (ax [.val I,.fnp 188 N] (λ(i,(cs,ns,os,fs,ls,ks),_)=>qf i (Df os)) λ(i,(cs,ns,os,fs,ls,ks),_)=>.dat I (rule2 (os) i)) <|
 kOr 241 (ax [.val I,.fnp0 190,.ptr (.sl S)] (λ(i,_,os,_)=>idx i (Df os)) λ(i,_,os,_)=>.dat I (bO (bU os) i)) <|
 kOr 242 (ax [.val I,.fnp 191 N] (λ(i,(cs,ns,os,fs,ls,ks),_)=>idx i (Df fs)) λ(i,(cs,ns,os,fs,ls,ks),_)=>.dat I (bF (aC fs) i)) <|
 kOr 243 (ax [.val I,.fnp 191 N] (λ(i,(cs,ns,os,fs,ls,ks),_)=>qf i (Df fs)) λ(i,(cs,ns,os,fs,ls,ks),_)=>.dat I (rule2 (aC fs) i)) <|
 kOr 244 (ax [.val I,.fnp 193 N,.ptr (.sl Of)] (λ(i,(cs,ns,os,fs,ls,ks),xs,_)=>idx i (Df fs)/\xs=fs) λ(i,(cs,ns,os,fs,ls,ks),_,_)=>.dat I (bO (cP (cs,ns,os,fs,ls,ks)) i)) <|
 kOr 249 (ax [.val I,.fnp 195 N] (λ(i,(cs,ns,os,fs,ls,ks),_)=>idx i (Df ls)) λ(i,(cs,ns,os,fs,ls,ks),_)=>.dat I (bF (aD ls) i)) <|
 kOr 250 (ax [.val I,.fnp 195 N] (λ(i,(cs,ns,os,fs,ls,ks),_)=>qf i (Df ls)) λ(i,(cs,ns,os,fs,ls,ks),_)=>.dat I (rule2 (aD ls) i)) <|
 kOr 251 (ax [.val I,.fnp 197 N,.ptr (.sl Ln)] (λ(i,(cs,ns,os,fs,ls,ks),xs,_)=>idx i (Df ls)/\xs=ls) λ(i,(cs,ns,os,fs,ls,ks),_,_)=>.dat I (bO (cD (cs,ns,os,fs,ls,ks)) i)) <|
 kOr 253 (ax [.val I,.fnp 199 N] (λ(i,(cs,ns,os,fs,ls,ks),_)=>idx i (Df ks)) λ(i,(cs,ns,os,fs,ls,ks),_)=>.dat I (bF (aE ks) i)) <|
 kOr 254 (ax [.val I,.fnp 199 N] (λ(i,(cs,ns,os,fs,ls,ks),_)=>qf i (Df ks)) λ(i,(cs,ns,os,fs,ls,ks),_)=>.dat I (rule2 (aE ks) i)) <|
 kOr 255 (ax [.val I,.fnp0 201,.ptr (.sl Kl)] (λ(i,_,ks,_)=>idx i (Df ks)) λ(i,_,ks,_)=>.dat I (bO (bv ks) i)) <|
 K5
def B7(kind lim:Int)(l:List ByteArray)(g:List Bool): Ann:=⟨λid st=>match id with
 | 4=>some {α:=Int,inv:=λk=>cQ k (Df l) lim,st:=λk=>ie (put st [(25,.dat I k),(12,.buf 100 (Dk (aR kind l g k)))]) 100 (.buf 177 Fa (aR kind l g k) []),μ:=λk=>Dc (Dj lim k)}
 | 7=>match st.sig.T 13 with
  | .dat (.int .i64) i=>some {α:=Int,inv:=λk=>bZ l g i k,st:=λk=>put st [(29,.dat I k),(12,.buf 100 (Dk (aR kind l g i)))],μ:=λk=>Dc (Dj 3 k)}
  | _=>none
 | _=>none,λ_ _=>none,λ_ _=>none⟩
theorem gF(cs:LC)(ns os:LB)(fs:Lo)(ls:Ll)(ks:Lk)(hvc:
 let c11:=aA cs ns;let c1:=Df cs;let c2:=Eu c1 6;let c3:=(cs,ns,os,fs,ls,ks);let c4:=Ei c1 6;let c5:=[((1:Int),(6:Int),(2:Int))];let c6:=bD 1 6 c11 (bn cs);true/\(True->1=1/\0=0/\(∃x,let c7:=aR 1 c11 (bn cs) x;cQ x (Df c11) 6/\(1:Int)=(1:Int)/\(6:Int)=(6:Int)/\cs=cs/\Value.slice none (0) (0)=Value.slice none (0) (0)/\1=1/\0=0/\0=0/\Dk c7=0/\c7=Dt (Int×Int×Int)/\c2=c2/\0=x/\c3=c3/\c3=c3/\cs=cs/\c7=Dt (Int×Int×Int)/\True)/\∀(x:Int),let c8:=Df c11;let c9:=aR 1 c11 (bn cs) x;let c10:=Dk c9;let c12:=x+1;let c13:=c10+Dk c5;let c14:=Ef c9 c5;cQ x c8 6->(Dp x c2->1=1/\0=0/\(∃x_3,bZ c11 (bn cs) x x_3/\(1:Int)=(1:Int)/\(6:Int)=(6:Int)/\cs=cs/\Value.slice none (0) (0)=Value.slice none (0) (0)/\1=1/\0=0/\0=0/\c10=c10/\x=x/\c2=c2/\x=x/\c3=c3/\c3=c3/\cs=cs/\0=x_3/\c3=c3/\c3=c3/\cs=cs/\c9=c9/\True)/\∀(x_3:Int),let c15:=Dp x_3 3;let c16:=Du [bF c11 x,rule2 c11 x,bO (bn cs) x] (Dc x_3) 0;let c17:=Dy c16 0;let c18:=[((1:Int),x,c16)];let c19:=c10+Dk c18;let c20:=x_3+1;bZ c11 (bn cs) x x_3->(c15->0<=x_3/\x_3<Dx (3)/\(Dc x_3=0->idx x c1)/\(Dc x_3=1->qf x c1)/\(Dc x_3=2->idx x c1)/\(c17->c10=c10/\(c19*(24))<=(140737488355328)/\c19<=(9223372036854775807)/\inR .i64 c12/\∃y,let c21:=aR 1 c11 (bn cs) y;
 cQ y c8 6/\((1:Int)=(1:Int)/\(6:Int)=(6:Int)/\cs=cs/\Value.slice none (0) (0)=Value.slice none (0) (0)/\1=1/\0=0/\0=0/\c19=Dk c21/\c2=c2/\c12=y/\c3=c3/\c3=c3/\cs=cs/\Ef c9 c18=c21/\True)/\Dc (6-y)<Dc (6-x))/\(c17=false->inR .i64 c20/\∃y,bZ c11 (bn cs) x y/\((1:Int)=(1:Int)/\(6:Int)=(6:Int)/\cs=cs/\Value.slice none (0) (0)=Value.slice none (0) (0)/\1=1/\0=0/\0=0/\c10=c10/\x=x/\c2=c2/\x=x/\c3=c3/\c3=c3/\cs=cs/\c20=y/\c3=c3/\c3=c3/\cs=cs/\c9=c9/\True)/\Dc (3-y)<Dc (3-x_3)))/\(c15=false->inR .i64 c12/\∃y,let c22:=aR 1 c11 (bn cs) y;cQ y c8 6/\((1:Int)=(1:Int)/\(6:Int)=(6:Int)/\cs=cs/\Value.slice none (0) (0)=Value.slice none (0) (0)/\1=1/\0=0/\0=0/\c10=Dk c22/\c2=c2/\c12=y/\c3=c3/\c3=c3/\cs=cs/\c9=c22/\True)/\Dc (6-y)<Dc (6-x)))/\(Dp x c2=false->(c4->c10=c10/\(c13*(24))<=(140737488355328)/\c13<=(9223372036854775807)/\Dk c14=c13/\c14=c6/\True)/\(c4=false->c10=c10/\c9=c6/\True)))):
  evF (mkc K6) (lvA [(4,[0,1,7,10,11,12,13,15,16,24,25,28,29]),(7,[0,1,7,10,11,12,13,15,16,24,25,28,29])] (B7 1 6 (aA cs ns) (bn cs))) 187 [.dat I 1,.dat I 6,.dat (.sl C) cs,.fn 186 [.ip N (cs,ns,os,fs,ls,ks)],.fn 161 []] [] ⟨True,.dat (.sl Fa) (bD 1 6 (aA cs ns) (bn cs)),[]⟩:=oE hvc
theorem gE(cs:LC)(ns os:LB)(fs:Lo)(ls:Ll)(ks:Lk)(hvc:
 let c9:=Df os;let c1:=Eu c9 6;let c2:=(cs,ns,os,fs,ls,ks);let c3:=Ei c9 6;let c4:=[((2:Int),(6:Int),(2:Int))];let c5:=bD 2 6 os (bU os);true/\(True->1=1/\0=0/\(∃x,let c6:=aR 2 os (bU os) x;cQ x c9 6/\(2:Int)=(2:Int)/\(6:Int)=(6:Int)/\os=os/\Value.slice none (0) (0)=Value.slice none (0) (0)/\1=1/\0=0/\0=0/\Dk c6=0/\c6=Dt (Int×Int×Int)/\c1=c1/\0=x/\c2=c2/\c2=c2/\os=os/\c6=Dt (Int×Int×Int)/\True)/\∀(x:Int),let c7:=aR 2 os (bU os) x;let c8:=Dk c7;let c10:=x+1;let c11:=c8+Dk c4;let c12:=Ef c7 c4;cQ x c9 6->(Dp x c1->1=1/\0=0/\(∃x_3,bZ os (bU os) x x_3/\(2:Int)=(2:Int)/\(6:Int)=(6:Int)/\os=os/\Value.slice none (0) (0)=Value.slice none (0) (0)/\1=1/\0=0/\0=0/\c8=c8/\x=x/\c1=c1/\x=x/\c2=c2/\c2=c2/\os=os/\0=x_3/\c2=c2/\c2=c2/\os=os/\c7=c7/\True)/\∀(x_3:Int),let c13:=Dp x_3 3;let c14:=Du [bF os x,rule2 os x,bO (bU os) x] (Dc x_3) 0;let c15:=Dy c14 0;let c16:=[((2:Int),x,c14)];let c17:=c8+Dk c16;let c18:=x_3+1;bZ os (bU os) x x_3->(c13->0<=x_3/\x_3<Dx (3)/\(Dc x_3=0->idx x c9)/\(Dc x_3=1->qf x c9)/\(Dc x_3=2->idx x c9)/\(c15->c8=c8/\(c17*(24))<=(140737488355328)/\c17<=(9223372036854775807)/\inR .i64 c10/\∃y,let c19:=aR 2 os (bU os) y;
 cQ y c9 6/\((2:Int)=(2:Int)/\(6:Int)=(6:Int)/\os=os/\Value.slice none (0) (0)=Value.slice none (0) (0)/\1=1/\0=0/\0=0/\c17=Dk c19/\c1=c1/\c10=y/\c2=c2/\c2=c2/\os=os/\Ef c7 c16=c19/\True)/\Dc (6-y)<Dc (6-x))/\(c15=false->inR .i64 c18/\∃y,bZ os (bU os) x y/\((2:Int)=(2:Int)/\(6:Int)=(6:Int)/\os=os/\Value.slice none (0) (0)=Value.slice none (0) (0)/\1=1/\0=0/\0=0/\c8=c8/\x=x/\c1=c1/\x=x/\c2=c2/\c2=c2/\os=os/\c18=y/\c2=c2/\c2=c2/\os=os/\c7=c7/\True)/\Dc (3-y)<Dc (3-x_3)))/\(c13=false->inR IntKind.i64 c10/\∃y,let c20:=aR 2 os (bU os) y;cQ y c9 6/\((2:Int)=(2:Int)/\(6:Int)=(6:Int)/\os=os/\Value.slice none (0) (0)=Value.slice none (0) (0)/\1=1/\0=0/\0=0/\c8=Dk c20/\c1=c1/\c10=y/\c2=c2/\c2=c2/\os=os/\c7=c20/\True)/\Dc (6-y)<Dc (6-x)))/\(Dp x c1=false->(c3->c8=c8/\(c11*(24))<=(140737488355328)/\c11<=(9223372036854775807)/\Dk c12=c11/\c12=c5/\True)/\(c3=false->c8=c8/\c7=c5/\True)))):
  evF (mkc K6) (lvA [(4,[0,1,7,10,11,12,13,15,16,24,25,28,29]),(7,[0,1,7,10,11,12,13,15,16,24,25,28,29])] (B7 2 6 (os) (bU os))) 189 [.dat I 2,.dat I 6,.dat (.sl S) os,.fn 188 [.ip N (cs,ns,os,fs,ls,ks)],.fn 190 []] [] ⟨True,.dat (.sl Fa) (bD 2 6 (os) (bU os)),[]⟩:=oE hvc
theorem gD(cs:LC)(ns os:LB)(fs:Lo)(ls:Ll)(ks:Lk)(hvc:
 let c11:=Df (aC fs);let c1:=(cs,ns,os,fs,ls,ks);let c2:=cP c1;let c3:=Df fs;let c4:=Eu c3 12;let c5:=Ei c3 12;let c6:=[((3:Int),(12:Int),(2:Int))];let c7:=bD 3 12 (aC fs) c2;true/\(True->1=1/\0=0/\(∃x,let c8:=aR 3 (aC fs) c2 x;cQ x c11 12/\(3:Int)=(3:Int)/\(12:Int)=(12:Int)/\fs=fs/\Value.slice none (0) (0)=Value.slice none (0) (0)/\1=1/\0=0/\0=0/\Dk c8=0/\c8=Dt (Int×Int×Int)/\c4=c4/\0=x/\c1=c1/\c1=c1/\c1=c1/\fs=fs/\c8=Dt (Int×Int×Int)/\True)/\∀(x:Int),let c9:=aR 3 (aC fs) c2 x;let c10:=Dk c9;let c12:=x+1;let c13:=c10+Dk c6;let c14:=Ef c9 c6;cQ x c11 12->(Dp x c4->1=1/\0=0/\(∃x_3,bZ (aC fs) c2 x x_3/\(3:Int)=(3:Int)/\(12:Int)=(12:Int)/\fs=fs/\Value.slice none (0) (0)=Value.slice none (0) (0)/\1=1/\0=0/\0=0/\c10=c10/\x=x/\c4=c4/\x=x/\c1=c1/\c1=c1/\c1=c1/\fs=fs/\0=x_3/\c1=c1/\c1=c1/\c1=c1/\fs=fs/\c9=c9/\True)/\∀(x_3:Int),let c15:=Dp x_3 3;let c16:=Du [bF (aC fs) x,rule2 (aC fs) x,bO c2 x] (Dc x_3) 0;let c17:=Dy c16 0;let c18:=[((3:Int),x,c16)];let c19:=c10+Dk c18;let c20:=x_3+1;bZ (aC fs) c2 x x_3->(c15->0<=x_3/\x_3<Dx (3)/\(Dc x_3=0->idx x c3)/\(Dc x_3=1->qf x c3)/\(Dc x_3=2->idx x c3/\fs=fs)/\(c17->c10=c10/\(c19*(24))<=(140737488355328)/\c19<=(9223372036854775807)/\inR .i64 c12/\∃y,let c21:=aR 3 (aC fs) c2 y;
 cQ y c11 12/\((3:Int)=(3:Int)/\(12:Int)=(12:Int)/\fs=fs/\Value.slice none (0) (0)=Value.slice none (0) (0)/\1=1/\0=0/\0=0/\c19=Dk c21/\c4=c4/\c12=y/\c1=c1/\c1=c1/\c1=c1/\fs=fs/\Ef c9 c18=c21/\True)/\Dc (12-y)<Dc (12-x))/\(c17=false->inR .i64 c20/\∃y,bZ (aC fs) c2 x y/\((3:Int)=(3:Int)/\(12:Int)=(12:Int)/\fs=fs/\Value.slice none (0) (0)=Value.slice none (0) (0)/\1=1/\0=0/\0=0/\c10=c10/\x=x/\c4=c4/\x=x/\c1=c1/\c1=c1/\c1=c1/\fs=fs/\c20=y/\c1=c1/\c1=c1/\c1=c1/\fs=fs/\c9=c9/\True)/\Dc (3-y)<Dc (3-x_3)))/\(c15=false->inR .i64 c12/\∃y,let c22:=aR 3 (aC fs) c2 y;cQ y c11 12/\((3:Int)=(3:Int)/\(12:Int)=(12:Int)/\fs=fs/\Value.slice none (0) (0)=Value.slice none (0) (0)/\1=1/\0=0/\0=0/\c10=Dk c22/\c4=c4/\c12=y/\c1=c1/\c1=c1/\c1=c1/\fs=fs/\c9=c22/\True)/\Dc (12-y)<Dc (12-x)))/\(Dp x c4=false->(c5->c10=c10/\(c13*(24))<=(140737488355328)/\c13<=(9223372036854775807)/\Dk c14=c13/\c14=c7/\True)/\(c5=false->c10=c10/\c9=c7/\True)))):
  evF (mkc K6) (lvA [(4,[0,1,7,10,11,12,13,15,16,24,25,28,29]),(7,[0,1,7,10,11,12,13,15,16,24,25,28,29])] (B7 3 12 (aC fs) (cP (cs,ns,os,fs,ls,ks)))) 192 [.dat I 3,.dat I 12,.dat (.sl Of) fs,.fn 191 [.ip N (cs,ns,os,fs,ls,ks)],.fn 193 [.ip N (cs,ns,os,fs,ls,ks)]] [] ⟨True,.dat (.sl Fa) (bD 3 12 (aC fs) (cP (cs,ns,os,fs,ls,ks))),[]⟩:=oE hvc
theorem fT(cs:LC)(ns os:LB)(fs:Lo)(ls:Ll)(ks:Lk)(hvc:
 let c11:=Df (aD ls);let c1:=(cs,ns,os,fs,ls,ks);let c2:=cD c1;let c3:=Df ls;let c4:=Eu c3 40;let c5:=Ei c3 40;let c6:=[((4:Int),(40:Int),(2:Int))];let c7:=bD 4 40 (aD ls) c2;true/\(True->1=1/\0=0/\(∃x,let c8:=aR 4 (aD ls) c2 x;cQ x c11 40/\(4:Int)=(4:Int)/\(40:Int)=(40:Int)/\ls=ls/\Value.slice none (0) (0)=Value.slice none (0) (0)/\1=1/\0=0/\0=0/\Dk c8=0/\c8=Dt (Int×Int×Int)/\c4=c4/\0=x/\c1=c1/\c1=c1/\c1=c1/\ls=ls/\c8=Dt (Int×Int×Int)/\True)/\∀(x:Int),let c9:=aR 4 (aD ls) c2 x;let c10:=Dk c9;let c12:=x+1;let c13:=c10+Dk c6;let c14:=Ef c9 c6;cQ x c11 40->(Dp x c4->1=1/\0=0/\(∃x_3,bZ (aD ls) c2 x x_3/\(4:Int)=(4:Int)/\(40:Int)=(40:Int)/\ls=ls/\Value.slice none (0) (0)=Value.slice none (0) (0)/\1=1/\0=0/\0=0/\c10=c10/\x=x/\c4=c4/\x=x/\c1=c1/\c1=c1/\c1=c1/\ls=ls/\0=x_3/\c1=c1/\c1=c1/\c1=c1/\ls=ls/\c9=c9/\True)/\∀(x_3:Int),let c15:=Dp x_3 3;let c16:=Du [bF (aD ls) x,rule2 (aD ls) x,bO c2 x] (Dc x_3) 0;let c17:=Dy c16 0;let c18:=[((4:Int),x,c16)];let c19:=c10+Dk c18;let c20:=x_3+1;bZ (aD ls) c2 x x_3->(c15->0<=x_3/\x_3<Dx (3)/\(Dc x_3=0->idx x c3)/\(Dc x_3=1->qf x c3)/\(Dc x_3=2->idx x c3/\ls=ls)/\(c17->c10=c10/\(c19*(24))<=(140737488355328)/\c19<=(9223372036854775807)/\inR .i64 c12/\∃y,let c21:=aR 4 (aD ls) c2 y;
 cQ y c11 40/\((4:Int)=(4:Int)/\(40:Int)=(40:Int)/\ls=ls/\Value.slice none (0) (0)=Value.slice none (0) (0)/\1=1/\0=0/\0=0/\c19=Dk c21/\c4=c4/\c12=y/\c1=c1/\c1=c1/\c1=c1/\ls=ls/\Ef c9 c18=c21/\True)/\Dc (40-y)<Dc (40-x))/\(c17=false->inR .i64 c20/\∃y,bZ (aD ls) c2 x y/\((4:Int)=(4:Int)/\(40:Int)=(40:Int)/\ls=ls/\Value.slice none (0) (0)=Value.slice none (0) (0)/\1=1/\0=0/\0=0/\c10=c10/\x=x/\c4=c4/\x=x/\c1=c1/\c1=c1/\c1=c1/\ls=ls/\c20=y/\c1=c1/\c1=c1/\c1=c1/\ls=ls/\c9=c9/\True)/\Dc (3-y)<Dc (3-x_3)))/\(c15=false->inR .i64 c12/\∃y,let c22:=aR 4 (aD ls) c2 y;cQ y c11 40/\((4:Int)=(4:Int)/\(40:Int)=(40:Int)/\ls=ls/\Value.slice none (0) (0)=Value.slice none (0) (0)/\1=1/\0=0/\0=0/\c10=Dk c22/\c4=c4/\c12=y/\c1=c1/\c1=c1/\c1=c1/\ls=ls/\c9=c22/\True)/\Dc (40-y)<Dc (40-x)))/\(Dp x c4=false->(c5->c10=c10/\(c13*(24))<=(140737488355328)/\c13<=(9223372036854775807)/\Dk c14=c13/\c14=c7/\True)/\(c5=false->c10=c10/\c9=c7/\True)))):
  evF (mkc K6) (lvA [(4,[0,1,7,10,11,12,13,15,16,24,25,28,29]),(7,[0,1,7,10,11,12,13,15,16,24,25,28,29])] (B7 4 40 (aD ls) (cD (cs,ns,os,fs,ls,ks)))) 196 [.dat I 4,.dat I 40,.dat (.sl Ln) ls,.fn 195 [.ip N (cs,ns,os,fs,ls,ks)],.fn 197 [.ip N (cs,ns,os,fs,ls,ks)]] [] ⟨True,.dat (.sl Fa) (bD 4 40 (aD ls) (cD (cs,ns,os,fs,ls,ks))),[]⟩:=oE hvc
theorem fI(cs:LC)(ns os:LB)(fs:Lo)(ls:Ll)(ks:Lk)(hvc:
 let c10:=Df (aE ks);let c1:=Df ks;let c2:=Eu c1 4;let c3:=(cs,ns,os,fs,ls,ks);let c4:=Ei c1 4;let c5:=[((5:Int),(4:Int),(2:Int))];let c6:=bD 5 4 (aE ks) (bv ks);true/\(True->1=1/\0=0/\(∃x,let c7:=aR 5 (aE ks) (bv ks) x;cQ x c10 4/\(5:Int)=(5:Int)/\(4:Int)=(4:Int)/\ks=ks/\Value.slice none (0) (0)=Value.slice none (0) (0)/\1=1/\0=0/\0=0/\Dk c7=0/\c7=Dt (Int×Int×Int)/\c2=c2/\0=x/\c3=c3/\c3=c3/\ks=ks/\c7=Dt (Int×Int×Int)/\True)/\∀(x:Int),let c8:=aR 5 (aE ks) (bv ks) x;let c9:=Dk c8;let c11:=x+1;let c12:=c9+Dk c5;let c13:=Ef c8 c5;cQ x c10 4->(Dp x c2->1=1/\0=0/\(∃x_3,bZ (aE ks) (bv ks) x x_3/\(5:Int)=(5:Int)/\(4:Int)=(4:Int)/\ks=ks/\Value.slice none (0) (0)=Value.slice none (0) (0)/\1=1/\0=0/\0=0/\c9=c9/\x=x/\c2=c2/\x=x/\c3=c3/\c3=c3/\ks=ks/\0=x_3/\c3=c3/\c3=c3/\ks=ks/\c8=c8/\True)/\∀(x_3:Int),let c14:=Dp x_3 3;let c15:=Du [bF (aE ks) x,rule2 (aE ks) x,bO (bv ks) x] (Dc x_3) 0;let c16:=Dy c15 0;let c17:=[((5:Int),x,c15)];let c18:=c9+Dk c17;let c19:=x_3+1;bZ (aE ks) (bv ks) x x_3->(c14->0<=x_3/\x_3<Dx (3)/\(Dc x_3=0->idx x c1)/\(Dc x_3=1->qf x c1)/\(Dc x_3=2->idx x c1)/\(c16->c9=c9/\(c18*(24))<=(140737488355328)/\c18<=(9223372036854775807)/\inR .i64 c11/\∃y,let c20:=aR 5 (aE ks) (bv ks) y;
 cQ y c10 4/\((5:Int)=(5:Int)/\(4:Int)=(4:Int)/\ks=ks/\Value.slice none (0) (0)=Value.slice none (0) (0)/\1=1/\0=0/\0=0/\c18=Dk c20/\c2=c2/\c11=y/\c3=c3/\c3=c3/\ks=ks/\Ef c8 c17=c20/\True)/\Dc (4-y)<Dc (4-x))/\(c16=false->inR .i64 c19/\∃y,bZ (aE ks) (bv ks) x y/\((5:Int)=(5:Int)/\(4:Int)=(4:Int)/\ks=ks/\Value.slice none (0) (0)=Value.slice none (0) (0)/\1=1/\0=0/\0=0/\c9=c9/\x=x/\c2=c2/\x=x/\c3=c3/\c3=c3/\ks=ks/\c19=y/\c3=c3/\c3=c3/\ks=ks/\c8=c8/\True)/\Dc (3-y)<Dc (3-x_3)))/\(c14=false->inR .i64 c11/\∃y,let c21:=aR 5 (aE ks) (bv ks) y;cQ y c10 4/\((5:Int)=(5:Int)/\(4:Int)=(4:Int)/\ks=ks/\Value.slice none (0) (0)=Value.slice none (0) (0)/\1=1/\0=0/\0=0/\c9=Dk c21/\c2=c2/\c11=y/\c3=c3/\c3=c3/\ks=ks/\c8=c21/\True)/\Dc (4-y)<Dc (4-x)))/\(Dp x c2=false->(c4->c9=c9/\(c12*(24))<=(140737488355328)/\c12<=(9223372036854775807)/\Dk c13=c12/\c13=c6/\True)/\(c4=false->c9=c9/\c8=c6/\True)))):
  evF (mkc K6) (lvA [(4,[0,1,7,10,11,12,13,15,16,24,25,28,29]),(7,[0,1,7,10,11,12,13,15,16,24,25,28,29])] (B7 5 4 (aE ks) (bv ks))) 200 [.dat I 5,.dat I 4,.dat (.sl Kl) ks,.fn 199 [.ip N (cs,ns,os,fs,ls,ks)],.fn 201 []] [] ⟨True,.dat (.sl Fa) (bD 5 4 (aE ks) (bv ks)),[]⟩:=oE hvc
def K7: Kt:=
 kOr 187 (ax [.val I,.val I,.val (.sl C),.fn 186 N,.fn0 161] (λ(k,m,xs,(cs,ns,os,fs,ls,ks),_,_)=>k=1/\m=6/\xs=cs) λ(_,_,_,(cs,ns,os,fs,ls,ks),_,_)=>.dat (.sl Fa) (bD 1 6 (aA cs ns) (bn cs))) <|
 kOr 189 (ax [.val I,.val I,.val (.sl S),.fn 188 N,.fn0 190] (λ(k,m,xs,(cs,ns,os,fs,ls,ks),_,_)=>k=2/\m=6/\xs=os) λ(_,_,_,(cs,ns,os,fs,ls,ks),_,_)=>.dat (.sl Fa) (bD 2 6 (os) (bU os))) <|
 kOr 192 (ax [.val I,.val I,.val (.sl Of),.fn 191 N,.fn 193 N] (λ(k,m,xs,(cs,ns,os,fs,ls,ks),n2,_)=>k=3/\m=12/\xs=fs/\n2=(cs,ns,os,fs,ls,ks)) λ(_,_,_,(cs,ns,os,fs,ls,ks),_,_)=>.dat (.sl Fa) (bD 3 12 (aC fs) (cP (cs,ns,os,fs,ls,ks)))) <|
 kOr 196 (ax [.val I,.val I,.val (.sl Ln),.fn 195 N,.fn 197 N] (λ(k,m,xs,(cs,ns,os,fs,ls,ks),n2,_)=>k=4/\m=40/\xs=ls/\n2=(cs,ns,os,fs,ls,ks)) λ(_,_,_,(cs,ns,os,fs,ls,ks),_,_)=>.dat (.sl Fa) (bD 4 40 (aD ls) (cD (cs,ns,os,fs,ls,ks)))) <|
 kOr 200 (ax [.val I,.val I,.val (.sl Kl),.fn 199 N,.fn0 201] (λ(k,m,xs,(cs,ns,os,fs,ls,ks),_,_)=>k=5/\m=4/\xs=ks) λ(_,_,_,(cs,ns,os,fs,ls,ks),_,_)=>.dat (.sl Fa) (bD 5 4 (aE ks) (bv ks))) <|
 K6
theorem KE(cs:LC)(ns os:LB)(fs:Lo)(ls:Ll)(ks:Lk)(hvc:
 let c37:=(5:Int)=(5:Int)/\(4:Int)=(4:Int)/\ks=ks;let c36:=(2:Int)=(2:Int)/\(6:Int)=(6:Int)/\os=os;let c35:=(1:Int)=(1:Int)/\(6:Int)=(6:Int)/\cs=cs;let c1:=Dy (Df ns) (Df cs);let c2:=[((1:Int),(-1:Int),(1:Int))];let c3:=Dk c2;let c4:=bD 1 6 (aA cs ns) (bn cs);let c5:=Dk c4;let c6:=c3+c5;let c7:=Ef c2 c4;let c8:=bD 2 6 os (bU os);let c9:=Dk c8;let c10:=c6+c9;let c11:=(cs,ns,os,fs,ls,ks);let c34:=(4:Int)=(4:Int)/\(40:Int)=(40:Int)/\ls=ls/\c11=c11;let c33:=(3:Int)=(3:Int)/\(12:Int)=(12:Int)/\fs=fs/\c11=c11;let c12:=Ef c7 c8;let c13:=bD 3 12 (aC fs) (cP c11);let c14:=Dk c13;let c15:=c10+c14;let c16:=Ef c12 c13;let c17:=bD 4 40 (aD ls) (cD c11);let c18:=Dk c17;let c19:=c15+c18;let c20:=Ef c16 c17;let c21:=bD 5 4 (aE ks) (bv ks);let c22:=Dk c21;let c23:=c19+c22;let c24:=ff c11;let c25:=Dk c24;let c26:=c5+c9;let c27:=Ef c4 c8;let c28:=c26+c14;let c29:=Ef c27 c13;let c30:=c28+c18;let c31:=Ef c29 c17;let c32:=c30+c22;
 true/\(True->(c1->(c3*(24))<=(140737488355328)/\c3<=(9223372036854775807)/\c35/\c3=c3/\(c6*(24))<=(140737488355328)/\c6<=(9223372036854775807)/\c36/\Dk c7=c6/\(c10*(24))<=(140737488355328)/\c10<=(9223372036854775807)/\c33/\Dk c12=c10/\(c15*(24))<=(140737488355328)/\c15<=(9223372036854775807)/\c34/\Dk c16=c15/\(c19*(24))<=(140737488355328)/\c19<=(9223372036854775807)/\c37/\Dk c20=c19/\(c23*(24))<=(140737488355328)/\c23<=(9223372036854775807)/\c23=c25/\Ef c20 c21=c24/\True)/\(c1=false->c35/\(c5*(24))<=(140737488355328)/\c5<=(9223372036854775807)/\c36/\c5=c5/\(c26*(24))<=(140737488355328)/\c26<=(9223372036854775807)/\c33/\Dk c27=c26/\(c28*(24))<=(140737488355328)/\c28<=(9223372036854775807)/\c34/\Dk c29=c28/\(c30*(24))<=(140737488355328)/\c30<=(9223372036854775807)/\c37/\Dk c31=c30/\(c32*(24))<=(140737488355328)/\c32<=(9223372036854775807)/\c32=c25/\Ef c31 c21=c24/\True))):
  evF (mkc K7) az 129 [net cs ns os fs ls ks] [] ⟨True,.buf 0 (Dk (ff (cs,ns,os,fs,ls,ks))),[(0,.buf 177 Fa (ff (cs,ns,os,fs,ls,ks)) [])]⟩:=oE hvc
theorem Xf(i:Int)(xs:List Of.den): af Tryz.prog G0 252 [.dat I i,.dat (.sl Of) xs] [] ⟨True,.dat .bool (dM i (Df xs)),[]⟩:=by
 refine ae (c:=mkc K2) KS2 aL hm (Qy i xs ⟨rfl,λ_=>?_⟩)
 simp only[qc,Dh,Es,Di,dM,Ed,Dp,lQ,kN]
theorem xV(i:Int)(xs:List S.den): af Tryz.prog G0 245 [.dat I i,.dat (.sl S) xs] [] ⟨True,.dat .bool (dM i (Df xs)),[]⟩:=by
 refine ae (c:=mkc K2) KS2 aL hm (Wc i xs ⟨rfl,λ_=>?_⟩)
 simp only[qc,Dh,Es,Di,dM,Ed,Dp,lQ,kN]
theorem aAa(i:Int)(xs:List C.den): af Tryz.prog G0 246 [.dat I i,.dat (.sl C) xs] [] ⟨True,.dat .bool (dM i (Df xs)),[]⟩:=by
 refine ae (c:=mkc K2) KS2 aL hm (Wg i xs ⟨rfl,λ_=>?_⟩)
 simp only[qc,Dh,Es,Di,dM,Ed,Dp,lQ,kN]
theorem KS3: aj Tryz.prog G0 K3:=
 ai (ag λ(i,xs,_)=>Xf i xs)<|ai (ag λ(i,xs,_)=>xV i xs)<|ai (ag λ(i,xs,_)=>aAa i xs) KS2
theorem BY(l:List ByteArray): jV l 0:=⟨qL _,vC _,by simp⟩
theorem BZ{l:List ByteArray}{x:Int}(h:jV l x)(hx:x<l.length)(hp:da (l.getD x.toNat ⟨#[]⟩)=true): jV l (x+1):=by
 obtain⟨h0,h1,h2⟩:=h;refine⟨by omega,by omega,?_⟩
 rw[show(x+1).toNat=x.toNat+1 by omega]
 exact gZ (d:=⟨#[]⟩) h2 (by omega) hp
theorem Ot{l:List ByteArray}{x:Int}(h:jV l x)(hx:x<l.length)(hp:da (l.getD x.toNat ⟨#[]⟩)=false): l.all da=false:=
 pD (d:=⟨#[]⟩) (k:=x.toNat) (by have:=h.1;omega) hp
theorem FI{l:List ByteArray}{x:Int}(h:jV l x)(hx:¬x<l.length): l.all da=true:=by
 obtain⟨h0,h1,h2⟩:=h
 rwa [qO (by omega)]at h2
theorem Aa(cs:LC)(ns os:LB)(fs:Lo)(ls:Ll)(ks:Lk)(e1:ByteArray)(e2 e3 e4 e5 e6:Int)(e7:List ByteArray): af Tryz.prog G0 194 [net cs ns os fs ls ks,.agg [.dat .str e1,.dat (.int .i64) e2,.dat (.int .i64) e3,.dat (.int .i64) e4,.dat (.int .i64) e5,.dat (.int .i64) e6,.dat (.sl .str) e7]] [] ⟨True,.dat .bool (db (cs,ns,os,fs,ls,ks) (e1,e2,e3,e4,e5,e6,e7)),[]⟩:=by
 refine ae (c:=mkc K3) KS3 aL hm (wx cs ns os fs ls ks e1 e2 e3 e4 e5 e6 e7 ⟨rfl,λ_=>?_⟩)
 simp only[qc,Dh,Es,Di,qd,Dt,Eb,Dy,Dp,Ei,Eh,Ed,Ew,Df,Et,Dl,Dn,Eo,Dz,Dw,Dj,Dq,Ee,Fe,Dc,Dx,Dk,Ec,Em,Du,Eu,Ez,En,Ef,Fg,Fj,Fh,Ep,Ej,Ey,Fb];refine⟨λh=>?_,λ⟨⟨h1,h2⟩,h3⟩=>⟨BY e7,λx hx=>⟨λhlt=>⟨hx.1,hlt,λhb=>?_,λhg=>⟨⟨by have:=hx.1;omega,by omega⟩,x+1,BZ hx hlt hg,rfl,by have:=hx.1;omega⟩⟩,λhge=>?_⟩⟩⟩
 .unfold db;rcases h with(h | h) | h
  .rw[show dM _ _=false from h];rfl
  .rw[show dM e3 _=false from h];simp
  .have:decide (e7.length<=20)=false:=vK (by omega)
   simp[this]
 .have:=Ot hx hlt hb;simp[db,this]
 .have h4:=FI hx hge;have h5:decide (e7.length<=20)=true:=vF (by omega)
  have h1':dM e2 (os.length:Int)=true:=h1;have h2':dM e3 (cs.length:Int)=true:=h2;simp only[db,h1',h2',h4,h5,zQ]
theorem II(cs:LC)(ns os:LB)(fs:Lo)(ls:Ll)(ks:Lk)(e1:ByteArray)(e2 e3 e4 e5 e6:Int): af Tryz.prog G0 198 [net cs ns os fs ls ks,.agg [.dat .str e1,.dat (.int .i64) e2,.dat (.int .i64) e3,.dat (.int .i64) e4,.dat (.int .i64) e5,.dat (.int .i64) e6]] [] ⟨True,.dat .bool (dc (cs,ns,os,fs,ls,ks) (e1,e2,e3,e4,e5,e6)),[]⟩:=by
 refine ae (c:=mkc K3) KS3 aL hm (C5 cs ns os fs ls ks e1 e2 e3 e4 e5 e6 ⟨rfl,λ_=>?_⟩)
 simp only[qc,Dh,Es,Di,qd,Dt,Eb,Dy,Dp,Ei,Eh,Ed,Ew,Df,Et,Dl,Dn,Eo,Dz,Dw,Dj,Dq,Ee,Fe,Dc,Dx,Dk,Ec,Em,Du,Eu,Ez,En,Ef,Fg,Fj,Fh,Ep,Ej,Ey,Fb];refine⟨λh=>?_,λ⟨⟨h1,h2⟩,h3⟩=>?_⟩
 .unfold dc;rcases h with(h | h) | h
  .rw[show dM _ _=false from h];rfl
  .rw[show dM e3 _=false from h];simp
  .simp[h]
 .have h1':dM e2 (fs.length:Int)=true:=h1;have h2':dM e3 (fs.length:Int)=true:=h2;have h3':decide (e2≠e3)=true:=vF h3;simp only[dc,h1',h2',h3',zQ]
theorem KS4: aj Tryz.prog G0 K4:=
 ai (ag λ((cs,ns,os,fs,ls,ks),(e1,e2,e3,e4,e5,e6,e7),_)=>Aa cs ns os fs ls ks e1 e2 e3 e4 e5 e6 e7)<|ai (ag λ((cs,ns,os,fs,ls,ks),(e1,e2,e3,e4,e5,e6),_)=>II cs ns os fs ls ks e1 e2 e3 e4 e5 e6) KS3
theorem l7{α β:Type}(f:α->β)(l:List α)(i:Nat)(d:α)(e:β)(hi:i<l.length): (l.map f).getD i e=f (l.getD i d):=by
 simp only[qA,qP,qB hi,zO,qQ]
theorem tZ{cs:List (Int×List Bool×Li)}{ns:List ByteArray}{i:Int}(h0:0<=i)(h1:i<cs.length): gb (aA cs ns) i=ns.getD i.toNat ⟨#[]⟩:=by
 unfold gb aA;rw[l7 (λi=>ns.getD i ⟨#[]⟩) _ _ 0 _ (by rw[vX];omega)]
 show ns.getD ((List.range cs.length).getD i.toNat 0) _=_;rw[show(List.range cs.length).getD i.toNat 0=i.toNat by rw[qA,vY (by omega)];rfl]
theorem I3{α:Type}{f:α->ByteArray}{l:List α}{i:Int}(d:α)(h0:0<=i)(h1:i<l.length): gb (l.map f) i=f (l.getD i.toNat d):=l7 _ _ _ _ _ (by omega)
theorem aC4(i:Int)(cs:LC)(ns os:LB)(fs:Lo)(ls:Ll)(ks:Lk): af Tryz.prog G0 186 [.dat I i,.ip N (cs,ns,os,fs,ls,ks)] [] ⟨idx i (Df cs),.dat S (gb (aA cs ns) i),[]⟩:=by
 refine ae (c:=mkc K4) KS4 aL hm (ZV i cs ns os fs ls ks ⟨rfl,λ⟨h0,h1⟩=>?_⟩)
 have h0:0<=i:=h0;have h1:i<(cs.length:Int):=h1;simp only[qc,Dh,Es,Di,qd,Dt,Eb,Dy,Dp,Ei,Eh,Ed,Ew,Df,Et,Dl,Dn,Eo,Dz,Dw,Dj,Dq,Ee,Fe,Dc,Dx,Dk,Ec,Em,Du,Eu,Ez,En,Ef,Fg,Fj,Fh,Ep,Ej,Ey,Fb,tZ h0 h1];refine⟨λh=>⟨h0,h⟩,λh=>?_⟩
 rw[qA,wH (by omega)];rfl
theorem aC3(i:Int)(cs:LC)(ns os:LB)(fs:Lo)(ls:Ll)(ks:Lk): af Tryz.prog G0 188 [.dat I i,.ip N (cs,ns,os,fs,ls,ks)] [] ⟨idx i (Df os),.dat S (gb os i),[]⟩:=by
 refine ae (c:=mkc K4) KS4 aL hm (ZU i cs ns os fs ls ks ⟨rfl,λ⟨h0,h1⟩=>?_⟩)
 simp only[qc,Dh,Es,Di,qd,Dt,Eb,Dy,Dp,Ei,Eh,Ed,Ew,Df,Et,Dl,Dn,Eo,Dz,Dw,Dj,Dq,Ee,Fe,Dc,Dx,Dk,Ec,Em,Du,Eu,Ez,En,Ef,Fg,Fj,Fh,Ep,Ej,Ey,Fb];exact⟨h0,h1,rfl⟩
theorem aDf(e1:ByteArray): af Tryz.prog G0 190 [.agg [.dat .str e1]] [] ⟨True,.dat .bool true,[]⟩:=
 ae (c:=mkc K4) KS4 aL hm (Z8 e1 ⟨rfl,λ_=>⟨rfl,trivial⟩⟩)
theorem aC2(i:Int)(cs:LC)(ns os:LB)(fs:Lo)(ls:Ll)(ks:Lk): af Tryz.prog G0 191 [.dat I i,.ip N (cs,ns,os,fs,ls,ks)] [] ⟨idx i (Df fs),.dat S (gb (aC fs) i),[]⟩:=by
 refine ae (c:=mkc K4) KS4 aL hm (ZT i cs ns os fs ls ks ⟨rfl,λ⟨h0,h1⟩=>?_⟩)
 simp only[qc,Dh,Es,Di,qd,Dt,Eb,Dy,Dp,Ei,Eh,Ed,Ew,Df,Et,Dl,Dn,Eo,Dz,Dw,Dj,Dq,Ee,Fe,Dc,Dx,Dk,Ec,Em,Du,Eu,Ez,En,Ef,Fg,Fj,Fh,Ep,Ej,Ey,Fb];exact⟨h0,h1,(I3 _ h0 h1).symm⟩
theorem aDe(cs:LC)(ns os:LB)(fs:Lo)(ls:Ll)(ks:Lk)(e1:ByteArray)(e2 e3 e4 e5 e6:Int)(e7:List ByteArray): af Tryz.prog G0 193 [.agg [.dat .str e1,.dat (.int .i64) e2,.dat (.int .i64) e3,.dat (.int .i64) e4,.dat (.int .i64) e5,.dat (.int .i64) e6,.dat (.sl .str) e7],.ip N (cs,ns,os,fs,ls,ks)] [] ⟨True,.dat .bool (db (cs,ns,os,fs,ls,ks) (e1,e2,e3,e4,e5,e6,e7)),[]⟩:=
 ae (c:=mkc K4) KS4 aL hm (Z7 cs ns os fs ls ks e1 e2 e3 e4 e5 e6 e7 ⟨rfl,λ_=>by simp only[qc,Dh,Es,Di]⟩)
theorem aC1(i:Int)(cs:LC)(ns os:LB)(fs:Lo)(ls:Ll)(ks:Lk): af Tryz.prog G0 195 [.dat I i,.ip N (cs,ns,os,fs,ls,ks)] [] ⟨idx i (Df ls),.dat S (gb (aD ls) i),[]⟩:=by
 refine ae (c:=mkc K4) KS4 aL hm (ZS i cs ns os fs ls ks ⟨rfl,λ⟨h0,h1⟩=>?_⟩)
 simp only[qc,Dh,Es,Di,qd,Dt,Eb,Dy,Dp,Ei,Eh,Ed,Ew,Df,Et,Dl,Dn,Eo,Dz,Dw,Dj,Dq,Ee,Fe,Dc,Dx,Dk,Ec,Em,Du,Eu,Ez,En,Ef,Fg,Fj,Fh,Ep,Ej,Ey,Fb];exact⟨h0,h1,(I3 _ h0 h1).symm⟩
theorem aDd(cs:LC)(ns os:LB)(fs:Lo)(ls:Ll)(ks:Lk)(e1:ByteArray)(e2 e3 e4 e5 e6:Int): af Tryz.prog G0 197 [.agg [.dat .str e1,.dat (.int .i64) e2,.dat (.int .i64) e3,.dat (.int .i64) e4,.dat (.int .i64) e5,.dat (.int .i64) e6],.ip N (cs,ns,os,fs,ls,ks)] [] ⟨True,.dat .bool (dc (cs,ns,os,fs,ls,ks) (e1,e2,e3,e4,e5,e6)),[]⟩:=
 ae (c:=mkc K4) KS4 aL hm (Z6 cs ns os fs ls ks e1 e2 e3 e4 e5 e6 ⟨rfl,λ_=>by simp only[qc,Dh,Es,Di]⟩)
theorem aC0(i:Int)(cs:LC)(ns os:LB)(fs:Lo)(ls:Ll)(ks:Lk): af Tryz.prog G0 199 [.dat I i,.ip N (cs,ns,os,fs,ls,ks)] [] ⟨idx i (Df ks),.dat S (gb (aE ks) i),[]⟩:=by
 refine ae (c:=mkc K4) KS4 aL hm (ZR i cs ns os fs ls ks ⟨rfl,λ⟨h0,h1⟩=>?_⟩)
 simp only[qc,Dh,Es,Di,qd,Dt,Eb,Dy,Dp,Ei,Eh,Ed,Ew,Df,Et,Dl,Dn,Eo,Dz,Dw,Dj,Dq,Ee,Fe,Dc,Dx,Dk,Ec,Em,Du,Eu,Ez,En,Ef,Fg,Fj,Fh,Ep,Ej,Ey,Fb];exact⟨h0,h1,(I3 _ h0 h1).symm⟩
theorem aDc(e1:ByteArray)(e2 e3:Int): af Tryz.prog G0 201 [.agg [.dat .str e1,.dat (.int .i64) e2,.dat (.int .i64) e3]] [] ⟨True,.dat .bool (iy (e1,e2,e3)),[]⟩:=
 ae (c:=mkc K4) KS4 aL hm (Z5 e1 e2 e3 ⟨rfl,λ_=>by simp only[qc,Dh,Es,Di,iy]⟩)
theorem KS5: aj Tryz.prog G0 K5:=
 ai (ag λ(i,(cs,ns,os,fs,ls,ks),_)=>aC4 i cs ns os fs ls ks)<|ai (ag λ(i,(cs,ns,os,fs,ls,ks),_)=>aC3 i cs ns os fs ls ks)<|ai (ag λ(e1,_)=>aDf e1)<|ai (ag λ(i,(cs,ns,os,fs,ls,ks),_)=>aC2 i cs ns os fs ls ks) <|
 ai (ag λ((e1,e2,e3,e4,e5,e6,e7),(cs,ns,os,fs,ls,ks),_)=>aDe cs ns os fs ls ks e1 e2 e3 e4 e5 e6 e7)<|ai (ag λ(i,(cs,ns,os,fs,ls,ks),_)=>aC1 i cs ns os fs ls ks)<|ai (ag λ((e1,e2,e3,e4,e5,e6),(cs,ns,os,fs,ls,ks),_)=>aDd cs ns os fs ls ks e1 e2 e3 e4 e5 e6) <|
 ai (ag λ(i,(cs,ns,os,fs,ls,ks),_)=>aC0 i cs ns os fs ls ks)<|ai (ag λ((e1,e2,e3),_)=>aDc e1 e2 e3) KS4
theorem ky{l:List ByteArray}{i:Int}(h:0<=i): uv l i 0:=⟨qL _,h,by simp⟩
theorem kz{l:List ByteArray}{i x:Int}(h:uv l i x)(hx:x<i)(hi:i<l.length)(hp:(gb l x).toList≠(gb l i).toList): uv l i (x+1):=by
 obtain⟨h0,h1,h2⟩:=h;refine⟨by omega,by omega,?_⟩
 rw[show(x+1).toNat=x.toNat+1 by omega]
 exact wq (d:=⟨#[]⟩) h2 (by omega) (by simpa[gb]using hp)
theorem KW{l:List ByteArray}{i x:Int}(h:uv l i x)(hx:x<i)(hi:i<l.length)(hp:(gb l x).toList=(gb l i).toList): 4=rule2 l i:=by
 unfold rule2;have hx0:=h.1;rw[if_pos];have hlt:x.toNat<(l.take i.toNat).length:=by rw[qI];omega
 refine Vw (d:=⟨#[]⟩) (k:=x.toNat) hlt ?_;have:(l.take i.toNat).getD x.toNat ⟨#[]⟩=gb l x:=by
  unfold gb;simp only[qA];rw[vM,if_pos (by omega)]
 rw[this];simpa using hp
theorem nA{l:List ByteArray}{i x:Int}(h:uv l i x)(hx:¬x<i): 0=rule2 l i:=by
 obtain⟨h0,h1,h2⟩:=h;have:x=i:=by omega
 subst this;unfold rule2;rw[h2];rfl
theorem nL{α:Type}{g:α->Bool}{l:List α}{i:Int}(d:α)(h0:0<=i)(h1:i<l.length): bO (l.map g) i=if g (l.getD i.toNat d)then 0 else 1:=by
 unfold bO;rw[l7 g l _ d _ (by omega)]
theorem fJ(cs:List (Int×List Bool×Li))(ns:List ByteArray): (aA cs ns).length=cs.length:=by simp[aA]
theorem map_length{α β:Type}(f:α->β)(l:List α): (l.map f).length=l.length:=vV f
theorem aCX(i:Int)(cs:LC)(ns os:LB)(fs:Lo)(ls:Ll)(ks:Lk): af Tryz.prog G0 235 [.dat I i,.ipv (.fn 186 [.ip N (cs,ns,os,fs,ls,ks)])] [] ⟨idx i (Df cs),.dat I (bF (aA cs ns) i),[]⟩:=by
 refine ae (c:=mkc K5) KS5 aL hm (ZO i cs ns os fs ls ks ⟨rfl,λhp=>?_⟩)
 simp only[qc,Dh,Es,Di,qd,Dt,Eb,Dy,Dp,Ei,Eh,Ed,Ew,Df,Et,Dl,Dn,Eo,Dz,Dw,Dj,Dq,Ee,Fe,Dc,Dx,Dk,Ec,Em,Du,Eu,Ez,En,Ef,Fg,Fj,Fh,Ep,Ej,Ey,Fb];exact⟨hp,λh=>by simp[bF,h],λh=>by simp[bF,h]⟩
theorem aCS(i:Int)(cs:LC)(ns os:LB)(fs:Lo)(ls:Ll)(ks:Lk): af Tryz.prog G0 237 [.dat I i,.ipv (.fn 186 [.ip N (cs,ns,os,fs,ls,ks)])] [] ⟨qf i (Df cs),.dat I (rule2 (aA cs ns) i),[]⟩:=by
 refine ae (c:=mkc K5) KS5 aL hm (ZJ i cs ns os fs ls ks ⟨rfl,λhp=>?_⟩)
 have h0:0<=i:=hp.1;have h1:i<(cs.length:Int):=hp.2.1;have h2:i<=1000:=hp.2.2;have hl:((aA cs ns).length:Int)=cs.length:=yA _ (fJ cs ns);simp only[qc,Dh,Es,Di,qd,Dt,Eb,Dy,Dp,Ei,Eh,Ed,Ew,Df,Et,Dl,Dn,Eo,Dz,Dw,Dj,Dq,Ee,Fe,Dc,Dx,Dk,Ec,Em,Du,Eu,Ez,En,Ef,Fg,Fj,Fh,Ep,Ej,Ey,Fb]
 exact⟨ky h0,λx hx=>⟨λhlt=>⟨⟨hx.1,by omega⟩,⟨h0,h1⟩,λhe=>KW hx hlt (by omega) he,λhne=>⟨⟨by have:=hx.1;omega,by omega⟩,x+1,kz hx hlt (by omega) hne,rfl,by have:=hx.1;omega⟩⟩,λhge=>nA hx hge⟩⟩
theorem aCN(i:Int)(cs:LC)(ns os:LB)(fs:Lo)(ls:Ll)(ks:Lk): af Tryz.prog G0 238 [.dat I i,.ipv (.fn 161 []),.ip (.sl C) cs] [] ⟨idx i (Df cs),.dat I (bO (bn cs) i),[]⟩:=by
 refine ae (c:=mkc K5) KS5 aL hm (ZE i cs ns os fs ls ks ⟨rfl,λhp=>?_⟩)
 have h0:0<=i:=hp.1;have h1:i<(cs.length:Int):=hp.2;simp only[qc,Dh,Es,Di,qd,Dt,Eb,Dy,Dp,Ei,Eh,Ed,Ew,Df,Et,Dl,Dn,Eo,Dz,Dw,Dj,Dq,Ee,Fe,Dc,Dx,Dk,Ec,Em,Du,Eu,Ez,En,Ef,Fg,Fj,Fh,Ep,Ej,Ey,Fb];rw[show bO (bn cs) i=_ from nL _ h0 h1]
 exact⟨h0,h1,λh=>by rw[if_neg (by intro g;rw[show _=false from h]at g;cases g)],λh=>by rw[if_pos h]⟩
theorem aCW(i:Int)(cs:LC)(ns os:LB)(fs:Lo)(ls:Ll)(ks:Lk): af Tryz.prog G0 239 [.dat I i,.ipv (.fn 188 [.ip N (cs,ns,os,fs,ls,ks)])] [] ⟨idx i (Df os),.dat I (bF (os) i),[]⟩:=by
 refine ae (c:=mkc K5) KS5 aL hm (ZN i cs ns os fs ls ks ⟨rfl,λhp=>?_⟩)
 simp only[qc,Dh,Es,Di,qd,Dt,Eb,Dy,Dp,Ei,Eh,Ed,Ew,Df,Et,Dl,Dn,Eo,Dz,Dw,Dj,Dq,Ee,Fe,Dc,Dx,Dk,Ec,Em,Du,Eu,Ez,En,Ef,Fg,Fj,Fh,Ep,Ej,Ey,Fb];exact⟨hp,λh=>by simp[bF,h],λh=>by simp[bF,h]⟩
theorem aCR(i:Int)(cs:LC)(ns os:LB)(fs:Lo)(ls:Ll)(ks:Lk): af Tryz.prog G0 240 [.dat I i,.ipv (.fn 188 [.ip N (cs,ns,os,fs,ls,ks)])] [] ⟨qf i (Df os),.dat I (rule2 (os) i),[]⟩:=by
 refine ae (c:=mkc K5) KS5 aL hm (ZI i cs ns os fs ls ks ⟨rfl,λhp=>?_⟩)
 have h0:0<=i:=hp.1;have h1:i<(os.length:Int):=hp.2.1;have h2:i<=1000:=hp.2.2;have hl:((os).length:Int)=os.length:=yA _ (rfl);simp only[qc,Dh,Es,Di,qd,Dt,Eb,Dy,Dp,Ei,Eh,Ed,Ew,Df,Et,Dl,Dn,Eo,Dz,Dw,Dj,Dq,Ee,Fe,Dc,Dx,Dk,Ec,Em,Du,Eu,Ez,En,Ef,Fg,Fj,Fh,Ep,Ej,Ey,Fb]
 exact⟨ky h0,λx hx=>⟨λhlt=>⟨⟨hx.1,by omega⟩,⟨h0,h1⟩,λhe=>KW hx hlt (by omega) he,λhne=>⟨⟨by have:=hx.1;omega,by omega⟩,x+1,kz hx hlt (by omega) hne,rfl,by have:=hx.1;omega⟩⟩,λhge=>nA hx hge⟩⟩
theorem aCM(i:Int)(cs:LC)(ns os:LB)(fs:Lo)(ls:Ll)(ks:Lk): af Tryz.prog G0 241 [.dat I i,.ipv (.fn 190 []),.ip (.sl S) os] [] ⟨idx i (Df os),.dat I (bO (bU os) i),[]⟩:=by
 refine ae (c:=mkc K5) KS5 aL hm (ZD i cs ns os fs ls ks ⟨rfl,λhp=>?_⟩)
 have h0:0<=i:=hp.1;have h1:i<(os.length:Int):=hp.2;simp only[qc,Dh,Es,Di,qd,Dt,Eb,Dy,Dp,Ei,Eh,Ed,Ew,Df,Et,Dl,Dn,Eo,Dz,Dw,Dj,Dq,Ee,Fe,Dc,Dx,Dk,Ec,Em,Du,Eu,Ez,En,Ef,Fg,Fj,Fh,Ep,Ej,Ey,Fb];rw[show bO (bU os) i=_ from nL ⟨#[]⟩ h0 h1]
 exact⟨h0,h1,(λh=>by cases h),rfl⟩
theorem aCV(i:Int)(cs:LC)(ns os:LB)(fs:Lo)(ls:Ll)(ks:Lk): af Tryz.prog G0 242 [.dat I i,.ipv (.fn 191 [.ip N (cs,ns,os,fs,ls,ks)])] [] ⟨idx i (Df fs),.dat I (bF (aC fs) i),[]⟩:=by
 refine ae (c:=mkc K5) KS5 aL hm (ZM i cs ns os fs ls ks ⟨rfl,λhp=>?_⟩)
 simp only[qc,Dh,Es,Di,qd,Dt,Eb,Dy,Dp,Ei,Eh,Ed,Ew,Df,Et,Dl,Dn,Eo,Dz,Dw,Dj,Dq,Ee,Fe,Dc,Dx,Dk,Ec,Em,Du,Eu,Ez,En,Ef,Fg,Fj,Fh,Ep,Ej,Ey,Fb];exact⟨hp,λh=>by simp[bF,h],λh=>by simp[bF,h]⟩
theorem aCQ(i:Int)(cs:LC)(ns os:LB)(fs:Lo)(ls:Ll)(ks:Lk): af Tryz.prog G0 243 [.dat I i,.ipv (.fn 191 [.ip N (cs,ns,os,fs,ls,ks)])] [] ⟨qf i (Df fs),.dat I (rule2 (aC fs) i),[]⟩:=by
 refine ae (c:=mkc K5) KS5 aL hm (ZH i cs ns os fs ls ks ⟨rfl,λhp=>?_⟩)
 have h0:0<=i:=hp.1;have h1:i<(fs.length:Int):=hp.2.1;have h2:i<=1000:=hp.2.2;have hl:((aC fs).length:Int)=fs.length:=yA _ (map_length _ fs);simp only[qc,Dh,Es,Di,qd,Dt,Eb,Dy,Dp,Ei,Eh,Ed,Ew,Df,Et,Dl,Dn,Eo,Dz,Dw,Dj,Dq,Ee,Fe,Dc,Dx,Dk,Ec,Em,Du,Eu,Ez,En,Ef,Fg,Fj,Fh,Ep,Ej,Ey,Fb]
 exact⟨ky h0,λx hx=>⟨λhlt=>⟨⟨hx.1,by omega⟩,⟨h0,h1⟩,λhe=>KW hx hlt (by omega) he,λhne=>⟨⟨by have:=hx.1;omega,by omega⟩,x+1,kz hx hlt (by omega) hne,rfl,by have:=hx.1;omega⟩⟩,λhge=>nA hx hge⟩⟩
theorem aCL(i:Int)(cs:LC)(ns os:LB)(fs:Lo)(ls:Ll)(ks:Lk): af Tryz.prog G0 244 [.dat I i,.ipv (.fn 193 [.ip N (cs,ns,os,fs,ls,ks)]),.ip (.sl Of) fs] [] ⟨idx i (Df fs),.dat I (bO (cP (cs,ns,os,fs,ls,ks)) i),[]⟩:=by
 refine ae (c:=mkc K5) KS5 aL hm (ZC i cs ns os fs ls ks ⟨rfl,λhp=>?_⟩)
 have h0:0<=i:=hp.1;have h1:i<(fs.length:Int):=hp.2;simp only[qc,Dh,Es,Di,qd,Dt,Eb,Dy,Dp,Ei,Eh,Ed,Ew,Df,Et,Dl,Dn,Eo,Dz,Dw,Dj,Dq,Ee,Fe,Dc,Dx,Dk,Ec,Em,Du,Eu,Ez,En,Ef,Fg,Fj,Fh,Ep,Ej,Ey,Fb];rw[show bO (cP (cs,ns,os,fs,ls,ks)) i=_ from nL _ h0 h1]
 exact⟨h0,h1,λh=>by rw[if_neg (by intro g;rw[show _=false from h]at g;cases g)],λh=>by rw[if_pos h]⟩
theorem aCU(i:Int)(cs:LC)(ns os:LB)(fs:Lo)(ls:Ll)(ks:Lk): af Tryz.prog G0 249 [.dat I i,.ipv (.fn 195 [.ip N (cs,ns,os,fs,ls,ks)])] [] ⟨idx i (Df ls),.dat I (bF (aD ls) i),[]⟩:=by
 refine ae (c:=mkc K5) KS5 aL hm (ZL i cs ns os fs ls ks ⟨rfl,λhp=>?_⟩)
 simp only[qc,Dh,Es,Di,qd,Dt,Eb,Dy,Dp,Ei,Eh,Ed,Ew,Df,Et,Dl,Dn,Eo,Dz,Dw,Dj,Dq,Ee,Fe,Dc,Dx,Dk,Ec,Em,Du,Eu,Ez,En,Ef,Fg,Fj,Fh,Ep,Ej,Ey,Fb];exact⟨hp,λh=>by simp[bF,h],λh=>by simp[bF,h]⟩
theorem aCP(i:Int)(cs:LC)(ns os:LB)(fs:Lo)(ls:Ll)(ks:Lk): af Tryz.prog G0 250 [.dat I i,.ipv (.fn 195 [.ip N (cs,ns,os,fs,ls,ks)])] [] ⟨qf i (Df ls),.dat I (rule2 (aD ls) i),[]⟩:=by
 refine ae (c:=mkc K5) KS5 aL hm (ZG i cs ns os fs ls ks ⟨rfl,λhp=>?_⟩)
 have h0:0<=i:=hp.1;have h1:i<(ls.length:Int):=hp.2.1;have h2:i<=1000:=hp.2.2;have hl:((aD ls).length:Int)=ls.length:=yA _ (map_length _ ls);simp only[qc,Dh,Es,Di,qd,Dt,Eb,Dy,Dp,Ei,Eh,Ed,Ew,Df,Et,Dl,Dn,Eo,Dz,Dw,Dj,Dq,Ee,Fe,Dc,Dx,Dk,Ec,Em,Du,Eu,Ez,En,Ef,Fg,Fj,Fh,Ep,Ej,Ey,Fb]
 exact⟨ky h0,λx hx=>⟨λhlt=>⟨⟨hx.1,by omega⟩,⟨h0,h1⟩,λhe=>KW hx hlt (by omega) he,λhne=>⟨⟨by have:=hx.1;omega,by omega⟩,x+1,kz hx hlt (by omega) hne,rfl,by have:=hx.1;omega⟩⟩,λhge=>nA hx hge⟩⟩
theorem aCK(i:Int)(cs:LC)(ns os:LB)(fs:Lo)(ls:Ll)(ks:Lk): af Tryz.prog G0 251 [.dat I i,.ipv (.fn 197 [.ip N (cs,ns,os,fs,ls,ks)]),.ip (.sl Ln) ls] [] ⟨idx i (Df ls),.dat I (bO (cD (cs,ns,os,fs,ls,ks)) i),[]⟩:=by
 refine ae (c:=mkc K5) KS5 aL hm (ZB i cs ns os fs ls ks ⟨rfl,λhp=>?_⟩)
 have h0:0<=i:=hp.1;have h1:i<(ls.length:Int):=hp.2;simp only[qc,Dh,Es,Di,qd,Dt,Eb,Dy,Dp,Ei,Eh,Ed,Ew,Df,Et,Dl,Dn,Eo,Dz,Dw,Dj,Dq,Ee,Fe,Dc,Dx,Dk,Ec,Em,Du,Eu,Ez,En,Ef,Fg,Fj,Fh,Ep,Ej,Ey,Fb];rw[show bO (cD (cs,ns,os,fs,ls,ks)) i=_ from nL _ h0 h1]
 exact⟨h0,h1,λh=>by rw[if_neg (by intro g;rw[show _=false from h]at g;cases g)],λh=>by rw[if_pos h]⟩
theorem aCT(i:Int)(cs:LC)(ns os:LB)(fs:Lo)(ls:Ll)(ks:Lk): af Tryz.prog G0 253 [.dat I i,.ipv (.fn 199 [.ip N (cs,ns,os,fs,ls,ks)])] [] ⟨idx i (Df ks),.dat I (bF (aE ks) i),[]⟩:=by
 refine ae (c:=mkc K5) KS5 aL hm (ZK i cs ns os fs ls ks ⟨rfl,λhp=>?_⟩)
 simp only[qc,Dh,Es,Di,qd,Dt,Eb,Dy,Dp,Ei,Eh,Ed,Ew,Df,Et,Dl,Dn,Eo,Dz,Dw,Dj,Dq,Ee,Fe,Dc,Dx,Dk,Ec,Em,Du,Eu,Ez,En,Ef,Fg,Fj,Fh,Ep,Ej,Ey,Fb];exact⟨hp,λh=>by simp[bF,h],λh=>by simp[bF,h]⟩
theorem aCO(i:Int)(cs:LC)(ns os:LB)(fs:Lo)(ls:Ll)(ks:Lk): af Tryz.prog G0 254 [.dat I i,.ipv (.fn 199 [.ip N (cs,ns,os,fs,ls,ks)])] [] ⟨qf i (Df ks),.dat I (rule2 (aE ks) i),[]⟩:=by
 refine ae (c:=mkc K5) KS5 aL hm (ZF i cs ns os fs ls ks ⟨rfl,λhp=>?_⟩)
 have h0:0<=i:=hp.1;have h1:i<(ks.length:Int):=hp.2.1;have h2:i<=1000:=hp.2.2;have hl:((aE ks).length:Int)=ks.length:=yA _ (map_length _ ks);simp only[qc,Dh,Es,Di,qd,Dt,Eb,Dy,Dp,Ei,Eh,Ed,Ew,Df,Et,Dl,Dn,Eo,Dz,Dw,Dj,Dq,Ee,Fe,Dc,Dx,Dk,Ec,Em,Du,Eu,Ez,En,Ef,Fg,Fj,Fh,Ep,Ej,Ey,Fb]
 exact⟨ky h0,λx hx=>⟨λhlt=>⟨⟨hx.1,by omega⟩,⟨h0,h1⟩,λhe=>KW hx hlt (by omega) he,λhne=>⟨⟨by have:=hx.1;omega,by omega⟩,x+1,kz hx hlt (by omega) hne,rfl,by have:=hx.1;omega⟩⟩,λhge=>nA hx hge⟩⟩
theorem aCJ(i:Int)(cs:LC)(ns os:LB)(fs:Lo)(ls:Ll)(ks:Lk): af Tryz.prog G0 255 [.dat I i,.ipv (.fn 201 []),.ip (.sl Kl) ks] [] ⟨idx i (Df ks),.dat I (bO (bv ks) i),[]⟩:=by
 refine ae (c:=mkc K5) KS5 aL hm (ZA i cs ns os fs ls ks ⟨rfl,λhp=>?_⟩)
 have h0:0<=i:=hp.1;have h1:i<(ks.length:Int):=hp.2;simp only[qc,Dh,Es,Di,qd,Dt,Eb,Dy,Dp,Ei,Eh,Ed,Ew,Df,Et,Dl,Dn,Eo,Dz,Dw,Dj,Dq,Ee,Fe,Dc,Dx,Dk,Ec,Em,Du,Eu,Ez,En,Ef,Fg,Fj,Fh,Ep,Ej,Ey,Fb];rw[show bO (bv ks) i=_ from nL _ h0 h1]
 exact⟨h0,h1,λh=>by rw[if_neg (by intro g;rw[show _=false from h]at g;cases g)],λh=>by rw[if_pos h]⟩
theorem pd(kind:Int)(l:List ByteArray)(g:List Bool)(k:Int): (aR kind l g k).length<=k.toNat:=by
 unfold aR;exact wF (qCy _ _) (by rw[vX];exact qJ _)
theorem vA{kind:Int}{l:List ByteArray}{g:List Bool}{k:Int}(h0:0<=k)(he:HJ l g k≠0): aR kind l g (k+1)=aR kind l g k++[(kind,k,HJ l g k)]:=by
 unfold aR;rw[show(k+1).toNat=k.toNat+1 by omega,zT,qAu]
 simp[qR h0,he]
theorem Bz{kind:Int}{l:List ByteArray}{g:List Bool}{k:Int}(h0:0<=k)(he:HJ l g k=0): aR kind l g (k+1)=aR kind l g k:=by
 unfold aR;rw[show(k+1).toNat=k.toNat+1 by omega,zT,qAu]
 simp[qR h0,he]
theorem R7{l:List ByteArray}{g:List Bool}{i j:Int}(h:bZ l g i j)(hj:j<3)(he:[bF l i,rule2 l i,bO g i].getD j.toNat 0≠0): [bF l i,rule2 l i,bO g i].getD j.toNat 0=HJ l g i:=by
 obtain⟨h0,_,h1,h2,_⟩:=h;have hc:j=0\/j=1\/j=2:=by omega
 unfold HJ;rcases hc with rfl | rfl | rfl
 .have he:bF l i≠0:=he;rw[if_pos he];rfl
 .have he:rule2 l i≠0:=he;rw[if_neg (by simp[h1]),if_pos he];rfl
 .rw[if_neg (by simp[h1]),if_neg (by simp[h2])];rfl
theorem IP{l:List ByteArray}{g:List Bool}{i j:Int}(h:bZ l g i j)(hj:j<3)(he:[bF l i,rule2 l i,bO g i].getD j.toNat 0=0): bZ l g i (j+1):=by
 obtain⟨h0,_,h1,h2,h3⟩:=h;have hc:j=0\/j=1\/j=2:=by omega
 rcases hc with rfl | rfl | rfl
 .exact⟨by omega,by omega,λ_=>he,λh=>by omega,λh=>by omega⟩
 .exact⟨by omega,by omega,λ_=>h1 (by omega),λ_=>he,λh=>by omega⟩
 .exact⟨by omega,by omega,λ_=>h1 (by omega),λ_=>h2 (by omega),λ_=>he⟩
theorem ME{l:List ByteArray}{g:List Bool}{i j:Int}(h:bZ l g i j)(hj:¬j<3): HJ l g i=0:=by
 obtain⟨h0,_,h1,h2,h3⟩:=h;unfold HJ;rw[if_neg (by simp[h1 (by omega)]),if_neg (by simp[h2 (by omega)]),h3 (by omega)]
theorem B6{kind lim:Int}{l:List ByteArray}{g:List Bool}{m:Nat}(hm:l.length=m)(h1:0<=lim)(h2:lim<=100):
  (∃x,cQ x (l.length:Int) lim/\(aR kind l g x).length=0/\aR kind l g x=[]/\0=x/\aR kind l g x=[])/\
  ∀(x:Int),cQ x (l.length:Int) lim->
    (x<min (m:Int) lim->
      bZ l g x 0/\∀(z:Int),bZ l g x z->
         (z<3->0<=z/\z<(3:Nat)/\(z.toNat=0->idx x m)/\(z.toNat=1->qf x m)/\(z.toNat=2->idx x m)/\
                ([bF l x,rule2 l x,bO g x].getD z.toNat 0≠0->
                  ((aR kind l g x).length+[(kind,x,[bF l x,rule2 l x,bO g x].getD z.toNat 0)].length)*24<=140737488355328/\
                   (aR kind l g x).length+[(kind,x,[bF l x,rule2 l x,bO g x].getD z.toNat 0)].length<=9223372036854775807/\
                    inR .i64 (x+1)/\
                     ∃y,cQ y (l.length:Int) lim/\
                       ((aR kind l g x).length+[(kind,x,[bF l x,rule2 l x,bO g x].getD z.toNat 0)].length=(aR kind l g y).length/\
                         x+1=y/\aR kind l g x++[(kind,x,[bF l x,rule2 l x,bO g x].getD z.toNat 0)]=aR kind l g y)/\
                        (lim-y).toNat<(lim-x).toNat)/\
                 ([bF l x,rule2 l x,bO g x].getD z.toNat 0=0->inR .i64 (z+1)/\∃y,bZ l g x y/\z+1=y/\(3-y).toNat<(3-z).toNat))/\
          (¬z<3->inR .i64 (x+1)/\∃y,cQ y (l.length:Int) lim/\((aR kind l g x).length=(aR kind l g y).length/\x+1=y/\aR kind l g x=aR kind l g y)/\(lim-y).toNat<(lim-x).toNat))/\
     (¬x<min (m:Int) lim->
      ((m:Int)>lim->((aR kind l g x).length+[(kind,lim,(2:Int))].length)*24<=140737488355328/\
         (aR kind l g x).length+[(kind,lim,(2:Int))].length<=9223372036854775807/\
          (aR kind l g x++[(kind,lim,2)]).length=(aR kind l g x).length+[(kind,lim,(2:Int))].length/\
           aR kind l g x++[(kind,lim,2)]=bD kind lim l g)/\
       (¬(m:Int)>lim->aR kind l g x=bD kind lim l g)):=by
 subst hm;refine⟨⟨0,⟨qL _,vC _,h1⟩,rfl,rfl,rfl,rfl⟩,λx ⟨x0,x1,x2⟩=>⟨λhlt=>⟨⟨qL _,by decide,λh=>by omega,λh=>by omega,λh=>by omega⟩,λz hz=>⟨λhz3=>?_,λhz3=>?_⟩⟩,λhge=>?_⟩⟩
 .have hk:=pd kind l g x;refine⟨hz.1,by omega,λ_=>⟨x0,by omega⟩,λ_=>⟨x0,by omega,by omega⟩,λ_=>⟨x0,by omega⟩,λhe=>?_,λhe=>⟨⟨by have:=hz.1;omega,by omega⟩,z+1,IP hz hz3 he,rfl,by have:=hz.1;omega⟩⟩
  have e:=R7 hz hz3 he;rw[e]at he ⊢;refine⟨by simp only[wC];omega,by simp only[wC];omega,⟨by omega,by omega⟩,x+1,⟨by omega,by omega,by omega⟩,⟨?_,rfl,(vA x0 he).symm⟩,by omega⟩
  rw[vA x0 he,qG]
 .have e:=ME hz hz3;exact⟨⟨by omega,by omega⟩,x+1,⟨by omega,by omega,by omega⟩,⟨by rw[Bz x0 e],rfl,(Bz x0 e).symm⟩,by omega⟩
 .have hk:=pd kind l g x;have ex:x=min (l.length:Int) lim:=by omega
  refine⟨λh=>⟨by simp only[wC];omega,by simp only[wC];omega,qG,?_⟩,λh=>?_⟩
  .unfold bD I2;rw[if_pos (by omega),<- ex]
  .unfold bD I2;rw[if_neg (by omega),<- ex,wM]
theorem KS6: aj Tryz.prog G0 K6:=
 ai (ag λ(i,(cs,ns,os,fs,ls,ks),_)=>aCX i cs ns os fs ls ks)<|ai (ag λ(i,(cs,ns,os,fs,ls,ks),_)=>aCS i cs ns os fs ls ks)<|ai (ag λ(i,_,cs,_)=>aCN i cs [] [] [] [] []) <|
 ai (ag λ(i,(cs,ns,os,fs,ls,ks),_)=>aCW i cs ns os fs ls ks)<|ai (ag λ(i,(cs,ns,os,fs,ls,ks),_)=>aCR i cs ns os fs ls ks)<|ai (ag λ(i,_,os,_)=>aCM i [] [] os [] [] []) <|
 ai (ag λ(i,(cs,ns,os,fs,ls,ks),_)=>aCV i cs ns os fs ls ks)<|ai (ag λ(i,(cs,ns,os,fs,ls,ks),_)=>aCQ i cs ns os fs ls ks)<|ai (ag λ(i,(cs,ns,os,fs,ls,ks),xs,_)=>af.of_pre λ(h:idx i (Df fs)/\xs=fs)=>by obtain⟨h,rfl⟩:=h;exact(aCL i cs ns os xs ls ks).weaken λ_=>h) <|
 ai (ag λ(i,(cs,ns,os,fs,ls,ks),_)=>aCU i cs ns os fs ls ks)<|ai (ag λ(i,(cs,ns,os,fs,ls,ks),_)=>aCP i cs ns os fs ls ks)<|ai (ag λ(i,(cs,ns,os,fs,ls,ks),xs,_)=>af.of_pre λ(h:idx i (Df ls)/\xs=ls)=>by obtain⟨h,rfl⟩:=h;exact(aCK i cs ns os fs xs ks).weaken λ_=>h) <|
 ai (ag λ(i,(cs,ns,os,fs,ls,ks),_)=>aCT i cs ns os fs ls ks)<|ai (ag λ(i,(cs,ns,os,fs,ls,ks),_)=>aCO i cs ns os fs ls ks)<|ai (ag λ(i,_,ks,_)=>aCJ i [] [] [] [] [] ks)<|KS5
theorem aDl(cs:LC)(ns os:LB)(fs:Lo)(ls:Ll)(ks:Lk): af Tryz.prog G0 187 [.dat I 1,.dat I 6,.dat (.sl C) cs,.fn 186 [.ip N (cs,ns,os,fs,ls,ks)],.fn 161 []] [] ⟨True,.dat (.sl Fa) (bD 1 6 (aA cs ns) (bn cs)),[]⟩:=by
 refine ae (c:=mkc K6) KS6 aL hm (gF cs ns os fs ls ks ⟨rfl,λ_=>?_⟩)
 have hm:(aA cs ns).length=cs.length:=fJ cs ns;simp only[qc,Dh,Es,Di,qd,Dt,Eb,Dy,Dp,Ei,Eh,Ed,Ew,Df,Et,Dl,Dn,Eo,Dz,Dw,Dj,Dq,Ee,Fe,Dc,Dx,Dk,Ec,Em,Du,Eu,Ez,En,Ef,Fg,Fj,Fh,Ep,Ej,Ey,Fb];exact B6 hm (by decide) (by decide)
theorem aDk(cs:LC)(ns os:LB)(fs:Lo)(ls:Ll)(ks:Lk): af Tryz.prog G0 189 [.dat I 2,.dat I 6,.dat (.sl S) os,.fn 188 [.ip N (cs,ns,os,fs,ls,ks)],.fn 190 []] [] ⟨True,.dat (.sl Fa) (bD 2 6 (os) (bU os)),[]⟩:=by
 refine ae (c:=mkc K6) KS6 aL hm (gE cs ns os fs ls ks ⟨rfl,λ_=>?_⟩)
 have hm:(os).length=os.length:=rfl;simp only[qc,Dh,Es,Di,qd,Dt,Eb,Dy,Dp,Ei,Eh,Ed,Ew,Df,Et,Dl,Dn,Eo,Dz,Dw,Dj,Dq,Ee,Fe,Dc,Dx,Dk,Ec,Em,Du,Eu,Ez,En,Ef,Fg,Fj,Fh,Ep,Ej,Ey,Fb];exact B6 hm (by decide) (by decide)
theorem aDj(cs:LC)(ns os:LB)(fs:Lo)(ls:Ll)(ks:Lk): af Tryz.prog G0 192 [.dat I 3,.dat I 12,.dat (.sl Of) fs,.fn 191 [.ip N (cs,ns,os,fs,ls,ks)],.fn 193 [.ip N (cs,ns,os,fs,ls,ks)]] [] ⟨True,.dat (.sl Fa) (bD 3 12 (aC fs) (cP (cs,ns,os,fs,ls,ks))),[]⟩:=by
 refine ae (c:=mkc K6) KS6 aL hm (gD cs ns os fs ls ks ⟨rfl,λ_=>?_⟩)
 have hm:(aC fs).length=fs.length:=map_length _ fs;simp only[qc,Dh,Es,Di,qd,Dt,Eb,Dy,Dp,Ei,Eh,Ed,Ew,Df,Et,Dl,Dn,Eo,Dz,Dw,Dj,Dq,Ee,Fe,Dc,Dx,Dk,Ec,Em,Du,Eu,Ez,En,Ef,Fg,Fj,Fh,Ep,Ej,Ey,Fb];exact B6 hm (by decide) (by decide)
theorem aDi(cs:LC)(ns os:LB)(fs:Lo)(ls:Ll)(ks:Lk): af Tryz.prog G0 196 [.dat I 4,.dat I 40,.dat (.sl Ln) ls,.fn 195 [.ip N (cs,ns,os,fs,ls,ks)],.fn 197 [.ip N (cs,ns,os,fs,ls,ks)]] [] ⟨True,.dat (.sl Fa) (bD 4 40 (aD ls) (cD (cs,ns,os,fs,ls,ks))),[]⟩:=by
 refine ae (c:=mkc K6) KS6 aL hm (fT cs ns os fs ls ks ⟨rfl,λ_=>?_⟩)
 have hm:(aD ls).length=ls.length:=map_length _ ls;simp only[qc,Dh,Es,Di,qd,Dt,Eb,Dy,Dp,Ei,Eh,Ed,Ew,Df,Et,Dl,Dn,Eo,Dz,Dw,Dj,Dq,Ee,Fe,Dc,Dx,Dk,Ec,Em,Du,Eu,Ez,En,Ef,Fg,Fj,Fh,Ep,Ej,Ey,Fb];exact B6 hm (by decide) (by decide)
theorem aDh(cs:LC)(ns os:LB)(fs:Lo)(ls:Ll)(ks:Lk): af Tryz.prog G0 200 [.dat I 5,.dat I 4,.dat (.sl Kl) ks,.fn 199 [.ip N (cs,ns,os,fs,ls,ks)],.fn 201 []] [] ⟨True,.dat (.sl Fa) (bD 5 4 (aE ks) (bv ks)),[]⟩:=by
 refine ae (c:=mkc K6) KS6 aL hm (fI cs ns os fs ls ks ⟨rfl,λ_=>?_⟩)
 have hm:(aE ks).length=ks.length:=map_length _ ks;simp only[qc,Dh,Es,Di,qd,Dt,Eb,Dy,Dp,Ei,Eh,Ed,Ew,Df,Et,Dl,Dn,Eo,Dz,Dw,Dj,Dq,Ee,Fe,Dc,Dx,Dk,Ec,Em,Du,Eu,Ez,En,Ef,Fg,Fj,Fh,Ep,Ej,Ey,Fb];exact B6 hm (by decide) (by decide)
theorem KS7: aj Tryz.prog G0 K7:=
 ai (ag λ(k,m,xs,(cs,ns,os,fs,ls,ks),_,_)=>af.of_pre λ(h:k=1/\m=6/\xs=cs)=>by obtain⟨rfl,rfl,rfl⟩:=h;exact((aDl xs ns os fs ls ks).weaken λ_=>trivial)) <|
 ai (ag λ(k,m,xs,(cs,ns,os,fs,ls,ks),_,_)=>af.of_pre λ(h:k=2/\m=6/\xs=os)=>by obtain⟨rfl,rfl,rfl⟩:=h;exact((aDk cs ns xs fs ls ks).weaken λ_=>trivial)) <|
 ai (ag λ(k,m,xs,(cs,ns,os,fs,ls,ks),n2,_)=>af.of_pre λ(h:k=3/\m=12/\xs=fs/\n2=(cs,ns,os,fs,ls,ks))=>by obtain⟨rfl,rfl,rfl,rfl⟩:=h;exact((aDj cs ns os xs ls ks).weaken λ_=>trivial)) <|
 ai (ag λ(k,m,xs,(cs,ns,os,fs,ls,ks),n2,_)=>af.of_pre λ(h:k=4/\m=40/\xs=ls/\n2=(cs,ns,os,fs,ls,ks))=>by obtain⟨rfl,rfl,rfl,rfl⟩:=h;exact((aDi cs ns os fs xs ks).weaken λ_=>trivial)) <|
 ai (ag λ(k,m,xs,(cs,ns,os,fs,ls,ks),_,_)=>af.of_pre λ(h:k=5/\m=4/\xs=ks)=>by obtain⟨rfl,rfl,rfl⟩:=h;exact((aDh cs ns os fs ls xs).weaken λ_=>trivial))<|KS6
theorem jo(kind lim:Int)(l:List ByteArray)(g:List Bool)(h:0<=lim): (bD kind lim l g).length<=lim.toNat+1:=by
 unfold bD I2;have:=pd kind l g (min l.length lim);rw[qG];split<;>simp only[wC,yP]<;>omega
theorem v7(cs:LC)(ns os:LB)(fs:Lo)(ls:Ll)(ks:Lk): ff (cs,ns,os,fs,ls,ks)=E0 (cs,ns,os,fs,ls,ks)++(bD 1 6 (aA cs ns) (bn cs)++(bD 2 6 os (bU os)++(bD 3 12 (aC fs) (cP (cs,ns,os,fs,ls,ks))++(bD 4 40 (aD ls) (cD (cs,ns,os,fs,ls,ks))++bD 5 4 (aE ks) (bv ks))))):=by
 unfold ff iW;rw[show(Int.toNat 6-1)=5 from rfl,show List.range 5=[0,1,2,3,4]from rfl]
 simp only[qAa,qCz,wM];rfl
theorem Rm(cs:LC)(ns os:LB)(fs:Lo)(ls:Ll)(ks:Lk): af Tryz.prog G0 129 [net cs ns os fs ls ks] [] ⟨True,.buf 0 (Dk (ff (cs,ns,os,fs,ls,ks))),[(0,.buf 177 Fa (ff (cs,ns,os,fs,ls,ks)) [])]⟩:=by
 refine ae (c:=mkc K7) KS7 aL hm (KE cs ns os fs ls ks ⟨rfl,λ_=>?_⟩)
 have h1:=jo 1 6 (aA cs ns) (bn cs) (by decide)
 have h2:=jo 2 6 os (bU os) (by decide)
 have h3:=jo 3 12 (aC fs) (cP (cs,ns,os,fs,ls,ks)) (by decide)
 have h4:=jo 4 40 (aD ls) (cD (cs,ns,os,fs,ls,ks)) (by decide)
 have h5:=jo 5 4 (aE ks) (bv ks) (by decide)
 rw[v7];simp only[qc,Dh,Es,Di,qd,Dt,Eb,Dy,Dp,Ei,Eh,Ed,Ew,Df,Et,Dl,Dn,Eo,Dz,Dw,Dj,Dq,Ee,Fe,Dc,Dx,Dk,Ec,Em,Du,Eu,Ez,En,Ef,Fg,Fj,Fh,Ep,Ej,Ey,Fb];refine⟨λhne=>?_,λhe=>?_⟩
 .rw[show E0 (cs,ns,os,fs,ls,ks)=[(1,-1,1)]from if_neg λe=>hne (yA Int.ofNat e)]
  generalize bD 1 6 _ _=a1 at *;generalize bD 2 6 _ _=a2 at *;generalize bD 3 12 _ _=a3 at *;generalize bD 4 40 _ _=a4 at *;generalize bD 5 4 _ _=a5 at *;simp only[qG,wC,wL]
  and_intros<;>first | omega | rfl
 .rw[show E0 (cs,ns,os,fs,ls,ks)=[]from if_pos (Int.ofNat.inj he)]
  generalize bD 1 6 _ _=a1 at *;generalize bD 2 6 _ _=a2 at *;generalize bD 3 12 _ _=a3 at *;generalize bD 4 40 _ _=a4 at *;generalize bD 5 4 _ _=a5 at *;simp only[qG,xJ,wL]
  and_intros<;>first | omega | rfl
end Go.Eng.Sv
set_option maxRecDepth 100000
noncomputable section
namespace Go.Eng.Sv
open Go.Proofs
abbrev M: Ty:=.sl R
def upN(k n:Int): Prop:=0<=k/\k<=n
def aW(n:Net)(k i:Int): List ByteArray:=(aP n k).take i.toNat
def HY(cs:List (Int×List Bool×Li))(k:Int): Prop:=0<=k/\k<=cs.length/\(cs.take k.toNat).all (λc=>gn c.2.1 c.2.2)=true
def Hg(fs:Lo)(k:Int): Prop:=0<=k/\k<=fs.length/\(fs.take k.toNat).all (λo=>decide (o.2.2.2.2.2.2.length<=30))=true
def mF(l:List ByteArray): Bool:=l.all λs=>decide (s.size<=40)
def yh(n:Net)(k:Int): Prop:=1<=k/\k<=6/\∀j:Int,1<=j->j<k->mF (aP n j)=true
def SZ(l:List ByteArray)(i:Int): Prop:=0<=i/\i<=l.length/\mF (l.take i.toNat)=true
def J0(n:Net): Bool:=mN n&&(n.1.all λc=>gn c.2.1 c.2.2)&&(n.2.2.2.1.all λo=>decide (o.2.2.2.2.2.2.length<=30))&&mF (aP n 1)&&mF (aP n 2)&&mF (aP n 3)&&mF (aP n 4)&&mF (aP n 5)
def nJ(a b:Lj): Bool:=a==b
def xk(a b:Lj)(k:Int): Prop:=0<=k/\k<=a.length/\a.length=b.length/\a.length<=1000000/\a.take k.toNat=b.take k.toNat
def xn(a b:Lj)(i k:Int): Prop:=0<=k/\k<=(a.getD i.toNat []).length/\(a.getD i.toNat []).length=(b.getD i.toNat []).length/\(a.getD i.toNat []).length<=1000000/\(a.getD i.toNat []).take k.toNat=(b.getD i.toNat []).take k.toNat
def mild(a:Lj): Prop:=a.length<=1000000/\∀r∈a,r.length<=1000000
def noF(n:Net): Bool:=(ff n).isEmpty
def K8: Kt:=kOr 129 (N4 [.row N] (λ_=>True) (λ(n,_)=>.buf 0 (Dk (ff n))) λ(n,_)=>.buf 177 Fa (ff n) []) K7
def Nc(n:Net)(k:Int)(loop slot:Nat)(st:St)(xs:List ByteArray): Option Spec:=some {α:=Int,inv:=λi=>upN i (Df (aP n k)),st:=λi=>ie (put st [(slot,.dat I i),(5,.buf 100 (Dk (aW n k i)))]) 100 (.buf 9 S (aW n k i) []),μ:=λi=>Dc (Dj (Df (aP n k)) i)}
def aAS(n:Net): Ann:=⟨λid st=>match id with
 | 5=>Nc n 1 5 6 st []
 | 12=>Nc n 2 12 7 st []
 | 17=>Nc n 3 17 8 st []
 | 22=>Nc n 4 22 9 st []
 | 27=>Nc n 5 27 10 st []
 | _=>none,λ_ _=>none,λ_ _=>none⟩
def aAp(a b:Lj): Ann:=⟨λid st=>match id with
 | 4=>some {α:=Int,inv:=λk=>xk a b k,st:=λk=>put st [(5,.dat I k)],μ:=λk=>Dc (Dj (Df a) k)}
 | 9=>match st.sig.T 5 with
  | .dat (.int .i64) i=>some {α:=Int,inv:=λk=>xn a b i k,st:=λk=>put st [(6,.dat I k)],μ:=λk=>Dc (Dj (Df (Du a (Dc i) [])) k)}
  | _=>none
 | _=>none,λ_ _=>none,λ_ _=>none⟩
def aFd(n:Net): Ann:=⟨λid st=>match id with
 | 4=>some {α:=Int,inv:=λk=>HY n.1 k,st:=λk=>put st [(3,.dat I k)],μ:=λk=>Dc (Dj (Df n.1) k)}
 | 9=>some {α:=Int,inv:=λk=>Hg n.2.2.2.1 k,st:=λk=>put st [(4,.dat I k)],μ:=λk=>Dc (Dj (Df n.2.2.2.1) k)}
 | 14=>some {α:=Int,inv:=λk=>yh n k,st:=λk=>put st [(5,.dat I k)],μ:=λk=>Dc (Dj 6 k)}
 | 18=>match st.sig.T 5 with
  | .dat (.int .i64) k=>some {α:=Int,inv:=λi=>SZ (aP n k) i,st:=λi=>put st [(7,.dat I i)],μ:=λi=>Dc (Dj (Df (aP n k)) i)}
  | _=>none
 | _=>none,λ_ _=>none,λ_ _=>none⟩
def K12: Kt:=K8
theorem KS8: aj Tryz.prog G0 K8:=ai (N3 λ((cs,ns,os,fs,ls,ks),_)=>Rm cs ns os fs ls ks) KS7
theorem Ek{n:Net}{k i:Int}(h0:0<=i)(h1:i<=(aP n k).length): (aW n k i).length=i.toNat:=by
 unfold aW;rw[qI];omega
theorem Bg{n:Net}{k i:Int}(h0:0<=i)(h1:i<(aP n k).length): aW n k (i+1)=aW n k i++[(aP n k).getD i.toNat ⟨#[]⟩]:=by
 unfold aW;rw[show(i+1).toNat=i.toNat+1 by omega,wX,qA,qB (show i.toNat<(aP n k).length by omega)]
 rfl
theorem EA{n:Net}{k i:Int}(h1:i<=(aP n k).length)(h2:¬i<(aP n k).length): aW n k i=aP n k:=by
 unfold aW;exact qO (by omega)
theorem Be{n:Net}{k:Int}{m:Nat}{el:Int->ByteArray}(hl:(aP n k).length=m)(hm:m<=100)(he:∀x,0<=x->x<(m:Int)->(aP n k).getD x.toNat ⟨#[]⟩=el x){R:List ByteArray}(hR:R=aP n k):
  (∃x,upN x (aP n k).length/\(aW n k x).length=0/\aW n k x=[]/\0=x/\aW n k x=[])/\
   ∀(x:Int),upN x (aP n k).length->
    (x<(m:Int)->0<=x/\x<(m:Int)/\((aW n k x).length+[el x].length)*16<=140737488355328/\(aW n k x).length+[el x].length<=9223372036854775807/\inR .i64 (x+1)/\
     ∃y,upN y (aP n k).length/\((aW n k x).length+[el x].length=(aW n k y).length/\x+1=y/\aW n k x++[el x]=aW n k y)/\(((aP n k).length:Int)-y).toNat<(((aP n k).length:Int)-x).toNat)/\
    (¬x<(m:Int)->aW n k x=R):=by
 refine⟨⟨0,⟨qL _,vC _⟩,rfl,rfl,rfl,rfl⟩,λx ⟨h0,h1⟩=>⟨λhlt=>?_,λhge=>by rw[hR];exact EA h1 (by omega)⟩⟩
 have e1:=Ek h0 h1;have e2:=Bg h0 (show x<((aP n k).length:Int) by omega)
 rw[he x h0 hlt]at e2;refine⟨h0,hlt,by simp only[wC];omega,by simp only[wC];omega,⟨by omega,by omega⟩,x+1,⟨by omega,by omega⟩,⟨by rw[e2,qG],rfl,e2.symm⟩,by omega⟩
theorem yW(cs:LC)(ns os:LB)(fs:Lo)(ls:Ll)(ks:Lk)(hp:mN (cs,ns,os,fs,ls,ks)=true): cs.length<=10/\ns.length<=10/\os.length<=10/\fs.length<=16/\ls.length<=50/\ks.length<=8:=wJ hp
theorem getD_mem{α:Type}{l:List α}{i:Nat}{d:α}(h:i<l.length): l.getD i d∈l:=by
 rw[qA,qB h];exact wQ h
theorem iK{α:Type}{a b:List α}{k:Nat}{d:α}(h:a.take k=b.take k)(ha:k<a.length)(hb:k<b.length)(he:a.getD k d=b.getD k d): a.take (k+1)=b.take (k+1):=by
 rw[qA,qA,qB ha,qB hb]at he;have he':a[k]=b[k]:=he;rw[wX,wX,qB ha,qB hb,h,he']
theorem xj{a b:Lj}(h:a≠b): false=nJ a b:=by unfold nJ;exact(qAf.2 h).symm
theorem HI{n:Net}(h:J0 n=true->False): false=J0 n:=by
 cases e:J0 n with
 | false=>rfl
 | true=>exact(h e).elim
theorem oj{n:Net}: J0 n=true↔mN n=true/\(n.1.all λc=>gn c.2.1 c.2.2)=true/\(n.2.2.2.1.all λo=>decide (o.2.2.2.2.2.2.length<=30))=true/\∀j:Int,1<=j->j<6->mF (aP n j)=true:=by
 unfold J0;simp only[qC,qDe];constructor
 .rintro⟨h1,h2,h3,h4,h5,h6,h7,h8⟩;refine⟨h1,h2,h3,λj j1 j2=>?_⟩
  have hc:j=1\/j=2\/j=3\/j=4\/j=5:=by omega
  rcases hc with rfl | rfl | rfl | rfl | rfl<;>assumption
 .rintro⟨h1,h2,h3,h4⟩;exact⟨h1,h2,h3,h4 1 (by decide) (by decide),h4 2 (by decide) (by decide),h4 3 (by decide) (by decide),h4 4 (by decide) (by decide),h4 5 (by decide) (by decide)⟩
theorem Br(k:Int): 4<=iQ k/\iQ k<=40:=by unfold iQ;split<;>(try split)<;>(try split)<;>omega
theorem y4{n:Net}{k:Int}(h:1<=k): iW n (k+1)=iW n k++bD k (iQ k) (aP n k) (NU n k):=by
 unfold iW;rw[show(k+1).toNat-1=(k.toNat-1)+1 by omega,zT,qAg,<- wL]
 congr 1
 simp only[qAa,qCz,wM];rw[show((k.toNat-1:Nat):Int)+1=k by omega]
theorem BP(n:Net): ∀(j:Nat),(iW n (j+1)).length<=1+41*j
 | 0=>by
  have e:iW n ((0:Nat)+1)=E0 n:=by unfold iW;simp
  rw[e];unfold E0;split<;>simp
 | j+1=>by
  have ih:=BP n j;have e:=y4 (n:=n) (k:=(j:Int)+1) (by omega)
  have h1:=(Br ((j:Int)+1)).1;have h2:=(Br ((j:Int)+1)).2;have:=jo ((j:Int)+1) (iQ ((j:Int)+1)) (aP n ((j:Int)+1)) (NU n ((j:Int)+1)) (by omega)
  rw[show(((j+1:Nat):Int)+1)=(j:Int)+1+1 by omega,e,qG]
  omega
theorem aES: aj Tryz.prog G0 K12:=KS8
end Go.Eng.Sv
set_option maxRecDepth 100000
noncomputable section
namespace Go.Eng.Mp
open Go.Proofs
open Go.Eng.Sv (I R M G0 KI0)
open Go.Eng.Sv (aL hm)
def cT(x:Int): Bool:=decide (x<=-549755813888)
def pu(x:Int): Bool:=cT x||(decide (x≥-1000000000)&&decide (x<=1000000000))
def ig(x y:Int): Int:=bif cT x&&cT y then -1099511627776 else max x y
def iJ(x y:Int): Int:=bif cT x||cT y then -1099511627776 else x+y
def rK(x y:Int): Prop:=cT x=false->cT y=false->inR .i64 (x+y)
def dJ(x y:Bool): Bool:=x||y
def m6{α:Type}(op:α->α->α)(g:Int->α)(z:α): Nat->α
 | 0=>z
 | k+1=>op (m6 op g z k) (g k)
def iC(op:Bool->Bool->Bool)(g:Int->Bool)(z:Bool)(n:Int): Bool:=m6 op g z n.toNat
def gP(n:Int)(preP:Bool->Bool->Prop)(preT:Int->Prop)(g:Int->Bool): Prop:=n<=9223372036854775807/\∀k,0<=k->k<n->preT k/\∀x,preP x (g k)
def upto(k n:Int): Prop:=0<=k/\(k<=n\/k=0)
def idx(k:Int)(row:Li): Prop:=0<=k/\k<(row.length:Int)
def at1(row:Li)(k:Int): Int:=row.getD k.toNat 0
def jP(row:Li)(k:Int): Bool:=!(pu (at1 row k))
def mD(row:Li): Bool:=iC dJ (jP row) false row.length
def Nx(row:Li): Prop:=(row.length:Int)<=9223372036854775807
def K0: Kt:=λ_ _ _=>none
def c0: Cfg:=Sv.mkc K0
theorem Z4(x:Int)(hvc:
 true/\(True->Eh x (-549755813888)=cT x/\True)):
  evF c0 az 260 [.dat I x] [] ⟨True,.dat .bool (cT x),[]⟩:=oE hvc
theorem KS0: aj Tryz.prog G0 K0:=λf args m c h=>by cases h
theorem aDq(x:Int): af Tryz.prog G0 260 [.dat I x] [] ⟨True,.dat .bool (cT x),[]⟩:=
 ae (c:=c0) KS0 aL hm (Z4 x ⟨rfl,λ_=>⟨rfl,trivial⟩⟩)
theorem KJ(x y:Bool)(hvc:
 true/\(True->(Dh true (Di x)->Di x)/\Ea x true y=dJ x y/\True)):
  evF c0 az 262 [.dat .bool x,.dat .bool y] [] ⟨True,.dat .bool (dJ x y),[]⟩:=oE hvc
theorem GU(x y:Bool): af Tryz.prog G0 262 [.dat .bool x,.dat .bool y] [] ⟨True,.dat .bool (dJ x y),[]⟩:=
 ae (c:=c0) KS0 aL hm (KJ x y (by cases x<;>cases y<;>simp[dJ]))
def aA5(n:Int)(z:Bool)(op:Bool->Bool->Bool)(g:Int->Bool): Ann:=⟨λid s=>match id with
 | 3=>some {α:=Int,inv:=λk=>upto k n,st:=λk=>put s [(13,.dat I k),(9,.dat .bool (iC op g z k))],μ:=λk=>Dc (Dj n k)}
 | _=>none,λ_ _=>none,λ_ _=>none⟩
theorem Qz(n:Int)(z:Bool)(preP:Bool->Bool->Prop)(op:Bool->Bool->Bool)(preT:Int->Prop)(g:Int->Bool)(hvc:
 true/\(gP n preP preT g->(∃x,upto x n/\AV.clo2 Ty.bool Ty.bool Ty.bool preP op=AV.clo2 Ty.bool Ty.bool Ty.bool preP op/\AV.clo1 (Ty.int IntKind.i64) Ty.bool preT g=AV.clo1 (Ty.int IntKind.i64) Ty.bool preT g/\false=false/\z=iC op g z x/\n=n/\0=x/\True)/\∀(x:Int),let c1:=iC op g z x;let c2:=x+1;upto x n->(Dp x n->preT x/\preP c1 (g x)/\inR .i64 c2/\∃y,upto y n/\(AV.clo2 Ty.bool Ty.bool Ty.bool preP op=AV.clo2 Ty.bool Ty.bool Ty.bool preP op/\AV.clo1 (Ty.int IntKind.i64) Ty.bool preT g=AV.clo1 (Ty.int IntKind.i64) Ty.bool preT g/\false=false/\op c1 (g x)=iC op g z y/\n=n/\c2=y/\True)/\Dc (n-y)<Dc (n-x))/\(Dp x n=false->c1=iC op g z n/\True))):
  evF c0 (lvA [(3,[2,3,8,9,10,12,13])] (aA5 n z op g)) 261 [.dat I n,.dat .bool z,.clo2 .bool .bool .bool preP op,.clo1 I .bool preT g] [] ⟨gP n preP preT g,.dat .bool (iC op g z n),[]⟩:=oE hvc
theorem Jn(op:Bool->Bool->Bool)(g:Int->Bool)(z:Bool): iC op g z 0=z:=rfl
theorem Jo(op:Bool->Bool->Bool)(g:Int->Bool)(z:Bool)(k:Int)(h:0<=k): iC op g z (k+1)=op (iC op g z k) (g k):=by
 unfold iC;have e:(k+1).toNat=k.toNat+1:=by omega
 rw[e];show op _ (g (k.toNat:Int))=_;rw[qR h]
theorem N5(op:Bool->Bool->Bool)(g:Int->Bool)(z:Bool)(k n:Int)(h:upto k n)(h2:¬k<n): iC op g z k=iC op g z n:=by
 unfold iC;unfold upto at h;have e:k.toNat=n.toNat:=by omega
 rw[e]
theorem XJ(n:Int)(z:Bool)(preP:Bool->Bool->Prop)(op:Bool->Bool->Bool)(preT:Int->Prop)(g:Int->Bool):
  af Tryz.prog G0 261 [.dat I n,.dat .bool z,.clo2 .bool .bool .bool preP op,.clo1 I .bool preT g] [] ⟨gP n preP preT g,.dat .bool (iC op g z n),[]⟩:=by
 refine ae (c:=c0) KS0 aL hm (Qz n z preP op preT g ⟨rfl,λhp=>⟨⟨0,⟨by omega,.inr rfl⟩,?_⟩,λx hx=>⟨λhlt=>?_,λhge=>?_⟩⟩⟩)
 .simp[Jn]
 .have hlt:x<n:=by simpa using hlt
  have h0:=hx.1;obtain⟨p1,p2⟩:=hp.2 x h0 hlt;refine⟨p1,p2 _,?_,x+1,⟨by omega,.inl (by omega)⟩,?_,?_⟩
  .have:=hp.1;simp only[inR,Dq];omega
  .simp[Jo op g z x h0]
  .simp only[Dw,Dc,Dj];omega
 .have hge:¬x<n:=by simpa using hge
  exact⟨N5 op g z x n hx hge,trivial⟩
def K1: Kt:=λf args m=>match f,args,m with
 | 260,[.dat (.int .i64) x],[]=>some ⟨True,.dat .bool (cT x),[]⟩
 | 262,[.dat .bool x,.dat .bool y],[]=>some ⟨True,.dat .bool (dJ x y),[]⟩
 | _,_,_=>none
def c1: Cfg:=Sv.mkc K1
theorem Wh(x:Int)(hvc:
 let c1:=Ed x (-1000000000);true/\(True->True/\(Di (cT x)->Di (cT x)->Di (cT x))/\(Di (cT x)->Di (cT x)->Di (cT x))/\(Dh (Di (cT x)) c1->Dh (Di (cT x)) c1->Dh (Di (cT x)) c1)/\(Di (cT x)->Di (cT x)->Di (cT x))/\(Di (cT x)->Dh (Di (cT x)) c1->Dh (Di (cT x)) c1)/\(Dh true (Di (cT x))->Di (cT x))/\Ea (cT x) true (Ea c1 (Eh x 1000000000) false)=pu x/\True)):
  evF c1 az 289 [.dat I x] [] ⟨True,.dat .bool (pu x),[]⟩:=oE hvc
theorem KS1: aj Tryz.prog G0 K1:=by
 intro f args m c h;unfold K1 at h;split at h
 .cases h;exact aDq _
 .cases h;exact GU _ _
 .cases h
theorem aAy(x:Int): af Tryz.prog G0 289 [.dat I x] [] ⟨True,.dat .bool (pu x),[]⟩:=
 ae (c:=c1) KS1 aL hm (Wh x (by cases h:cT x<;>simp[pu,h,Bool.cond_eq_ite]))
theorem VV(x y:Int)(hvc:
 let c1:=Ea (cT x) (cT y) false;true/\(True->True/\(cT x->cT x->cT x)/\(cT x->True)/\(Dh true (cT x)->cT x)/\(c1->(-1099511627776:Int)=ig x y/\True)/\(c1=false->Ez x y=ig x y/\True))):
  evF c1 az 215 [.dat I x,.dat I y] [] ⟨True,.dat I (ig x y),[]⟩:=oE hvc
theorem aAt(x y:Int): af Tryz.prog G0 215 [.dat I x,.dat I y] [] ⟨True,.dat I (ig x y),[]⟩:=
 ae (c:=c1) KS1 aL hm (VV x y (by cases h:cT x<;>cases h2:cT y<;>simp[ig,h,h2]))
theorem P2(x y:Int)(hvc:
 let c1:=Ea (cT x) true (cT y);true/\(rK x y->True/\(Di (cT x)->Di (cT x)->Di (cT x))/\(Di (cT x)->True)/\(Dh true (Di (cT x))->Di (cT x))/\(c1->(-1099511627776:Int)=iJ x y/\True)/\(c1=false->inR .i64 (x+y)/\x+y=iJ x y/\True))):
  evF c1 az 218 [.dat I x,.dat I y] [] ⟨rK x y,.dat I (iJ x y),[]⟩:=oE hvc
theorem XD(x y:Int): af Tryz.prog G0 218 [.dat I x,.dat I y] [] ⟨rK x y,.dat I (iJ x y),[]⟩:=
 ae (c:=c1) KS1 aL hm (P2 x y (by cases h:cT x<;>cases h2:cT y<;>simp[iJ,rK,h,h2]))
def K2: Kt:=λf args m=>match f,args,m with
 | 289,[.dat (.int .i64) x],[]=>some ⟨True,.dat .bool (pu x),[]⟩
 | 215,[.dat (.int .i64) x,.dat (.int .i64) y],[]=>some ⟨True,.dat I (ig x y),[]⟩
 | 218,[.dat (.int .i64) x,.dat (.int .i64) y],[]=>some ⟨rK x y,.dat I (iJ x y),[]⟩
 | _,_,_=>K1 f args m
def c2: Cfg:=Sv.mkc K2
theorem J7(k:Int)(row:Li)(hvc:
 true/\(idx k row->0<=k/\k<Df row/\True/\Di (pu (Du row (Dc k) 0))=jP row k/\True)):
  evF c2 az 288 [.dat I k,.ip R row] [] ⟨idx k row,.dat .bool (jP row k),[]⟩:=oE hvc
theorem KS2: aj Tryz.prog G0 K2:=by
 intro f args m c h;unfold K2 at h;split at h
 .cases h;exact aAy _
 .cases h;exact aAt _ _
 .cases h;exact XD _ _
 .exact KS1 _ _ _ _ h
theorem RJ(k:Int)(row:Li): af Tryz.prog G0 288 [.dat I k,.ip R row] [] ⟨idx k row,.dat .bool (jP row k),[]⟩:=
 ae (c:=c2) KS2 aL hm (J7 k row ⟨rfl,λh=>⟨h.1,h.2,trivial,rfl,trivial⟩⟩)
theorem MQ{P:Program}{C:Ctx}{a b x y x' y':AV}{us:Lv}(h:AV.relL P C [a,b,x,y] us)(hx:∀v,x.rel P C v->x'.rel P C v)(hy:∀v,y.rel P C v->y'.rel P C v): AV.relL P C [a,b,x',y'] us:=by
 obtain⟨u,us,rfl,h1,u2,us,rfl,h2,u3,us,rfl,h3,u4,us,rfl,h4,h5⟩:=h;exact⟨_,_,rfl,h1,_,_,rfl,h2,_,_,rfl,hx _ h3,_,_,rfl,hy _ h4,h5⟩
theorem Jq{C:Ctx}(hG:jK Tryz.prog C G0){v:Value}(h:(AV.fn 262 []).rel Tryz.prog C v): (AV.clo2 .bool .bool .bool (λ_ _=>True) dJ).rel Tryz.prog C v:=
 jz (by kernel_rfl) rfl (λx y=>GU x y) hG h
theorem u5(n:Int)(z:Bool){f:FuncId}{caps:List AV}(preT:Int->Prop)(g:Int->Bool)(hg:goes Tryz.prog f=true)(hn:AV.namesL caps=[])(h:∀k,af Tryz.prog G0 f (.dat I k::caps) [] ⟨preT k,.dat .bool (g k),[]⟩):
  af Tryz.prog G0 261 [.dat I n,.dat .bool z,.fn 262 [],.fn f caps] [] ⟨gP n (λ_ _=>True) preT g,.dat .bool (iC dJ g z n),[]⟩:=
 (XJ n z _ dJ preT g).args λ_ _ hG hu=>MQ hu (λ_ h=>Jq hG h) (λ_ hv=>jA hg hn h hG hv)
def K3: Kt:=λf args m=>match f,args,m with
 | 261,[.dat (.int .i64) n,.dat .bool z,.fn 262 [],.fn 288 [.ip (.sl (.int .i64)) row]],[]=>some ⟨gP n (λ_ _=>True) (λk=>idx k row) (jP row),.dat .bool (iC dJ (jP row) z n),[]⟩
 | _,_,_=>K2 f args m
def c3: Cfg:=Sv.mkc K3
theorem PN(row:Li)(hvc:
 true/\(Nx row->gP (Df row) (λx x_1↦True) (λk↦idx k row) (jP row)/\iC dJ (jP row) false (Df row)=mD row/\True)):
  evF c3 az 259 [.dat R row] [] ⟨Nx row,.dat .bool (mD row),[]⟩:=oE hvc
theorem KS3: aj Tryz.prog G0 K3:=by
 intro f args m c h;unfold K3 at h;split at h
 .cases h;exact u5 _ _ _ _ (by kernel_rfl) rfl (λk=>RJ k _)
 .exact KS2 _ _ _ _ h
theorem XB(row:Li): af Tryz.prog G0 259 [.dat R row] [] ⟨Nx row,.dat .bool (mD row),[]⟩:=
 ae (c:=c3) KS3 aL hm (PN row ⟨rfl,λh=>⟨⟨h,λk h0 h1=>⟨⟨h0,h1⟩,λ_=>trivial⟩⟩,rfl,trivial⟩⟩)
def aK(g:Int->Int->Int)(n:Int): Lj:=(List.range n.toNat).map λi:Nat=>(List.range n.toNat).map λj:Nat=>g i j
def ct(g:Int->Int->Int)(n i:Int): Lj:=(aK g n).take i.toNat++List.replicate (n.toNat-i.toNat) []
def pM(g:Int->Int->Int)(n i j:Int): Li:=((List.range n.toNat).map λj:Nat=>g i j).take j.toNat++List.replicate (n.toNat-j.toNat) 0
def bz(n:Int)(preT:Int->Int->Prop): Prop:=0<=n/\n<=1000000/\∀i j,0<=i->i<n->0<=j->j<n->preT i j
def aBp(n:Int)(g:Int->Int->Int): Ann:=⟨λid s=>match id with
 | 3=>some {α:=Int,inv:=λk=>upto k n,st:=λk=>ie (put s [(11,.dat I k),(5,.buf 0 (Dc n))]) 0 (.buf 36 R (ct g n k) []),μ:=λk=>Dc (Dj n k)}
 | 7=>match s.sig.T 6 with
  | .dat (.int .i64) i=>some {α:=Int,inv:=λk=>upto k n,st:=λk=>ie (put s [(20,.dat I k)]) 1 (.buf 3 I (pM g n i k) []),μ:=λk=>Dc (Dj n k)}
  | _=>none
 | _=>none,λ_ _=>none,λ_ _=>none⟩
theorem QL (n : Int) (preT : Int → Int → Prop) (g : Int → Int → Int) (hvc :
 let c1 := Ep n (0 : Int); true = true ∧ (bz n preT → Dl (0 : Int) n ∧ Dl (Ee (Dx (24)) n) (281474976710656 : Int) ∧ Dl n
  (9223372036854775807 : Int) ∧ (∃ x, upto x n ∧ n = n ∧ AV.clo2 (Ty.int IntKind.i64) (Ty.int IntKind.i64) (Ty.int IntKind.i64) preT g = AV.clo2 (Ty.int
  IntKind.i64) (Ty.int IntKind.i64) (Ty.int IntKind.i64) preT g ∧ Value.slice none (0) (0) = Value.slice none (0) (0) ∧ Dc n = Dc n ∧ n = n ∧ (0 : Int) = x
  ∧ Ep n (Dt Int) = ct g n x ∧ True) ∧ ∀ (x : Int),
 let c2 := Dk (ct g n x);
 let c3 := Dq x (1 : Int); upto x n → (Dp x n = true → Dl (0 : Int) n ∧ Dl (Ee (Dx (8)) n) (281474976710656 : Int) ∧ Dl n
  (9223372036854775807 : Int) ∧ c2 = Dc n ∧ Dl (0 : Int) x ∧ Dn x (Dx c2) ∧ c2 = Dc n ∧ Dk c1 = Dc n ∧ (∃ x_3, upto x_3 n ∧ n = n ∧ AV.clo2
  (Ty.int IntKind.i64) (Ty.int IntKind.i64) (Ty.int IntKind.i64) preT g = AV.clo2 (Ty.int IntKind.i64) (Ty.int IntKind.i64) (Ty.int IntKind.i64) preT g ∧
  Value.slice none (0) (0) = Value.slice none (0) (0) ∧ Dc n = Dc n ∧ x = x ∧ n = n ∧ x = x ∧ n = n ∧ (0 : Int) = x_3 ∧ ct g n x = ct g n x ∧ Dc x
  = Dc x ∧ Dc n = Dc n ∧ c1 = pM g n x x_3 ∧ True) ∧ ∀ (x_3 : Int),
 let c4 := pM g n x x_3;
 let c5 := Dk c4;
 let c6 := Dq x_3 (1 : Int); upto x_3 n → (Dp x_3 n = true → c2 = Dc n ∧ Dl (0 : Int) x ∧ Dn x (Dx c2) ∧ c2 = Dc n ∧ Dc x = Dc x ∧ preT
  x x_3 ∧ c5 = Dc n ∧ Dl (0 : Int) x_3 ∧ Dn x_3 (Dx c5) ∧ c5 = Dc n ∧ inR .i64 c6 ∧ ∃ y, upto y n ∧ (n = n ∧ AV.clo2 (Ty.int IntKind.i64)
  (Ty.int IntKind.i64) (Ty.int IntKind.i64) preT g = AV.clo2 (Ty.int IntKind.i64) (Ty.int IntKind.i64) (Ty.int IntKind.i64) preT g ∧ Value.slice none (0) (0) =
  Value.slice none (0) (0) ∧ Dc n = Dc n ∧ x = x ∧ n = n ∧ x = x ∧ n = n ∧ c6 = y ∧ ct g n x = ct g n x ∧ Dc x = Dc x ∧ Dc n = Dc n ∧
  En c4 (Dc x_3) (g x x_3) = pM g n x y ∧ True) ∧ Dw (Dc (Dj n y)) (Dc (Dj n x_3))) ∧ (Dp x_3 n = false → inR .i64 c3 ∧ ∃ y, upto
  y n ∧ (n = n ∧ AV.clo2 (Ty.int IntKind.i64) (Ty.int IntKind.i64) (Ty.int IntKind.i64) preT g = AV.clo2 (Ty.int IntKind.i64) (Ty.int IntKind.i64) (Ty.int
  IntKind.i64) preT g ∧ Value.slice none (0) (0) = Value.slice none (0) (0) ∧ Dc n = Dc n ∧ n = n ∧ c3 = y ∧ c5 = Dc n ∧ En (ct g n x) (Dc x)
  c4 = ct g n y ∧ True) ∧ Dw (Dc (Dj n y)) (Dc (Dj n x)))) ∧ (Dp x n = false → c2 = Dc n ∧ ct g n x = aK g n ∧ True))) :
    evF c0 (lvA [(3, [0, 1, 4, 5, 6, 7, 10, 11, 19, 20]), (7, [0, 1, 4, 5, 6, 7, 10, 11, 19, 20])] (aBp n g)) 213 [.dat I n, .clo2 I I I preT g] [] ⟨bz n preT, .dat M (aK g n), []⟩ := oE hvc
theorem yy{α:Type}(xs:List α)(d v:α)(k:Nat)(hk:xs[k]?=some v): (xs.take k++List.replicate (xs.length-k) d).set k v=xs.take (k+1)++List.replicate (xs.length-(k+1)) d:=by
 obtain⟨h,e⟩:=qF.1 hk;have e2:xs.length-k=(xs.length-(k+1))+1:=by omega
 rw[e2,qBf,List.set_append_right _ _ (by simp;omega)]
 simp[wX,hk,yX (Nat.le_of_lt h)]
theorem fK(g:Int->Int->Int)(n:Int): (aK g n).length=n.toNat:=by simp[aK]
theorem lh(g:Int->Int->Int)(n x:Int)(h:upto x n): (ct g n x).length=n.toNat:=by
 have:=h.1;have:=h.2;simp only[ct,qG,qI,wG,fK];omega
theorem lX(g:Int->Int->Int)(n i x:Int)(h:upto x n): (pM g n i x).length=n.toNat:=by
 have:=h.1;have:=h.2;simp only[pM,qG,qI,wG,vV,vX];omega
theorem lW(g:Int->Int->Int)(n:Int): ct g n 0=List.replicate n.toNat []:=by simp[ct]
theorem sf(g:Int->Int->Int)(n i:Int): pM g n i 0=List.replicate n.toNat 0:=by simp[pM]
theorem sg(g:Int->Int->Int)(n i j:Int)(h0:0<=j)(h1:j<n): (pM g n i j).set j.toNat (g i j)=pM g n i (j+1):=by
 have e:(j+1).toNat=j.toNat+1:=by omega
 have:=yy ((List.range n.toNat).map λj:Nat=>g i j) 0 (g i j) j.toNat (by
  rw[qP,vY (by omega)];simp[qR h0])
 simp only[vV,vX]at this;unfold pM;rw[e];exact this
theorem Si(g:Int->Int->Int)(n i j:Int)(h:upto j n)(h1:¬j<n): pM g n i j=(List.range n.toNat).map λj:Nat=>g i j:=by
 have:=h.1;have:=h.2;have e:j.toNat=n.toNat:=by omega
 unfold pM;rw[e,qO (by simp)];simp
theorem oR(g:Int->Int->Int)(n i j:Int)(h0:0<=i)(h1:i<n)(h:upto j n)(h2:¬j<n): (ct g n i).set i.toNat (pM g n i j)=ct g n (i+1):=by
 have e:(i+1).toNat=i.toNat+1:=by omega
 rw[Si g n i j h h2];have:=yy (aK g n) [] ((List.range n.toNat).map λj:Nat=>g i j) i.toNat (by
  unfold aK;rw[qP,vY (by omega)];simp[qR h0])
 rw[fK]at this;unfold ct;rw[e];exact this
theorem sd(g:Int->Int->Int)(n i:Int)(h:upto i n)(h1:¬i<n): ct g n i=aK g n:=by
 have:=h.1;have:=h.2;have e:i.toNat=n.toNat:=by omega
 unfold ct;rw[e,qO (by rw[fK];exact qJ _)];simp
theorem XK (n : Int) (preT : Int → Int → Prop) (g : Int → Int → Int) : af Tryz.prog G0 213 [.dat I n, .clo2 I I I preT g] [] ⟨bz n preT, .dat M (aK g n), []⟩ := by
  refine ae (c := c0) KS0 aL hm (QL n preT g ⟨rfl, fun hp => ?_⟩)
  obtain ⟨p1, p2, p3⟩ := hp
  refine ⟨p1, by simp only [Dl, Ee, Dx]; omega, by simp only [Dl]; omega, ⟨0, ⟨by omega, .inr rfl⟩, ?_⟩, fun x hx => ⟨fun hlt => ?_, fun hge => ?_⟩⟩
  · simp [lW]
  · have hlt : x < n := by simpa using hlt
    have h0 := hx.1
    have hl := lh g n x hx
    refine ⟨p1, by simp only [Dl, Ee, Dx]; omega, by simp only [Dl]; omega, hl, h0, by simp only [Dn, Dx, Dk]; omega, hl, by simp, ⟨0, ⟨by omega, .inr rfl⟩, ?_⟩, fun y hy => ⟨fun hlt2 => ?_, fun hge => ?_⟩⟩
    · simp [sf]
    · have hlt2 : y < n := by simpa using hlt2
      have h2 := hy.1
      have hl2 := lX g n x y hy
      refine ⟨hl, h0, by simp only [Dn, Dx, Dk]; omega, hl, rfl, p3 x y h0 hlt h2 hlt2, hl2, h2, by simp only [Dn, Dx, Dk]; omega, hl2, by simp only [inR, Dq]; omega, y + 1, ⟨by omega, .inl (by omega)⟩, ?_, ?_⟩
      · simp [sg g n x y h2 hlt2]
      · simp only [Dw, Dc, Dj]; omega
    · have hge : ¬ y < n := by simpa using hge
      refine ⟨by simp only [inR, Dq]; omega, x + 1, ⟨by omega, .inl (by omega)⟩, ?_, ?_⟩
      · simp [oR g n x y h0 hlt hy hge, lX g n x y hy]
      · simp only [Dw, Dc, Dj]; omega
  · have hge : ¬ x < n := by simpa using hge
    exact ⟨lh g n x hx, sd g n x hx hge, trivial⟩
def mG(m:Lj)(row:Li): Bool:=decide ((row.length:Int)≠m.length)||mD row
def aw(m:Lj): Bool:=!decide ((m.length:Int)>40)&&!m.any (mG m)
def Pg(m:Lj)(k:Int): Prop:=0<=k/\k<=m.length/\m.length<=40/\(m.take k.toNat).any (mG m)=false
def oi(i j:Int)(a:Lj): Prop:=0<=i/\i<(a.length:Int)/\idx j (a.getD i.toNat [])
def at2(a:Lj)(i j:Int): Int:=(a.getD i.toNat []).getD j.toNat 0
def diag(m:Lj)(k:Int): Bool:=decide (at2 m k k>0)
def fh(m:Lj): Bool:=iC dJ (diag m) false m.length
def Vn(m:Lj): Prop:=gP m.length (λ_ _=>True) (λk=>oi k k m) (diag m)
def kO(m:Lj)(i j:Int): Int:=bif decide (i=j)then ig 0 (at2 m i j)else ig (-1099511627776) (at2 m i j)
def mR(m:Lj)(k i j:Int): Int:=ig (at2 m i j) (iJ (at2 m i k) (at2 m k j))
def Aj(m:Lj)(k i j:Int): Prop:=oi i j m/\oi i k m/\oi k j m/\rK (at2 m i k) (at2 m k j)
def K4: Kt:=λf args m=>match f,args,m with
 | 259,[.dat (.sl (.int .i64)) row],[]=>some ⟨Nx row,.dat .bool (mD row),[]⟩
 | _,_,_=>K3 f args m
def c4: Cfg:=Sv.mkc K4
def Gu(m:Lj): Ann:=⟨λid s=>match id with
 | 4=>some {α:=Int,inv:=λk=>Pg m k,st:=λk=>put s [(10,.dat I k)],μ:=λk=>Dc (Dj (Df m) k)}
 | _=>none,λ_ _=>none,λ_ _=>none⟩
theorem wv(m:Lj)(hvc:
 let c1:=Ei (Df m) 40;true/\(True->(c1->false=aw m/\True)/\(c1=false->(∃x,Pg m x/\m=m/\m=m/\Df m=Df m/\0=x/\True)/\∀(x:Int),let c2:=Dp x (Df m);let c3:=Du m (Dc x) [];let c4:=Dy (Df c3) (Df m);let c5:=Di c4;let c6:=Ea c4 true (mD c3);let c7:=x+1;Pg m x->(c2->0<=x/\x<Df m/\(c5->c5->c5)/\(c5->Nx c3)/\(Dh true c5->c5)/\(c6->false=aw m/\True)/\(c6=false->inR .i64 c7/\∃y,Pg m y/\(m=m/\m=m/\Df m=Df m/\c7=y/\True)/\Dc (Df m-y)<Dc (Df m-x)))/\(c2=false->true=aw m/\True)))):
  evF c4 (lvA [(4,[0,2,4,8,9,10])] (Gu m)) 212 [.dat M m] [] ⟨True,.dat .bool (aw m),[]⟩:=oE hvc
theorem Wi(k:Int)(m:Lj)(hvc:
 let c1:=Du m (Dc k) [];true/\(oi k k m->0<=k/\k<Df m/\0<=k/\k<Df c1/\Ei (Du c1 (Dc k) 0) 0=diag m k/\True)):
  evF c4 az 263 [.dat I k,.ip M m] [] ⟨oi k k m,.dat .bool (diag m k),[]⟩:=oE hvc
theorem P5(i j:Int)(m:Lj)(hvc:
 let c1:=Du m (Dc i) [];let c2:=Du c1 (Dc j) 0;true/\(oi i j m->(Eb i j->0<=i/\i<Df m/\0<=j/\j<Df c1/\True/\ig 0 c2=kO m i j/\True)/\(Eb i j=false->0<=i/\i<Df m/\0<=j/\j<Df c1/\True/\ig (-1099511627776) c2=kO m i j/\True))):
  evF c4 az 214 [.dat I i,.dat I j,.ip M m] [] ⟨oi i j m,.dat I (kO m i j),[]⟩:=oE hvc
theorem P4(k i j:Int)(m:Lj)(hvc:
 let c1:=Du m (Dc i) [];let c2:=Df c1;let c3:=Du m (Dc k) [];let c4:=Du c1 (Dc k) 0;let c5:=Du c3 (Dc j) 0;true/\(Aj m k i j->0<=i/\i<Df m/\0<=j/\j<c2/\0<=i/\i<Df m/\0<=k/\k<c2/\0<=k/\k<Df m/\0<=j/\j<Df c3/\rK c4 c5/\True/\ig (Du c1 (Dc j) 0) (iJ c4 c5)=mR m k i j/\True)):
  evF c4 az 217 [.dat I i,.dat I j,.ip M m,.ip I k] [] ⟨Aj m k i j,.dat I (mR m k i j),[]⟩:=oE hvc
theorem KS4: aj Tryz.prog G0 K4:=by
 intro f args m c h;unfold K4 at h;split at h
 .cases h;exact XB _
 .exact KS3 _ _ _ _ h
theorem M6{m:Lj}(h:¬(m.length:Int)>40): Pg m 0:=⟨by omega,by omega,by omega,by simp⟩
theorem Hf{m:Lj}{k:Int}(h:Pg m k)(hk:k<m.length): m.getD k.toNat []∈m/\m.take (k+1).toNat=m.take k.toNat++[m.getD k.toNat []]:=by
 have h0:=h.1;have hlt:k.toNat<m.length:=by omega
 have e:(k+1).toNat=k.toNat+1:=by omega
 rw[qA,qB hlt,e];exact⟨wQ hlt,by rw[wX,qB hlt];rfl⟩
theorem M7{m:Lj}{k:Int}(h:Pg m k)(hk:k<m.length)(hr:mG m (m.getD k.toNat [])=false): Pg m (k+1):=by
 obtain⟨h0,h1,h2,h3⟩:=h;refine⟨by omega,by omega,h2,?_⟩
 rw[(Hf ⟨h0,h1,h2,h3⟩ hk).2,qDi,h3,qCk,hr];rfl
theorem IA{m:Lj}{k:Int}(h:Pg m k)(hk:k<m.length)(hr:mG m (m.getD k.toNat [])=true): aw m=false:=by
 unfold aw;have:m.any (mG m)=true:=xE.2 ⟨_,(Hf h hk).1,hr⟩;rw[this];simp
theorem Iz{m:Lj}{k:Int}(h:Pg m k)(hk:¬k<m.length): aw m=true:=by
 obtain⟨h0,h1,h2,h3⟩:=h;unfold aw;have e:k.toNat=m.length:=by omega
 rw[e,xW]at h3;rw[h3];have:¬((m.length:Int)>40):=by omega
 simp only[this,kH];rfl
theorem wh(m:Lj)(r:Li): Ea (Dy (Df r) (Df m)) true (mD r)=mG m r:=by
 unfold mG Ea Dy Df;by_cases h:(r.length:Int)=m.length<;>simp[h]
theorem DG(m:Lj): af Tryz.prog G0 212 [.dat M m] [] ⟨True,.dat .bool (aw m),[]⟩:=by
 refine ae (c:=c4) KS4 aL hm (wv m ⟨rfl,λ_=>⟨λh=>⟨?_,trivial⟩,λh=>⟨⟨0,M6 (by simpa using h),by simp⟩,λx hx=>⟨λhlt=>?_,λhge=>?_⟩⟩⟩⟩)
 .have:(m.length:Int)>40:=by simpa using h
  unfold aw;simp only[this,qAq];rfl
 .have hlt:x<m.length:=by simpa using hlt
  refine⟨hx.1,hlt,λ_ h=>h,λhne=>?_,λh=>?_,λhb=>⟨?_,trivial⟩,λhb=>⟨?_,x+1,?_,by simp,?_⟩⟩
  .have:((m.getD x.toNat []).length:Int)=m.length:=by simpa using hne
   have:=hx.2.2.1;show((m.getD x.toNat []).length:Int)<=_;omega
  .simpa using h
  .rw[wh m]at hb;exact(IA hx hlt hb).symm
  .have:=hx.2.2.1;have:=hx.1;simp only[inR,Dq];omega
  .rw[wh m]at hb;exact M7 hx hlt hb
  .have:=hx.1;simp only[Dw,Dc,Dj,Df];omega
 .have hge:¬x<m.length:=by simpa using hge
  exact⟨(Iz hx hge).symm,trivial⟩
theorem aAz(k:Int)(m:Lj): af Tryz.prog G0 263 [.dat I k,.ip M m] [] ⟨oi k k m,.dat .bool (diag m k),[]⟩:=
 ae (c:=c4) KS4 aL hm (Wi k m ⟨rfl,λh1=>⟨h1.1,h1.2.1,h1.2.2.1,h1.2.2.2,rfl,trivial⟩⟩)
theorem XF(i j:Int)(m:Lj): af Tryz.prog G0 214 [.dat I i,.dat I j,.ip M m] [] ⟨oi i j m,.dat I (kO m i j),[]⟩:=
 ae (c:=c4) KS4 aL hm (P5 i j m ⟨rfl,λh1=>⟨λe=>⟨h1.1,h1.2.1,h1.2.2.1,h1.2.2.2,trivial,by
   have e:i=j:=by simpa using e
   simp[kO,e,at2],trivial⟩,
  λe=>⟨h1.1,h1.2.1,h1.2.2.1,h1.2.2.2,trivial,by
   have e:¬i=j:=by simpa using e
   simp[kO,e,at2],trivial⟩⟩⟩)
theorem XE(k i j:Int)(m:Lj): af Tryz.prog G0 217 [.dat I i,.dat I j,.ip M m,.ip I k] [] ⟨Aj m k i j,.dat I (mR m k i j),[]⟩:=
 ae (c:=c4) KS4 aL hm (P4 k i j m ⟨rfl,λ⟨h1,h2,h3,h4⟩=>⟨h1.1,h1.2.1,h1.2.2.1,h1.2.2.2,h2.1,h2.2.1,h2.2.2.1,h2.2.2.2,h3.1,h3.2.1,h3.2.2.1,h3.2.2.2,h4,trivial,rfl,trivial⟩⟩)
theorem u7(n:Int){f:FuncId}{caps:List AV}(preT:Int->Int->Prop)(g:Int->Int->Int)(hg:goes Tryz.prog f=true)(hn:AV.namesL caps=[])(h:∀i j,af Tryz.prog G0 f (.dat I i::.dat I j::caps) [] ⟨preT i j,.dat I (g i j),[]⟩):
  af Tryz.prog G0 213 [.dat I n,.fn f caps] [] ⟨bz n preT,.dat M (aK g n),[]⟩:=
 (XK n preT g).args λ_ _ hG ⟨_,_,e1,h1,_,_,e2,h2,h3⟩=>⟨_,_,e1,h1,_,_,e2,jz hg hn h hG h2,h3⟩
def K5: Kt:=λf args m=>match f,args,m with
 | 212,[.dat (.sl (.sl (.int .i64))) m],[]=>some ⟨True,.dat .bool (aw m),[]⟩
 | 261,[.dat (.int .i64) n,.dat .bool z,.fn 262 [],.fn 263 [.ip (.sl (.sl (.int .i64))) m]],[]=>some ⟨gP n (λ_ _=>True) (λk=>oi k k m) (diag m),.dat .bool (iC dJ (diag m) z n),[]⟩
 | 213,[.dat (.int .i64) n,.fn 214 [.ip (.sl (.sl (.int .i64))) m]],[]=>some ⟨bz n (λi j=>oi i j m),.dat M (aK (kO m) n),[]⟩
 | 213,[.dat (.int .i64) n,.fn 217 [.ip (.sl (.sl (.int .i64))) m,.ip (.int .i64) k]],[]=>some ⟨bz n (Aj m k),.dat M (aK (mR m k) n),[]⟩
 | _,_,_=>K4 f args m
def c5: Cfg:=Sv.mkc K5
theorem KL(m:Lj)(hvc:
 true/\(Vn m->gP (Df m) (λx x_1↦True) (λk↦oi k k m) (diag m)/\iC dJ (diag m) false (Df m)=fh m/\True)):
  evF c5 az 216 [.dat M m] [] ⟨Vn m,.dat .bool (fh m),[]⟩:=oE hvc
theorem KS5: aj Tryz.prog G0 K5:=by
 intro f args m c h;unfold K5 at h;split at h
 .cases h;exact DG _
 .cases h;exact u5 _ _ _ _ (by kernel_rfl) rfl (λk=>aAz k _)
 .cases h;exact u7 _ _ _ (by kernel_rfl) rfl (λi j=>XF i j _)
 .cases h;exact u7 _ _ _ (by kernel_rfl) rfl (λi j=>XE _ i j _)
 .exact KS4 _ _ _ _ h
theorem RS(m:Lj): af Tryz.prog G0 216 [.dat M m] [] ⟨Vn m,.dat .bool (fh m),[]⟩:=
 ae (c:=c5) KS5 aL hm (KL m ⟨rfl,λh=>⟨h,rfl,trivial⟩⟩)
def bQ(m:Lj): Nat->Lj
 | 0=>aK (kO m) m.length
 | k+1=>aK (mR (bQ m k) k) m.length
def nG(m:Lj)(k:Int): Lj:=bQ m k.toNat
def kB(m:Lj): Bool:=(List.range (m.length+1)).any λk=>fh (bQ m k)
def Ai(m:Lj): Lj×Int:=bif aw m then bif kB m then([],120)else(bQ m m.length,0)else([],1)
def dO(m:Lj): Lj:=(Ai m).1
def gy(m:Lj): Int:=(Ai m).2
def xb(m:Lj): Prop:=m.length<=20
def GG(m:Lj)(k:Int): Prop:=0<=k/\k<=m.length/\aw m=true/\∀j:Nat,(j:Int)<=k->fh (bQ m j)=false
def K6: Kt:=λf args m=>match f,args,m with
 | 216,[.dat (.sl (.sl (.int .i64))) m],[]=>some ⟨Vn m,.dat .bool (fh m),[]⟩
 | _,_,_=>K5 f args m
def c6: Cfg:=Sv.mkc K6
def aDo(m:Lj): Ann:=⟨λid s=>match id with
 | 8=>some {α:=Int,inv:=λk=>GG m k,st:=λk=>put s [(19,.dat I k),(5,.dat M (nG m k))],μ:=λk=>Dc (Dj (Df m) k)}
 | _=>none,λid s=>match id with
 | 11=>some (frz [0,1] s)
 | _=>none,λ_ _=>none⟩
theorem VT(m:Lj)(hvc:
 let c1:=aK (kO m) (Df m);let c2:=fh c1;true/\(xb m->True/\(Di (aw m)->dO m=Dt (Li)/\1=gy m/\True)/\(Di (aw m)=false->(bz (Df m) λi j↦oi i j m)/\Vn c1/\(c2->dO m=Dt (Li)/\120=gy m/\True)/\(c2=false->(∃x,GG m x/\Df m=Df m/\c1=nG m x/\Df m=Df m/\0=x/\True)/\∀(x:Int),let c3:=Dp x (Df m);let c4:=aK (mR (nG m x) x) (Df m);let c5:=fh c4;let c6:=x+1;GG m x->(c3->1=1/\0=0/\1=1/\0=0/\Df m=Df m/\nG m x=nG m x/\1=1/\0=0/\x=x/\1=1/\0=0/\nG m x=nG m x/\Df m=Df m/\x=x/\c3=c3/\x=x/\nG m x=nG m x/\bz (Df m) (Aj (nG m x) x)/\Vn c4/\(c5->dO m=Dt (Li)/\120=gy m/\True)/\(c5=false->inR .i64 c6/\∃y,GG m y/\(Df m=Df m/\c4=nG m y/\Df m=Df m/\c6=y/\True)/\Dc (Df m-y)<Dc (Df m-x)))/\(c3=false->nG m x=dO m/\0=gy m/\True))))):
  evF c6 (lvA [(8,[2,3,4,5,6,7,18,19])] (aDo m)) 145 [.dat M m] [] ⟨xb m,.tup [.dat M (dO m),.dat I (gy m)],[]⟩:=oE hvc
theorem BN{g:Int->Bool}(n:Nat): m6 dJ g false n=false↔∀k:Nat,k<n->g k=false:=by
 induction n with
 | zero=>simp[m6]
 | succ n ih=>
  simp only[m6,dJ,qBd,ih];constructor
  .rintro⟨h1,h2⟩ k hk;by_cases e:k=n
   .subst e;exact h2
   .exact h1 k (by omega)
  .exact λh=>⟨λk hk=>h k (by omega),h n (by omega)⟩
theorem qh{g:Int->Bool}{n:Int}: iC dJ g false n=false↔∀k:Int,0<=k->k<n->g k=false:=by
 unfold iC;rw[BN];constructor
 .intro h k h0 h1;have:=h k.toNat (by omega)
  rwa [qR h0]at this
 .exact λh k hk=>h k (by omega) (by omega)
theorem pE{row:Li}: mD row=false↔∀k:Int,0<=k->k<row.length->pu (at1 row k)=true:=by
 unfold mD;rw[qh];simp[jP]
structure Sq (n:Nat) (m:Lj):Prop where
 len:m.length=n
 row:∀i:Int,0<=i->i<n->(m.getD i.toNat []).length=n
theorem Sq.oi {n:Nat} {m:Lj} (h:Sq n m) {i j:Int} (h0:0<=i) (h1:i<n) (h2:0<=j) (h3:j<n):oi i j m:=
 ⟨h0,by rw[h.len];exact h1,h2,by rw[h.row i h0 h1];exact h3⟩
theorem Gt{m:Lj}(h:aw m=true): Sq m.length m/\m.length<=40/\∀i j:Int,0<=i->i<m.length->0<=j->j<m.length->pu (at2 m i j)=true:=by
 unfold aw at h;simp only[qC,zJ,vN]at h;obtain⟨h1,h2⟩:=h;have hrow:∀i:Int,0<=i->i<m.length->mG m (m.getD i.toNat [])=false:=by
  intro i h0 hi;have hlt:i.toNat<m.length:=by omega
  rw[qAb]at h2;rw[qA,qB hlt];simpa using h2 _ (wQ hlt)
 have hr2:∀i:Int,0<=i->i<m.length->(m.getD i.toNat []).length=m.length/\mD (m.getD i.toNat [])=false:=by
  intro i h0 hi;have:=hrow i h0 hi;unfold mG at this;simp only[qBd,vN,ne_eq,qBs]at this;exact⟨by have:=this.1;omega,this.2⟩
 refine⟨⟨rfl,λi h0 hi=>(hr2 i h0 hi).1⟩,by omega,λi j h0 hi h3 hj=>?_⟩
 obtain⟨g1,g2⟩:=hr2 i h0 hi;exact pE.1 g2 j h3 (by rw[g1];exact hj)
theorem pA(g:Int->Int->Int)(n:Nat)(i:Int)(h0:0<=i)(hi:i<n): (aK g n).getD i.toNat []=(List.range n).map λj:Nat=>g i j:=by
 unfold aK;simp only[qW];rw[qA,qP,vY (by omega)]
 simp[qR h0]
theorem t7(g:Int->Int->Int)(n:Nat): Sq n (aK g n):=⟨by simp[aK],λi h0 hi=>by rw[pA g n i h0 hi];simp⟩
theorem fL(g:Int->Int->Int)(n:Nat)(i j:Int)(h0:0<=i)(hi:i<n)(h1:0<=j)(hj:j<n): at2 (aK g n) i j=g i j:=by
 unfold at2;rw[pA g n i h0 hi,qA,qP,vY (by omega)]
 simp[qR h1]
theorem KS6: aj Tryz.prog G0 K6:=by
 intro f args m c h;unfold K6 at h;split at h
 .cases h;exact RS _
 .exact KS5 _ _ _ _ h
theorem iL(m:Lj)(k:Nat): Sq m.length (bQ m k):=by
 cases k<;>exact t7 _ _
def bd(k:Nat): Int:=((1099511627776*2 ^ k:Nat):Int)
theorem aBt(k:Nat): 1099511627776<=bd k:=by
 unfold bd;have:1<=2 ^ k:=Nat.one_le_two_pow;omega
theorem YI(k:Nat): bd (k+1)=2*bd k:=by
 unfold bd;rw[Nat.pow_succ];omega
theorem Vu{k:Nat}(h:k<=20): bd k<=1152921504606846976:=by
 unfold bd;have:=Nat.pow_le_pow_right (n:=2) (by omega) h
 omega
theorem Ss{x y b:Int}(hb:1099511627776<=b)(hx:-b<=x/\x<=b)(hy:-b<=y/\y<=b): -b<=ig x y/\ig x y<=b:=by
 unfold ig;cases cT x&&cT y
 .simp only[qAp];omega
 .simp only[qAn];omega
theorem KZ{x y b:Int}(hb:1099511627776<=b)(hx:-b<=x/\x<=b)(hy:-b<=y/\y<=b): -(2*b)<=iJ x y/\iJ x y<=2*b:=by
 unfold iJ;cases cT x||cT y
 .simp only[qAp];omega
 .simp only[qAn];omega
theorem G6{c x:Int}(hc:-1099511627776<=c/\c<=0)(hx:pu x=true): -1099511627776<=ig c x/\ig c x<=1099511627776:=by
 unfold ig;cases h:cT x
 .simp only[pu,h,xR,qC,qE]at hx;simp only[kU,qAp];omega
 .simp only[cT,qE]at h;cases cT c&&true
  .simp only[qAp];omega
  .simp only[qAn];omega
theorem lS{m:Lj}(h:aw m=true): ∀(k:Nat),k<=m.length->∀i j:Int,0<=i->i<m.length->0<=j->j<m.length->-(bd k)<=at2 (bQ m k) i j/\at2 (bQ m k) i j<=bd k
 | 0,_,i,j,h0,hi,h1,hj=>by
  have e:=(Gt h).2.2 i j h0 hi h1 hj;show -(bd 0)<=at2 (aK (kO m) m.length) i j/\at2 (aK (kO m) m.length) i j<=bd 0;rw[fL _ _ _ _ h0 hi h1 hj];have e0:bd 0=1099511627776:=rfl;rw[e0];unfold kO;cases decide (i=j)
  .exact G6 (c:=-1099511627776) (by omega) e
  .exact G6 (c:=0) (by omega) e
 | k+1,hk,i,j,h0,hi,h1,hj=>by
  show -(bd (k+1))<=at2 (aK (mR (bQ m k) k) m.length) i j/\at2 (aK (mR (bQ m k) k) m.length) i j<=bd (k+1);rw[fL _ _ _ _ h0 hi h1 hj,YI];have hb:=aBt k;have g1:=lS h k (by omega) i j h0 hi h1 hj
  have g2:=lS h k (by omega) i k h0 hi (by omega) (by omega)
  have g3:=lS h k (by omega) k j (by omega) (by omega) h1 hj
  exact Ss (by omega) (by omega) (KZ hb g2 g3)
theorem aBb{n:Nat}{m:Lj}(h:Sq n m)(hn:n<=20): Vn m:=
 ⟨by rw[h.len];omega,λk h0 hk=>⟨h.oi h0 (by rw[<- h.len];exact hk) h0 (by rw[<- h.len];exact hk),λ_=>trivial⟩⟩
theorem IJ{m:Lj}(k:Nat)(hk:k<=m.length)(h:fh (bQ m k)=true): kB m=true:=
 xE.2 ⟨k,qX.2 (by omega),h⟩
theorem aAs(m:Lj): af Tryz.prog G0 145 [.dat M m] [] ⟨xb m,.tup [.dat M (dO m),.dat I (gy m)],[]⟩:=by
 refine ae (c:=c6) KS6 aL hm (VT m ⟨rfl,λhp=>⟨trivial,λh=>?_,λh=>?_⟩⟩)
 .have h:aw m=false:=by simpa using h
  simp[dO,gy,Ai,h]
 .have h:aw m=true:=by simpa using h
  unfold xb at hp;obtain⟨sq,_,el⟩:=Gt h;have sK:∀k:Nat,Vn (bQ m k):=λk=>aBb (iL m k) hp
  have bad:∀k:Nat,k<=m.length->fh (bQ m k)=true->dO m=[]/\(120:Int)=gy m/\True:=λk hk hc=>by
   have:=IJ k hk hc;simp[dO,gy,Ai,h,this]
  refine⟨⟨by simp only[Df];omega,by simp only[Df];omega,λi j h0 hi h1 hj=>sq.oi h0 hi h1 hj⟩,sK 0,bad 0 (by omega),λh0=>⟨⟨0,⟨by omega,by omega,h,λj hj=>?_⟩,?_⟩,λx hx=>⟨λhlt=>?_,λhge=>?_⟩⟩⟩
  .have:j=0:=by omega
   subst this;exact h0
  .simp only[zS,vO,qAs];rfl
  .have hlt:x<m.length:=by simpa using hlt
   obtain⟨g0,g1,g2,g3⟩:=hx;have ex:nG m x=bQ m x.toNat:=rfl;have es:aK (mR (nG m x) x) (Df m)=bQ m (x.toNat+1):=by
    rw[ex];show aK (mR (bQ m x.toNat) x) m.length=aK (mR (bQ m x.toNat) (x.toNat:Int)) m.length;rw[qR g0]
   rw[es];simp only[zS,vO,qAs];refine⟨⟨by simp only[Df];omega,by simp only[Df];omega,λi j h0 hi h1 hj=>?_⟩,sK _,λhc=>by simpa using bad (x.toNat+1) (by omega) hc,λhc=>⟨by simp only[inR,Dq];omega,x+1,⟨by omega,by omega,h,λj hj=>?_⟩,⟨?_,rfl⟩,?_⟩⟩
   .rw[ex];have sN:=iL m x.toNat;refine⟨sN.oi h0 hi h1 hj,sN.oi h0 hi g0 hlt,sN.oi g0 hlt h1 hj,λ_ _=>?_⟩
    have b1:=lS h x.toNat (by omega) i x h0 hi g0 hlt
    have b2:=lS h x.toNat (by omega) x j g0 hlt h1 hj
    have b3:=Vu (k:=x.toNat) (by omega)
    simp only[inR];omega
   .by_cases e:(j:Int)<=x
    .exact g3 j e
    .have:j=x.toNat+1:=by omega
     rw[this];exact hc
   .show bQ m (x.toNat+1)=bQ m (x+1).toNat;rw[show(x+1).toNat=x.toNat+1 by omega]
   .simp only[Dw,Dc,Dj,Df];omega
  .have hge:¬x<m.length:=by simpa using hge
   obtain⟨g0,g1,g2,g3⟩:=hx;have hb:kB m=false:=by
    unfold kB;rw[qAb];intro k hk;have:=g3 k (by have:=qX.1 hk;omega)
    simp[this]
   have e:x.toNat=m.length:=by omega
   have:Ai m=(bQ m m.length,0):=by simp[Ai,h,hb]
   refine⟨?_,?_,trivial⟩
   .unfold dO;rw[this];show bQ m x.toNat=_;rw[e]
   .unfold gy;rw[this]
end Go.Eng.Mp
namespace Go.Eng.Mp
def le(z x:Int): Prop:=cT x=false/\z<=x
def HV(x:Int): Prop:=x=-1099511627776\/cT x=false
theorem gV{x:Int}: cT x=false↔-549755813888<x:=by
 simp only[cT,vN];omega
theorem le_iff{z x:Int}: le z x↔-549755813888<x/\z<=x:=by unfold le;rw[gV]
theorem NA{y z x:Int}(h:y<=z)(hz:le z x): le y x:=⟨hz.1,by have:=hz.2;omega⟩
theorem yf{x:Int}(h:cT x=false): le x x:=⟨h,by omega⟩
theorem lB{z x y:Int}: le z (ig x y)↔le z x\/le z y:=by
 simp only[le_iff,ig,cT,Bool.cond_eq_ite,qC,qE];split<;>omega
theorem py(x y:Int): HV (ig x y):=by
 simp only[HV,gV];simp only[ig,cT,Bool.cond_eq_ite,qC,qE];split<;>omega
theorem Ho{z x y:Int}(h:cT x=false->cT y=false->-549755813888<x+y): le z (iJ x y)↔∃u v,le u x/\le v y/\z<=u+v:=by
 constructor
 .intro hz;simp only[gV]at h;simp only[le_iff,iJ,cT,Bool.cond_eq_ite,yD,qE]at hz;split at hz
  .omega
  .exact⟨x,y,le_iff.2 ⟨by omega,by omega⟩,le_iff.2 ⟨by omega,by omega⟩,hz.2⟩
 .rintro⟨u,v,hu,hv,hz⟩;have:=h hu.1 hv.1;simp only[le_iff]at hu hv;simp only[le_iff,iJ,cT,Bool.cond_eq_ite,yD,qE];split<;>omega
theorem Td{g:Int->Int}{z:Int}: ∀n:Nat,le z (m6 ig g (-1099511627776) n)↔∃k:Nat,k<n/\le z (g k)
 | 0=>by simp[m6,le,cT]
 | n+1=>by
  simp only[m6,lB,Td n];constructor
  .rintro(⟨k,hk,h⟩ | h)
   .exact⟨k,by omega,h⟩
   .exact⟨n,by omega,h⟩
  .rintro⟨k,hk,h⟩;by_cases e:k=n
   .subst e;exact .inr h
   .exact .inl ⟨k,by omega,h⟩
structure Bd (n:Nat) (L:Int) (m:Lj):Prop where
 sq:Sq n m
 le:n<=40
 el:∀i j:Int,0<=i->i<n->0<=j->j<n->cT (at2 m i j)=false->-L<=at2 m i j/\at2 m i j<=L
theorem Bd.up {n:Nat} {L L':Int} {m:Lj} (h:Bd n L m) (hl:L<=L'):Bd n L' m:=
 ⟨h.sq,h.le,λi j h0 hi h1 hj hf=>by have:=h.el i j h0 hi h1 hj hf;omega⟩
abbrev In(n:Nat)(i:Int): Prop:=0<=i/\i<(n:Int)
def PW(m:Lj)(p:Nat->Int): Nat->Int->Prop
 | 0,z=>z<=0
 | k+1,z=>∃u v,PW m p k u/\le v (at2 m (p k) (p (k+1)))/\z<=u+v
section
variable {m:Lj} {p q:Nat->Int}
theorem PW.down:∀{k:Nat} {y z:Int},PW m p k z->y<=z->PW m p k y
 | 0,_,_,h,hy=>Int.le_trans hy h
 | _+1,_,_,⟨u,v,h1,h2,h3⟩,hy=>⟨u,v,h1,h2,by omega⟩
theorem PW.congr:∀{k:Nat} {z:Int},(∀t,t<=k->p t=q t)->PW m p k z->PW m q k z
 | 0,_,_,h=>h
 | k+1,_,e,⟨u,v,h1,h2,h3⟩=>⟨u,v,PW.congr (λt ht=>e t (by omega)) h1,by rw[<- e k (by omega),<- e (k+1) (by omega)];exact h2,h3⟩
theorem PW.split (a:Nat):∀(b:Nat) {z:Int},PW m p (a+b) z->∃u v,PW m p a u/\PW m (λt=>p (a+t)) b v/\z<=u+v
 | 0,z,h=>⟨z,0,h,qL _,by omega⟩
 | b+1,z,⟨u,v,h1,h2,h3⟩=>by
  obtain⟨u',v',g1,g2,g3⟩:=PW.split a b h1;exact⟨u',v'+v,g1,⟨v',v,g2,h2,qL _⟩,by omega⟩
def glue(p q:Nat->Int)(a:Nat): Nat->Int:=λt=>if t<=a then p t else q (t-a)
theorem lG{a t:Nat}(h:t<=a): glue p q a t=p t:=if_pos h
theorem iV{a b:Nat}(e:p a=q 0): glue p q a (a+b)=q b:=by
 unfold glue;split
 .have:b=0:=by omega
  subst this;simpa using e
 .congr 1;omega
theorem PW.join {a:Nat} {u:Int} (h:PW m p a u) (e:p a=q 0):∀(b:Nat) {v:Int},PW m q b v->PW m (glue p q a) (a+b) (u+v)
 | 0,v,hv=>by
  have hv:v<=0:=hv;exact(h.congr (λt ht=>(lG ht).symm)).down (by omega)
 | b+1,v,⟨x,y,h1,h2,h3⟩=>by
  refine⟨u+x,y,PW.join h e b h1,?_,by omega⟩
  show le y (at2 m (glue p q a (a+b)) (glue p q a (a+(b+1))));rw[iV e,iV e];exact h2
def W(m:Lj)(n:Nat)(t:Int)(k:Nat)(i j z:Int): Prop:=
 ∃p:Nat->Int,p 0=i/\p k=j/\(∀s,s<=k->In n (p s))/\(∀s,0<s->s<k->p s<t)/\PW m p k z
variable {n:Nat} {t:Int}
theorem W.ins {k:Nat} {i j z:Int} (h:W m n t k i j z):In n i/\In n j:=by
 obtain⟨p,rfl,rfl,h,_⟩:=h;exact⟨h 0 (by omega),h k (by omega)⟩
theorem W.zero {i z:Int} (hi:In n i) (hz:z<=0):W m n t 0 i i z:=⟨λ_=>i,rfl,rfl,λ_ _=>hi,λs h1 h2=>by omega,hz⟩
theorem W.one {i j z:Int} (hi:In n i) (hj:In n j) (h:le z (at2 m i j)):W m n t 1 i j z:=
 ⟨λs=>if s=0 then i else j,rfl,rfl,λs _=>by show In n (if s=0 then i else j);split<;>assumption,λs h1 h2=>by omega,0,z,qL _,h,by omega⟩
theorem W.down {k:Nat} {i j y z:Int} (h:W m n t k i j z) (hy:y<=z):W m n t k i j y:=by
 obtain⟨p,h1,h2,h3,h4,h5⟩:=h;exact⟨p,h1,h2,h3,h4,h5.down hy⟩
theorem W.mono {t':Int} {k:Nat} {i j z:Int} (h:W m n t k i j z) (ht:t<=t'):W m n t' k i j z:=by
 obtain⟨p,h1,h2,h3,h4,h5⟩:=h;exact⟨p,h1,h2,h3,λs s1 s2=>by have:=h4 s s1 s2;omega,h5⟩
theorem W.all {k:Nat} {i j z:Int} (h:W m n t k i j z):W m n n k i j z:=by
 obtain⟨p,h1,h2,h3,h4,h5⟩:=h;exact⟨p,h1,h2,h3,λs s1 s2=>(h3 s (by omega)).2,h5⟩
theorem W.trans {a b:Nat} {i l j u v:Int} (h:W m n t a i l u) (h':W m n t b l j v) (hl:l<t):W m n t (a+b) i j (u+v):=by
 obtain⟨p,h1,h2,h3,h4,h5⟩:=h;obtain⟨q,g1,g2,g3,g4,g5⟩:=h';have e:p a=q 0:=by rw[h2,g1]
 refine⟨glue p q a,by rw[lG (by omega)];exact h1,by rw[iV e];exact g2,λs hs=>?_,λs s1 s2=>?_,h5.join e b g5⟩
 .by_cases h:s<=a
  .rw[lG h];exact h3 s h
  .rw[show s=a+(s-a) by omega,iV e];exact g3 _ (by omega)
 .by_cases h:s<a
  .rw[lG (by omega)];exact h4 s s1 h
  .by_cases h':s=a
   .subst h';rw[lG (by omega),h2];exact hl
   .rw[show s=a+(s-a) by omega,iV e];exact g4 _ (by omega) (by omega)
theorem W.trans' {a b:Nat} {i l j u v:Int} (h:W m n n a i l u) (h':W m n n b l j v):W m n n (a+b) i j (u+v):=h.trans h' h.ins.2.2
theorem U6: ∀(n:Nat) (f:Nat->Nat),(∀i,i<=n->f i<n)->∃a b,a<b/\b<=n/\f a=f b
 | 0,f,h=>by have:=h 0 (by omega);omega
 | n+1,f,h=>by
  by_cases he:∃i,i<=n/\f i=f (n+1)
  .obtain⟨i,hi,e⟩:=he;exact⟨i,n+1,by omega,by omega,e⟩
  .have hne:∀i,i<=n->f i≠f (n+1):=λi hi e=>he ⟨i,hi,e⟩
   have hl:=h (n+1) (by omega)
   obtain⟨a,b,h1,h2,h3⟩:=U6 n (λi=>if f i=n then f (n+1)else f i) (λi hi=>by
    have h1:=h i (by omega)
    have h2:=hne i hi;show(if f i=n then f (n+1)else f i)<n
    split<;>omega)
   have ha:=hne a (by omega)
   have hb:=hne b (by omega)
   refine⟨a,b,h1,by omega,?_⟩
   have h3:(if f a=n then f (n+1)else f a)=(if f b=n then f (n+1)else f b):=h3
   split at h3<;>split at h3<;>omega
theorem W.short:∀(k:Nat) {i j z:Int},W m n t k i j z->∃k' z',k'<n/\W m n t k' i j z'/\((∀k x u,W m n t k x x u->u<=0)->z<=z')
 | k,i,j,z,h=>by
  by_cases hk:k<n
  .exact⟨k,z,hk,h,λ_=>qL _⟩
  .obtain⟨p,h1,h2,h3,h4,h5⟩:=h;obtain⟨a,b,hab,hbn,e⟩:=U6 n (λs=>(p s).toNat) (λs hs=>by have:=h3 s (by omega);omega)
   have e:(p a).toNat=(p b).toNat:=e;have e:p a=p b:=by have:=h3 a (by omega);have:=h3 b (by omega);omega
   have h5':PW m p (a+(k-a)) z:=by rw[show a+(k-a)=k by omega];exact h5
   obtain⟨u1,w,q1,q2,q3⟩:=PW.split a (k-a) h5';have q2':PW m (λt=>p (a+t)) ((b-a)+(k-b)) w:=by rw[show(b-a)+(k-b)=k-a by omega];exact q2
   obtain⟨u2,u3,r1,r2,r3⟩:=PW.split (b-a) (k-b) q2';have r2:PW m (λt=>p (b+t)) (k-b) u3:=r2.congr (λt _=>by show p (a+(b-a+t))=p (b+t);congr 1;omega)
   have closed:W m n t (b-a) (p a) (p a) u2:=
    ⟨λt=>p (a+t),rfl,by show p (a+(b-a))=p a;rw[show a+(b-a)=b by omega,e],λs hs=>h3 _ (by omega),λs s1 s2=>h4 _ (by omega) (by omega),r1⟩
   have ej:p a=(λt=>p (b+t)) 0:=by show p a=p (b+0);rw[yU];exact e
   have hw:W m n t (a+(k-b)) i j (u1+u3):=by
    refine⟨glue p (λt=>p (b+t)) a,by rw[lG (by omega)];exact h1,?_,λs hs=>?_,λs s1 s2=>?_,q1.join ej _ r2⟩
    .rw[iV ej];show p (b+(k-b))=j;rw[show b+(k-b)=k by omega];exact h2
    .by_cases h:s<=a
     .rw[lG h];exact h3 s (by omega)
     .rw[show s=a+(s-a) by omega,iV ej];exact h3 _ (by omega)
    .by_cases h:s<=a
     .rw[lG h];exact h4 s s1 (by omega)
     .rw[show s=a+(s-a) by omega,iV ej];exact h4 _ (by omega) (by omega)
   obtain⟨k',z',w1,w2,w3⟩:=W.short (a+(k-b)) hw;refine⟨k',z',w1,w2,λhc=>?_⟩
   have:=w3 hc;have:=hc _ _ _ closed;omega
termination_by k=>k
decreasing_by omega
theorem HG(P:Nat->Prop): ∀k:Nat,P k->∃a,a<=k/\P a/\∀b,b<a->¬P b
 | k,h=>by
  by_cases he:∃b,b<k/\P b
  .obtain⟨b,hb,hp⟩:=he;obtain⟨a,h1,h2,h3⟩:=HG P b hp;exact⟨a,by omega,h2,h3⟩
  .exact⟨k,by omega,h,λb hb hp=>he ⟨b,hb,hp⟩⟩
termination_by k=>k
decreasing_by omega
theorem W.cut {k:Nat} {i j z:Int} (h:W m n (t+1) k i j z):W m n t k i j z\/∃a b u v,b<k/\W m n t a i t u/\W m n (t+1) b t j v/\z<=u+v:=by
 obtain⟨p,h1,h2,h3,h4,h5⟩:=h;by_cases he:∃s,0<s/\s<k/\p s=t
 .obtain⟨s,s0,s1,s2⟩:=he;obtain⟨a,a1,⟨a2,a3⟩,a4⟩:=HG (λs=>0<s/\p s=t) s ⟨s0,s2⟩
  have h5':PW m p (a+(k-a)) z:=by rw[show a+(k-a)=k by omega];exact h5
  obtain⟨u,v,q1,q2,q3⟩:=PW.split a (k-a) h5';refine .inr ⟨a,k-a,u,v,by omega,⟨p,h1,a3,λs hs=>h3 s (by omega),λs s1 s2=>?_,q1⟩,⟨λs=>p (a+s),a3,?_,λs hs=>h3 _ (by omega),λs s1 s2=>h4 _ (by omega) (by omega),q2⟩,q3⟩
  .have:=h4 s s1 (by omega)
   have:=a4 s s2;have:p s≠t:=λe=>this ⟨s1,e⟩
   omega
  .show p (a+(k-a))=j;rw[show a+(k-a)=k by omega];exact h2
 .refine .inl ⟨p,h1,h2,h3,λs s1 s2=>?_,h5⟩
  have:=h4 s s1 s2;have:p s≠t:=λe=>he ⟨s,s1,s2,e⟩
  omega
theorem PW.low {L:Int} (hm:Bd n L m):∀{k:Nat} {z:Int},(∀s,s<=k->In n (p s))->PW m p k z->PW m p k (-((k:Int)*L))
 | 0,_,_,_=>by show -(((0:Nat):Int)*L)<=0;simp
 | k+1,_,hp,⟨u,v,h1,h2,h3⟩=>by
  have a:=hp k (by omega)
  have b:=hp (k+1) (by omega)
  have:=hm.el _ _ a.1 a.2 b.1 b.2 h2.1;refine⟨-((k:Int)*L),-L,PW.low hm (λs hs=>hp s (by omega)) h1,⟨h2.1,by omega⟩,?_⟩
  have:((k+1:Nat):Int)*L=(k:Int)*L+L:=by
   rw[Int.natCast_add,Int.add_mul];simp
  omega
theorem W.low {L:Int} (hm:Bd n L m) {k:Nat} {i j z:Int} (h:W m n t k i j z):W m n t k i j (-((k:Int)*L)):=by
 obtain⟨p,h1,h2,h3,h4,h5⟩:=h;exact⟨p,h1,h2,h3,h4,h5.low hm h3⟩
theorem PW.high {L:Int} (hm:Bd n L m):∀{k:Nat} {z:Int},(∀s,s<=k->In n (p s))->PW m p k z->z<=(k:Int)*L
 | 0,z,_,h=>by have h:z<=0:=h;simpa using h
 | k+1,z,hp,⟨u,v,h1,h2,h3⟩=>by
  have a:=hp k (by omega)
  have b:=hp (k+1) (by omega)
  have:=hm.el _ _ a.1 a.2 b.1 b.2 h2.1;have:=PW.high hm (λs hs=>hp s (by omega)) h1
  have:=h2.2;have:((k+1:Nat):Int)*L=(k:Int)*L+L:=by
   rw[Int.natCast_add,Int.add_mul];simp
  omega
theorem W.high {L:Int} (hm:Bd n L m) {k:Nat} {i j z:Int} (h:W m n t k i j z):z<=(k:Int)*L:=by
 obtain⟨p,h1,h2,h3,h4,h5⟩:=h;exact h5.high hm h3
theorem rS(hl:m.length=n){i j:Int}(hi:In n i)(hj:In n j): at2 (bQ m 0) i j=kO m i j:=by
 show at2 (aK (kO m) m.length) i j=_;rw[hl];exact fL _ _ _ _ hi.1 hi.2 hj.1 hj.2
theorem xd(hl:m.length=n)(t:Nat){i j:Int}(hi:In n i)(hj:In n j): at2 (bQ m (t+1)) i j=mR (bQ m t) t i j:=by
 show at2 (aK (mR (bQ m t) t) m.length) i j=_;rw[hl];exact fL _ _ _ _ hi.1 hi.2 hj.1 hj.2
structure Fw (m:Lj) (n:Nat) (B:Int) (t:Nat):Prop where
 s:∀i j z,In n i->In n j->le z (at2 (bQ m t) i j)->∃k,W m n t k i j z
 c:∀k i j z,W m n t k i j z->le z (at2 (bQ m t) i j)
 lb:∀i j,In n i->In n j->cT (at2 (bQ m t) i j)=false->-B<=at2 (bQ m t) i j
theorem aA3{L:Int}(hm:Bd n L m)(hL:0<=L)(t:Nat)(s:∀i j z,In n i->In n j->le z (at2 (bQ m t) i j)->∃k,W m n t k i j z)
  (c:∀k i j z,W m n t k i j z->le z (at2 (bQ m t) i j)):Fw m n (n*L) t:=
 ⟨s,c,λi j hi hj hf=>by
  obtain⟨k,hw⟩:=s i j _ hi hj (yf hf);obtain⟨k',z',h1,h2,_⟩:=hw.short;have:=(c _ _ _ _ (h2.low hm)).2;have h4:(k':Int)*L<=n*L:=kL (by omega) hL
  omega⟩
theorem fw0{L:Int}(hm:Bd n L m)(hL:0<=L): Fw m n (n*L) 0:=by
 refine aA3 hm hL 0 (λi j z hi hj h=>?_) (λk i j z h=>?_)
 .rw[rS hm.sq.len hi hj]at h;unfold kO at h;by_cases e:i=j
  .subst e;simp only[qAq,qAn,lB]at h;rcases h with h | h
   .exact⟨0,W.zero hi h.2⟩
   .exact⟨1,W.one hi hj h⟩
  .simp only[e,kH,qAp,lB]at h;rcases h with h | h
   .simp[le,cT]at h
   .exact⟨1,W.one hi hj h⟩
 .obtain⟨hi,hj⟩:=h.ins;rw[rS hm.sq.len hi hj];obtain⟨p,h1,h2,h3,h4,h5⟩:=h;unfold kO
  match k,h2,h3,h4,h5 with
  | 0,h2,_,_,h5=>
   have e:i=j:=by rw[<- h1,<- h2]
   have h5:z<=0:=h5;simp only[e,qAq,qAn,lB];exact .inl ⟨by decide,h5⟩
  | 1,h2,_,_,h5=>
   obtain⟨u,v,g1,g2,g3⟩:=h5;have g1:u<=0:=g1;simp only[wZ,h1,h2]at g2;have g4:le z (at2 m i j):=NA (by omega) g2
   cases decide (i=j)
   .simp only[qAp,lB];exact .inr g4
   .simp only[qAn,lB];exact .inr g4
  | k+2,_,h3,h4,_=>
   have:=h4 1 (by omega) (by omega)
   have:=(h3 1 (by omega)).1
   simp only[Int.natCast_zero]at *;omega
theorem Yj{L:Int}(hm:Bd n L m)(hL:0<=L)(hB:n*L<=100000000000){t:Nat}(ht:t<n)(h:Fw m n (n*L) t)(hd:at2 (bQ m t) t t<=0\/cT (at2 (bQ m t) t t)=true): Fw m n (n*L) (t+1):=by
 have hit:In n t:=⟨by omega,by omega⟩
 have no:∀{i j:Int},In n i->In n j->cT (at2 (bQ m t) i t)=false->cT (at2 (bQ m t) t j)=false->-549755813888<at2 (bQ m t) i t+at2 (bQ m t) t j:=λhi hj e1 e2=>by
  have:=h.lb _ _ hi hit e1;have:=h.lb _ _ hit hj e2;omega
 have ret:∀(k:Nat) (j z:Int),W m n ((t:Int)+1) k t j z->le z (at2 (bQ m t) t j):=by
  intro k;induction k using Nat.strongRecOn with
  | ind k ih=>
   intro j z hw;rcases hw.cut with hw | ⟨a,b,u,v,hb,w1,w2,hz⟩
   .exact h.c _ _ _ _ hw
   .have h1:=h.c _ _ _ _ w1;have h2:=ih b hb j v w2;have:u<=0:=by
     rcases hd with hd | hd
     .have:=h1.2;omega
     .rw[h1.1]at hd;cases hd
    exact NA (by omega) h2
 refine aA3 hm hL (t+1) (λi j z hi hj hz=>?_) (λk i j z hw=>?_)
 .rw[xd hm.sq.len t hi hj]at hz;unfold mR at hz;rw[lB]at hz;rcases hz with hz | hz
  .obtain⟨k,hk⟩:=h.s _ _ _ hi hj hz;exact⟨k,hk.mono (by omega)⟩
  .obtain⟨u,v,hu,hv,hz⟩:=(Ho (no hi hj)).1 hz;obtain⟨k,hk⟩:=h.s _ _ _ hi hit hu;obtain⟨k',hk'⟩:=h.s _ _ _ hit hj hv;exact⟨k+k',((hk.mono (t':=((t+1:Nat):Int)) (by omega)).trans (hk'.mono (by omega)) (by omega)).down hz⟩
 .obtain⟨hi,hj⟩:=hw.ins;rw[xd hm.sq.len t hi hj];unfold mR;rw[lB];have hw':W m n ((t:Int)+1) k i j z:=by simpa using hw
  rcases hw'.cut with hw | ⟨a,b,u,v,_,w1,w2,hz⟩
  .exact .inl (h.c _ _ _ _ hw)
  .exact .inr ((Ho (no hi hj)).2 ⟨u,v,h.c _ _ _ _ w1,ret _ _ _ w2,hz⟩)
def uj(m:Lj)(n:Nat): Prop:=∀k x u,W m n n k x x u->u<=0
theorem px{s:Lj}(hs:s.length=n): fh s=false↔∀i,In n i->at2 s i i<=0:=by
 unfold fh;rw[qh,hs];constructor
 .intro h i hi;have:=h i hi.1 hi.2;simp only[diag,vN]at this;omega
 .intro h k h0 hk;have:=h k ⟨h0,hk⟩;simp only[diag,vN];omega
theorem Hz{L:Int}(hm:Bd n L m)(hL:0<=L)(hB:n*L<=100000000000): ∀t,t<=n->(∀s,s<t->fh (bQ m s)=false)->Fw m n (n*L) t
 | 0,_,_=>fw0 hm hL
 | t+1,ht,h=>by
  refine Yj hm hL hB (by omega) (Hz hm hL hB t (by omega) (λs hs=>h s (by omega))) (.inl ?_)
  have hl:(bQ m t).length=n:=by rw[(iL m t).len,hm.sq.len]
  exact(px hl).1 (h t (by omega)) t ⟨by omega,by omega⟩
theorem SQ{L:Int}(hm:Bd n L m)(hL:0<=L)(hB:n*L<=100000000000)(h:∀s,s<=n->fh (bQ m s)=false): uj m n:=by
 intro k x u hw;have fw:=Hz hm hL hB n (qJ _) (λs hs=>h s (by omega))
 have hl:(bQ m n).length=n:=by rw[(iL m n).len,hm.sq.len]
 have:=(fw.c _ _ _ _ hw).2;have:=(px hl).1 (h n (qJ _)) x hw.ins.1;omega
theorem pV{L:Int}(hm:Bd n L m)(hL:0<=L)(hB:n*L<=100000000000)(h:uj m n): ∀s,s<=n->fh (bQ m s)=false:=by
 intro s;induction s using Nat.strongRecOn with
 | ind s ih=>
  intro hs;have fw:=Hz hm hL hB s hs (λr hr=>ih r hr (by omega))
  have hl:(bQ m s).length=n:=by rw[(iL m s).len,hm.sq.len]
  refine(px hl).2 λi hi=>?_
  by_cases hp:at2 (bQ m s) i i<=0
  .exact hp
  .obtain⟨k,hk⟩:=fw.s i i 1 hi hi (le_iff.2 ⟨by omega,by omega⟩)
   have:=h k i 1 hk.all;omega
theorem Dm{L:Int}(hm:Bd n L m)(hL:0<=L)(hB:n*L<=100000000000): kB m=false↔uj m n:=by
 have hl:=hm.sq.len;constructor
 .intro h;refine SQ hm hL hB λs hs=>?_
  unfold kB at h;rw[qAb]at h;simpa using h s (qX.2 (by omega))
 .intro h;unfold kB;rw[qAb];intro s hs;have:=pV hm hL hB h s (by have:=qX.1 hs;omega)
  simp[this]
theorem Xq{L:Int}(hm:Bd n L m)(hv:aw m=true)(hL:0<=L)(hB:n*L<=100000000000)(h:uj m n): gy m=0/\dO m=bQ m n:=by
 have:=(Dm hm hL hB).2 h;simp[gy,dO,Ai,hv,this,hm.sq.len]
theorem Db(hl:m.length=n): ∀(t:Nat) {i j:Int},In n i->In n j->HV (at2 (bQ m t) i j)
 | 0,i,j,hi,hj=>by
  rw[rS hl hi hj];unfold kO;cases decide (i=j)
  .simp only[qAp];exact py _ _
  .simp only[qAn];exact py _ _
 | t+1,_,_,hi,hj=>by rw[xd hl t hi hj];exact py _ _
theorem ER{L:Int}(hm:Bd n L m)(hL:0<=L)(hB:n*L<=100000000000)(h:uj m n){i j z:Int}(hi:In n i)(hj:In n j): le z (at2 (bQ m n) i j)↔∃k,W m n n k i j z:=by
 have fw:=Hz hm hL hB n (qJ _) (λs hs=>pV hm hL hB h s (by omega))
 exact⟨fw.s i j z hi hj,λ⟨k,hk⟩=>fw.c k i j z hk⟩
theorem uj.short (h:uj m n) {k:Nat} {i j z:Int} (hw:W m n n k i j z):∃k',k'<n/\W m n n k' i j z:=by
 obtain⟨k',z',h1,h2,h3⟩:=hw.short;exact⟨k',h1,h2.down (h3 h)⟩
theorem Xr{L:Int}(hm:Bd n L m)(hL:0<=L)(hB:n*L<=100000000000)(h:uj m n): Bd n (n*L) (bQ m n):=
 ⟨by rw[<- hm.sq.len];exact iL m _,hm.le,λi j h0 hi h1 hj hf=>by
  have hz:=(ER hm hL hB h ⟨h0,hi⟩ ⟨h1,hj⟩).1 (yf hf);obtain⟨k,hk⟩:=hz;obtain⟨k',g1,g2⟩:=h.short hk;have h4:(k':Int)*L<=n*L:=kL (by omega) hL
  have:=g2.high hm;have:=((ER hm hL hB h ⟨h0,hi⟩ ⟨h1,hj⟩).2 ⟨k',g2.low hm⟩).2;omega⟩
end
end Go.Eng.Mp
set_option maxRecDepth 100000
noncomputable section
namespace Go.Eng.Sv
open Go.Proofs
def Y8(a b:Int)(xs:Li): Prop:=0<=a/\a<12/\0<=b/\b<12/\xs.length=144
def iM(xs:Li)(a b len:Int): Li:=dZ xs a b len
def fY(k:Int): Li:=(List.range 144).map λi=>if i<k.toNat then(if i/12=i%12 then 0 else -1)else 0
def iw(ls:Ll)(k:Int): Li:=(ls.take k.toNat).foldl (λxs l=>dZ xs (aY l) (lTo l) (aX l)) EW
def fwD(ls:Ll)(o a b:Int): Li:=fwN ls (o*144+a*12+b).toNat
def bH(ls:Ll): Li:=xu ls
def noP(n:Net): Prop:=noF n=true
def vj(m:Nat)(ls:Ll)(b:Nat): Bool:=(List.range m).any λa=>decide (cell (xu ls) a b=-1)
def bG(m:Int)(ls:Ll)(k:Int): List (Int×Int×Int):=(List.range k.toNat).filterMap λb:Nat=>if vj m.toNat ls b then some (3,(b:Int),111)else none
def fq(n:Net): List (Int×Int×Int):=if noF n then bG n.2.2.2.1.length n.2.2.2.2.1 n.2.2.2.1.length else ff n
def sW(m:Int)(ls:Ll)(b k:Int): Prop:=0<=k/\k<=m/\(List.range k.toNat).all (λa=>decide (cell (xu ls) a b.toNat≠-1))=true
def bj(n:Net): Bool:=(fq n).isEmpty
abbrev cx: List (Int×List Bool×Li):=[(0,[true,true,true,true,true,false,false],[])]
abbrev nx: List ByteArray:=[⟨#[99]⟩]
abbrev ox: List ByteArray:=[⟨#[112]⟩,⟨#[113]⟩]
theorem Qb(a b len:Int)(xs:Li)(hvc:
 let c9:=Ej (0) (12) a;let c8:=Dx (12);let c1:=iM xs a b len;let c2:=Ej c9 (1) b;let c3:=Du xs c2 0;let c4:=Eb c3 (-1);let c5:=Di c4;let c10:=c5->Dk xs=144;let c7:=c5->c5->c5;let c6:=Ea c4 true (Dp len c3);true/\(Y8 a b xs->Dk xs<=Dk c1/\Dk xs=144/\0<=a/\a<Dx (12)/\Ej (0) (12) c8<=(144)/\Dk xs=144/\0<=b/\b<Dx (12)/\Ej c9 (1) c8<=(144)/\Dk xs=144/\c7/\c10/\(c5->0<=a)/\(c5->a<Dx (12))/\(c5->Ej (0) (12) c8<=(144))/\c7/\c7/\c10/\(c5->0<=b)/\(c5->b<Dx (12))/\(c5->Ej c9 (1) c8<=(144))/\c7/\c10/\c7/\c7/\(Dh true c5->c5)/\(c6->Dk xs=144/\0<=a/\a<Dx (12)/\Ej (0) (12) c8<=(144)/\Dk xs=144/\0<=b/\b<Dx (12)/\Ej c9 (1) c8<=(144)/\Dk xs=144/\En xs c2 len=c1/\Dk xs=Dk xs/\True)/\(c6=false->xs=c1/\Dk xs=Dk xs/\True))):
  evF (mkc K12) az 203 [.dat I a,.dat I b,.dat I len,.ptr 1 144 0 0] [(1,.buf 174 I xs [])] ⟨Y8 a b xs,.tup [],[(1,.buf 174 I (iM xs a b len) [])]⟩:=oE hvc
def ND(args:List AV)(m:Mem): Option jD:=match args,m with
 | [.dat (.int .i64) a,.dat (.int .i64) b,.dat (.int .i64) len,.ptr 1 g 0 0],[(1,.buf el (.int .i64) xs [])]=>if g=144/\el=174 then some ⟨Y8 a b xs,.tup [],[(1,.buf 174 I (iM xs a b len) [])]⟩else none
 | _,_=>none
def K13: Kt:=kOr 203 ND K12
def Sl(ls:Ll): Ann:=⟨λid s=>match id with
 | 3=>some {α:=Int,inv:=λk=>upN k 12,st:=λk=>ie (put s [(12,.dat I k)]) 1 (.buf 174 I (fY (Ee 12 k)) []),μ:=λk=>Dc (Dj 12 k)}
 | 6=>match s.sig.T 12 with
  | .dat (.int .i64) a=>some {α:=Int,inv:=λk=>upN k 12,st:=λk=>ie (put s [(15,.dat I k)]) 1 (.buf 174 I (fY (Dq (Ee 12 a) k)) []),μ:=λk=>Dc (Dj 12 k)}
  | _=>none
 | 14=>some {α:=Int,inv:=λk=>upN k (Df ls),st:=λk=>ie (put s [(31,.dat I k)]) 1 (.buf 174 I (iw ls k) []),μ:=λk=>Dc (Dj (Df ls) k)}
 | 19=>some {α:=Int,inv:=λk=>upN k 12,st:=λk=>ie (put s [(44,.dat I k)]) 1 (.buf 174 I (fwD ls k 0 0) []),μ:=λk=>Dc (Dj 12 k)}
 | 22=>match s.sig.T 44 with
  | .dat (.int .i64) o=>some {α:=Int,inv:=λk=>upN k 12,st:=λk=>ie (put s [(47,.dat I k)]) 1 (.buf 174 I (fwD ls o k 0) []),μ:=λk=>Dc (Dj 12 k)}
  | _=>none
 | 25=>match s.sig.T 44,s.sig.T 47 with
  | .dat (.int .i64) o,.dat (.int .i64) a=>some {α:=Int,inv:=λk=>upN k 12,st:=λk=>ie (put s [(50,.dat I k)]) 1 (.buf 174 I (fwD ls o a k) []),μ:=λk=>Dc (Dj 12 k)}
  | _,_=>none
 | _=>none,λ_ _=>none,λ_ _=>none⟩
theorem Ig(cs:LC)(ns os:LB)(fs:Lo)(ls:Ll)(ks:Lk)(hvc:
 let c4:=Dx (12);let c1:=(cs,ns,os,fs,ls,ks);let c2:=Fz (144) 0;let c3:=Df ls;true/\(noP c1->(∃x,upN x 12/\c1=c1/\144=144/\0=0/\0=0/\144=144/\0=0/\0=0/\0=x/\c2=c2/\c2=fY (12*x)/\True)/\∀(x:Int),let c5:=Dp x 12;let c6:=12*x;let c7:=fY c6;let c8:=x+1;upN x 12->(c5->(∃x_3,upN x_3 12/\c1=c1/\144=144/\0=0/\0=0/\144=144/\0=0/\0=0/\x=x/\x=x/\0=x_3/\c2=c2/\c7=fY (c6+x_3)/\True)/\∀(x_3:Int),let c9:=Dp x_3 12;let c10:=x_3+1;upN x_3 12->(c9->(Dy x x_3->Dk (fY (c6+x_3))=144/\0<=x/\x<Dx (12)/\Ej (0) (12) c4<=(144)/\Dk (fY (c6+x_3))=144/\0<=x_3/\x_3<Dx (12)/\Ej (Ej (0) (12) x) (1) c4<=(144)/\Dk (fY (c6+x_3))=144/\inR .i64 c10/\∃y,upN y 12/\(c1=c1/\144=144/\0=0/\0=0/\144=144/\0=0/\0=0/\x=x/\x=x/\c10=y/\c2=c2/\En (fY (c6+x_3)) (Ej (Ej (0) (12) x) (1) x_3) (-1)=fY (c6+y)/\True)/\Dc (12-y)<Dc (12-x_3))/\(Dy x x_3=false->inR .i64 c10/\∃y,upN y 12/\(c1=c1/\144=144/\0=0/\0=0/\144=144/\0=0/\0=0/\x=x/\x=x/\c10=y/\c2=c2/\fY (c6+x_3)=fY (c6+y)/\True)/\Dc (12-y)<Dc (12-x_3)))/\(c9=false->inR .i64 c8/\∃y,upN y 12/\(c1=c1/\144=144/\0=0/\0=0/\144=144/\0=0/\0=0/\c8=y/\c2=c2/\fY (c6+x_3)=fY (12*y)/\True)/\Dc (12-y)<Dc (12-x)))/\(c5=false->(∃x,upN x c3/\144=144/\0=0/\0=0/\144=144/\0=0/\0=0/\144=144/\0=0/\0=0/\ls=ls/\c3=c3/\0=x/\c2=c2/\c7=iw ls x/\True)/\∀(x:Int),let c11:=(Du ls (Dc x) (ByteArray.mk #[],(0:Int),(0:Int),(0:Int),(0:Int),(0:Int))).2;let c15:=iM (iw ls x) c11.1 c11.2.1 c11.2.2.2.1;let c16:=x+1;
 upN x c3->(Dp x c3->0<=x/\x<c3/\1=1/\0=0/\1=1/\1=1/\0=0/\1=1/\1=1/\0=0/\1=1/\1=1/\0=0/\Y8 c11.1 c11.2.1 (iw ls x)/\Dk (iw ls x)<=Dk c15/\inR .i64 c16/\∃y,upN y c3/\(144=144/\0=0/\0=0/\144=144/\0=0/\0=0/\144=144/\0=0/\0=0/\ls=ls/\c3=c3/\c16=y/\c2=c2/\c15=iw ls y/\True)/\Dc (c3-y)<Dc (c3-x))/\(Dp x c3=false->(∃x_4,upN x_4 12/\144=144/\0=0/\0=0/\144=144/\0=0/\0=0/\144=144/\0=0/\0=0/\0=x_4/\c2=c2/\iw ls x=fwD ls x_4 0 0/\True)/\∀(x:Int),let c17:=Dp x 12;let c18:=fwD ls x 0 0;let c19:=x+1;upN x 12->(c17->(∃x_6,upN x_6 12/\144=144/\0=0/\0=0/\144=144/\0=0/\0=0/\144=144/\0=0/\0=0/\x=x/\x=x/\0=x_6/\c2=c2/\c18=fwD ls x x_6 0/\True)/\∀(x_6:Int),let c20:=Dp x_6 12;let c21:=fwD ls x x_6 0;let c23:=x_6+1;upN x_6 12->(c20->(∃x_9,upN x_9 12/\144=144/\0=0/\0=0/\144=144/\0=0/\0=0/\144=144/\0=0/\0=0/\x=x/\x_6=x_6/\x=x/\x_6=x_6/\0=x_9/\c2=c2/\c21=fwD ls x x_6 x_9/\True)/\∀(x_9:Int),let c24:=Dp x_9 12;let c25:=fwD ls x x_6 x_9;let c26:=Dk c25;let c27:=Du c25 (Ej (Ej (0) (12) x_6) (1) x) 0;let c28:=Dy c27 (-1);let c13:=c28->c26=144;let c12:=c28->c28->c28;let c29:=Du c25 (Ej (Ej (0) (12) x) (1) x_9) 0;let c30:=Ea c28 (Dy c29 (-1)) false;let c31:=c27+c29;let c32:=iM c25 x_6 x_9 c31;let c33:=x_9+1;
 upN x_9 12->(c24->c26=144/\0<=x_6/\x_6<Dx (12)/\Ej (0) (12) c4<=(144)/\c26=144/\0<=x/\x<Dx (12)/\Ej (Ej (0) (12) x_6) (1) c4<=(144)/\c26=144/\c12/\c13/\(c28->0<=x)/\(c28->x<Dx (12))/\(c28->Ej (0) (12) c4<=(144))/\c12/\c12/\c13/\(c28->0<=x_9)/\(c28->x_9<Dx (12))/\(c28->Ej (Ej (0) (12) x) (1) c4<=(144))/\c12/\c13/\c12/\(Dh true c28->c28)/\(c30->c26=144/\0<=x_6/\x_6<Dx (12)/\Ej (0) (12) c4<=(144)/\c26=144/\0<=x/\x<Dx (12)/\Ej (Ej (0) (12) x_6) (1) c4<=(144)/\c26=144/\c26=144/\0<=x/\x<Dx (12)/\Ej (0) (12) c4<=(144)/\c26=144/\0<=x_9/\x_9<Dx (12)/\Ej (Ej (0) (12) x) (1) c4<=(144)/\c26=144/\inR .i64 c31/\Y8 x_6 x_9 c25/\c26<=Dk c32/\inR .i64 c33/\∃y,upN y 12/\(144=144/\0=0/\0=0/\144=144/\0=0/\0=0/\144=144/\0=0/\0=0/\x=x/\x_6=x_6/\x=x/\x_6=x_6/\c33=y/\c2=c2/\c32=fwD ls x x_6 y/\True)/\Dc (12-y)<Dc (12-x_9))/\(c30=false->inR .i64 c33/\∃y,upN y 12/\(144=144/\0=0/\0=0/\144=144/\0=0/\0=0/\144=144/\0=0/\0=0/\x=x/\x_6=x_6/\x=x/\x_6=x_6/\c33=y/\c2=c2/\c25=fwD ls x x_6 y/\True)/\Dc (12-y)<Dc (12-x_9)))/\(c24=false->inR IntKind.i64 c23/\∃y,upN y 12/\(144=144/\0=0/\0=0/\144=144/\0=0/\0=0/\144=144/\0=0/\0=0/\x=x/\x=x/\c23=y/\c2=c2/\c25=fwD ls x y 0/\True)/\Dc (12-y)<Dc (12-x_6)))/\(c20=false->inR .i64 c19/\∃y,upN y 12/\(144=144/\0=0/\0=0/\144=144/\0=0/\0=0/\144=144/\0=0/\0=0/\c19=y/\c2=c2/\c21=fwD ls y 0 0/\True)/\Dc (12-y)<Dc (12-x)))/\(c17=false->Dk c18=144/\0=0/\Dk c18=144/\Dk c2=144/\0=0/\Dk c2=144/\Dk c18=144/\Dk c18=144/\0=0/\Dk c18=144/\c18=bH ls/\True))))):
  evF (mkc K13) (lvA [(3,[1,2,3,4,5,6,8,9,10,11,12,15,29,30,31,44,47,50]),(6,[1,2,3,4,5,6,8,9,10,11,12,15,29,30,31,44,47,50]),(14,[2,3,6,8,9,10,11,29,30,31,44,47,50]),(19,[2,3,6,9,10,11,44,47,50]),(22,[2,3,6,9,10,11,44,47,50]),(25,[2,3,6,9,10,11,44,47,50])] (Sl ls)) 130 [net cs ns os fs ls ks] [] ⟨noP (cs,ns,os,fs,ls,ks),.av I (bH ls),[]⟩:=oE hvc
def K14: Kt:=kOr 130 (ax [.row N] (λ(n,_)=>noP n) λ(n,_)=>.av I (bH n.2.2.2.2.1)) K13
def YF(fs:Lo)(ls:Ll): Ann:=⟨λid s=>match id with
 | 6=>some {α:=Int,inv:=λk=>upN k (Df fs),st:=λk=>ie (put s [(18,.dat I k),(3,.buf 0 (Dk (bG (Df fs) ls k)))]) 0 (.buf 177 Fa (bG (Df fs) ls k) []),μ:=λk=>Dc (Dj (Df fs) k)}
 | 9=>match s.sig.T 18 with
  | .dat (.int .i64) b=>some {α:=Int,inv:=λk=>sW (Df fs) ls b k,st:=λk=>put s [(24,.dat I k),(3,.buf 0 (Dk (bG (Df fs) ls b)))],μ:=λk=>Dc (Dj (Df fs) k)}
  | _=>none
 | _=>none,λ_ _=>none,λ_ _=>none⟩
theorem QG(cs:LC)(ns os:LB)(fs:Lo)(ls:Ll)(ks:Lk)(hvc:
 let c1:=(cs,ns,os,fs,ls,ks);let c2:=ff c1;let c3:=Dk c2;let c4:=Ei (Int.ofNat c3) 0;let c5:=fq c1;let c6:=Df fs;true/\(True->True/\c3=c3/\(c4->c3=c3/\c2=c5/\True)/\(c4=false->noP c1/\Dk (Fz (144) 0)=144/\0=0/\Dk (Fz (144) 0)=144/\Dk (bH ls)=144/\(∃x,upN x c6/\c1=c1/\Value.slice none (0) (0)=Value.slice none (0) (0)/\c3=Dk (bG c6 ls x)/\144=144/\0=0/\0=0/\c6=c6/\0=x/\c2=bG c6 ls x/\bH ls=bH ls/\True)/\∀(x:Int),let c7:=Dk (bG c6 ls x);let c8:=[((3:Int),x,(111:Int))];let c9:=c7+Dk c8;let c10:=x+1;upN x c6->(Dp x c6->(∃x_3,sW c6 ls x x_3/\c1=c1/\Value.slice none (0) (0)=Value.slice none (0) (0)/\c7=c7/\144=144/\0=0/\0=0/\x=x/\c6=c6/\x=x/\c6=c6/\0=x_3/\bG c6 ls x=bG c6 ls x/\bH ls=bH ls/\True)/\∀(x_3:Int),let c11:=Eb (Du (bH ls) (Ej (Ej (0) (12) x_3) (1) x) 0) (-1);let c12:=x_3+1;
 sW c6 ls x x_3->(Dp x_3 c6->Dk (bH ls)=144/\0<=x_3/\x_3<Dx (12)/\Ej (0) (12) (Dx (12))<=(144)/\Dk (bH ls)=144/\0<=x/\x<Dx (12)/\Ej (Ej (0) (12) x_3) (1) (Dx (12))<=(144)/\Dk (bH ls)=144/\(c11->c7=c7/\(c9*(24))<=(140737488355328)/\c9<=(9223372036854775807)/\inR .i64 c10/\∃y,upN y c6/\(c1=c1/\Value.slice none (0) (0)=Value.slice none (0) (0)/\c9=Dk (bG c6 ls y)/\144=144/\0=0/\0=0/\c6=c6/\c10=y/\Ef (bG c6 ls x) c8=bG c6 ls y/\bH ls=bH ls/\True)/\Dc (c6-y)<Dc (c6-x))/\(c11=false->inR IntKind.i64 c12/\∃y,sW c6 ls x y/\(c1=c1/\Value.slice none (0) (0)=Value.slice none (0) (0)/\c7=c7/\144=144/\0=0/\0=0/\x=x/\c6=c6/\x=x/\c6=c6/\c12=y/\bG c6 ls x=bG c6 ls x/\bH ls=bH ls/\True)/\Dc (c6-y)<Dc (c6-x_3)))/\(Dp x_3 c6=false->inR .i64 c10/\∃y,upN y c6/\(c1=c1/\Value.slice none (0) (0)=Value.slice none (0) (0)/\c7=Dk (bG c6 ls y)/\144=144/\0=0/\0=0/\c6=c6/\c10=y/\bG c6 ls x=bG c6 ls y/\bH ls=bH ls/\True)/\Dc (c6-y)<Dc (c6-x)))/\(Dp x c6=false->c7=c7/\bG c6 ls x=c5/\True)))):
  evF (mkc K14) (lvA [(6,[1,2,3,4,5,6,17,18,23,24]),(9,[1,2,3,4,5,6,17,18,23,24])] (YF fs ls)) 64 [net cs ns os fs ls ks] [] ⟨True,.dat (.sl Fa) (fq (cs,ns,os,fs,ls,ks)),[]⟩:=oE hvc
def K15: Kt:=kOr 64 (ax [.row N] (λ_=>True) λ(n,_)=>.dat (.sl Fa) (fq n)) K14
def K16: Kt:=K15
theorem sR{n:Net}: noF n=true↔ff n=[]:=by unfold noF;rw[wU]
theorem ti{kind lim:Int}{l:List ByteArray}{g:List Bool}(h0:0<=lim)(h:bD kind lim l g=[]): (l.length:Int)<=lim/\∀i:Int,0<=i->i<l.length->HJ l g i=0:=by
 unfold bD at h;obtain⟨h1,h2⟩:=qBw.1 h;have hl:(l.length:Int)<=lim:=by
  unfold I2 at h2;split at h2
  .cases h2
  .omega
 refine⟨hl,λi i0 i1=>?_⟩
 unfold aR at h1;rw[qCv]at h1;have:=h1 i.toNat (qX.2 (by omega))
 rw[qR i0]at this;split at this
 .assumption
 .cases this
theorem om{l:List ByteArray}{g:List Bool}{i:Int}(h:HJ l g i=0): bF l i=0/\rule2 l i=0/\bO g i=0:=by
 unfold HJ at h;by_cases h1:bF l i=0
 .rw[if_neg (by simp[h1])]at h
  by_cases h2:rule2 l i=0
  .rw[if_neg (by simp[h2])]at h;exact⟨h1,h2,h⟩
  .rw[if_pos h2]at h;exact(h2 h).elim
 .rw[if_pos h1]at h;exact(h1 h).elim
theorem va{g:List Bool}{i:Int}(h:bO g i=0): g.getD i.toNat false=true:=by
 unfold bO at h;cases hg:g.getD i.toNat false with
 | true=>rfl
 | false=>rw[hg]at h;cases h
theorem iO(cs:LC)(ns os:LB)(fs:Lo)(ls:Ll)(ks:Lk)(h:noF (cs,ns,os,fs,ls,ks)=true): ns.length=cs.length/\bD 1 6 (aA cs ns) (bn cs)=[]/\bD 2 6 os (bU os)=[]/\bD 3 12 (aC fs) (cP (cs,ns,os,fs,ls,ks))=[]/\bD 4 40 (aD ls) (cD (cs,ns,os,fs,ls,ks))=[]/\bD 5 4 (aE ks) (bv ks)=[]:=by
 have:=sR.1 h;rw[v7]at this;simp only[qBw]at this;obtain⟨h0,h1,h2,h3,h4,h5⟩:=this;refine⟨?_,h1,h2,h3,h4,h5⟩;unfold E0 at h0;split at h0
 .assumption
 .cases h0
theorem iU{n:Net}{l:Line}(h:dc n l=true): 0<=aY l/\aY l<n.2.2.2.1.length/\0<=lTo l/\lTo l<n.2.2.2.1.length/\aY l≠lTo l/\(0<=lAt l/\lAt l<=1439)/\1<=aX l/\aX l<=5000:=by
 unfold dc dM dQ at h;simp only[qC,qE]at h;obtain⟨⟨⟨⟨⟨h1,h2⟩,h3⟩,h4⟩,h5⟩,h6⟩:=h;exact⟨h1.1,h1.2,h2.1,h2.2,h3,h4,h5.1,h5.2⟩
theorem nV(cs:LC)(ns os:LB)(fs:Lo)(ls:Ll)(ks:Lk)(h:noF (cs,ns,os,fs,ls,ks)=true): cA fs.length ls/\ls.length<=40:=by
 obtain⟨_,_,_,h3,h4,_⟩:=iO cs ns os fs ls ks h;obtain⟨l3,e3⟩:=ti (by decide) h3
 obtain⟨l4,e4⟩:=ti (by decide) h4
 have n3:(aC fs).length=fs.length:=map_length _ fs;have n4:(aD ls).length=ls.length:=map_length _ ls;refine⟨⟨by omega,λl hl=>?_⟩,by omega⟩
 obtain⟨i,hi⟩:=xY.1 hl;have hlt:i<ls.length:=(qF.1 hi).1;have:=va (om (e4 i (by omega) (by omega))).2.2
 rw[show(cD (cs,ns,os,fs,ls,ks))=ls.map (dc (cs,ns,os,fs,ls,ks))from rfl,l7 (dc (cs,ns,os,fs,ls,ks)) ls (i:Int).toNat l false (by omega),qA,show(i:Int).toNat=i by omega,hi]at this
 obtain⟨g1,g2,g3,g4,g5,_,g6,g7⟩:=iU this;exact⟨g1,g2,g3,g4,g5,g6,g7⟩
theorem jJ(xs:Li)(a b len:Int): (iM xs a b len).length=xs.length:=gK xs a b len
theorem IW{xs:Li}{a b len:Int}(h:xs.getD (a.toNat*12+b.toNat) 0=-1\/len<xs.getD (a.toNat*12+b.toNat) 0): xs.set (a.toNat*12+b.toNat) len=iM xs a b len:=by
 unfold iM dZ cell;rw[show(decide (xs.getD (a.toNat*12+b.toNat) 0=-1)||decide (len<xs.getD (a.toNat*12+b.toNat) 0))=true by simpa using h];rfl
theorem IX{xs:Li}{a b len:Int}(h1:xs.getD (a.toNat*12+b.toNat) 0≠-1)(h2:¬len<xs.getD (a.toNat*12+b.toNat) 0): xs=iM xs a b len:=by
 unfold iM dZ cell;rw[show(decide (xs.getD (a.toNat*12+b.toNat) 0=-1)||decide (len<xs.getD (a.toNat*12+b.toNat) 0))=false by rw[qBd];exact⟨vK h1,vK h2⟩];rfl
theorem WV(a b len:Int)(xs:Li): af Tryz.prog G0 203 [.dat I a,.dat I b,.dat I len,.ptr 1 144 0 0] [(1,.buf 174 I xs [])] ⟨Y8 a b xs,.tup [],[(1,.buf 174 I (iM xs a b len) [])]⟩:=by
 refine ae (c:=mkc K12) aES aL hm (Qb a b len xs ⟨rfl,λ⟨a0,a1,b0,b1,hl⟩=>?_⟩)
 have e:=jJ xs a b len;simp only[qc,Dh,Es,Di,qd,Dt,Eb,Dy,Dp,Ei,Eh,Ed,Ew,Df,Et,Dl,Dn,Eo,Dz,Dw,Dj,Dq,Ee,Fe,Dc,Dx,Dk,Ec,Em,Du,Eu,Ez,En,Ef,Fg,Fj,Fh,Ep,Ej,Ey,Fb]
 and_intros
 all_goals try (intros;omega)
 .intro h
  and_intros
  all_goals try omega
  exact IW h
 .rintro⟨h1,h2⟩;exact IX h1 h2
theorem NC: ∀args m c,ND args m=some c->af Tryz.prog G0 203 args m c:=by
 intro args m c h;unfold ND at h;split at h
 .split at h
  .rename_i e;obtain⟨rfl,rfl⟩:=e;cases h;exact WV _ _ _ _
  .cases h
 .cases h
theorem aER: aj Tryz.prog G0 K13:=ai NC aES
theorem qe(k:Int): (fY k).length=144:=by unfold fY;rw[vV,vX]
theorem Jl: List.replicate 144 0=fY 0:=by
 unfold fY;apply yG;intro i;rw[wO,qP];by_cases h:i<144
 .rw[if_pos h,vY h];simp
 .rw[if_neg h,wH (by rw[vX];omega)];rfl
theorem NK{x y:Int}(hx:0<=x)(hx1:x<12)(hy:0<=y)(hy1:y<12)(hne:x≠y): (fY (12*x+y)).set (x.toNat*12+y.toNat) (-1)=fY (12*x+(y+1)):=by
 apply yG;intro i;rw[yM,qe];unfold fY;rw[qP,qP];by_cases h:i<144
 .rw[vY h];simp only[zO];by_cases e:x.toNat*12+y.toNat=i
  .subst e;rw[if_pos rfl,if_pos h,if_pos (by omega),if_neg (by omega)]
  .rw[if_neg e]
   congr 1
   by_cases g:i<(12*x+y).toNat
   .have g':i<(12*x+(y+1)).toNat:=by omega
    rw[if_pos g,if_pos g']
   .have g':¬i<(12*x+(y+1)).toNat:=by omega
    rw[if_neg g,if_neg g']
 .rw[if_neg (by omega),wH (by rw[vX];omega)];rfl
theorem Jm{x:Int}(hx:0<=x)(hx1:x<12): fY (12*x+x)=fY (12*x+(x+1)):=by
 unfold fY;apply yF;intro i hi;have:=qX.1 hi;by_cases g:i<(12*x+x).toNat
 .have g':i<(12*x+(x+1)).toNat:=by omega
  rw[if_pos g,if_pos g']
 .rw[if_neg g];split
  .rw[if_pos (by omega)]
  .rfl
theorem NL(ls:Ll): fY (12*12)=iw ls 0:=by
 unfold iw fY EW;rw[show(Int.toNat 0)=0 from rfl,qCe,List.foldl_nil]
 apply yF;intro i hi;rw[if_pos (by have:=qX.1 hi;omega)]
theorem yd(ls:Ll)(k:Int): (iw ls k).length=144:=nW _
theorem EN{ls:Ll}{k:Int}(h0:0<=k)(h1:k<ls.length)(d:Line): iM (iw ls k) (ls.getD k.toNat d).2.1 (ls.getD k.toNat d).2.2.1 (ls.getD k.toNat d).2.2.2.2.1=iw ls (k+1):=by
 unfold iw;rw[show(k+1).toNat=k.toNat+1 by omega,wX,qA,qB (show k.toNat<ls.length by omega),qBr]
 rfl
theorem Ja(ls:Ll){k:Int}(h:¬k<ls.length): iw ls k=fwD ls 0 0 0:=by
 unfold iw;rw[qO (by omega)];rfl
theorem vR(ls:Ll)(o a b:Int): (fwD ls o a b).length=144:=pj ls _
theorem Ym{ls:Ll}{o a:Int}: fwD ls o a 12=fwD ls o (a+1) 0:=by
 unfold fwD;congr 2;omega
theorem Yn{ls:Ll}{o:Int}: fwD ls o 12 0=fwD ls (o+1) 0 0:=by
 unfold fwD;congr 2;omega
theorem HA{ls:Ll}{o a b:Int}(o0:0<=o)(o1:o<12)(a0:0<=a)(a1:a<12)(b0:0<=b)(b1:b<12): fwD ls o a (b+1)=w8 (fwD ls o a b) (o.toNat*144+a.toNat*12+b.toNat):=by
 unfold fwD;rw[show(o*144+a*12+(b+1)).toNat=(o.toNat*144+a.toNat*12+b.toNat)+1 by omega,show(o*144+a*12+b).toNat=o.toNat*144+a.toNat*12+b.toNat by omega,yn]
theorem Yl{ls:Ll}{o a b:Int}(o0:0<=o)(o1:o<12)(a0:0<=a)(a1:a<12)(b0:0<=b)(b1:b<12)
  (h1:(fwD ls o a b).getD (a.toNat*12+o.toNat) 0≠-1) (h2:(fwD ls o a b).getD (o.toNat*12+b.toNat) 0≠-1):
  iM (fwD ls o a b) a b ((fwD ls o a b).getD (a.toNat*12+o.toNat) 0+(fwD ls o a b).getD (o.toNat*12+b.toNat) 0)=fwD ls o a (b+1):=by
 rw[HA o0 o1 a0 a1 b0 b1];unfold w8;rw[show(o.toNat*144+a.toNat*12+b.toNat)/12%12=a.toNat by omega,show(o.toNat*144+a.toNat*12+b.toNat)/144=o.toNat by omega,show(o.toNat*144+a.toNat*12+b.toNat)%12=b.toNat by omega]
 unfold cell;rw[show((fwD ls o a b).getD (a.toNat*12+o.toNat) 0 != -1&&(fwD ls o a b).getD (o.toNat*12+b.toNat) 0 != -1)=true by simp only[qC,qCb];exact⟨h1,h2⟩,qAn]
 unfold iM;rw[qR a0,qR b0]
theorem aA4{ls:Ll}{o a b:Int}(o0:0<=o)(o1:o<12)(a0:0<=a)(a1:a<12)(b0:0<=b)(b1:b<12)
  (h:(fwD ls o a b).getD (a.toNat*12+o.toNat) 0≠-1->(fwD ls o a b).getD (o.toNat*12+b.toNat) 0=-1):fwD ls o a b=fwD ls o a (b+1):=by
 rw[HA o0 o1 a0 a1 b0 b1];unfold w8;rw[show(o.toNat*144+a.toNat*12+b.toNat)/12%12=a.toNat by omega,show(o.toNat*144+a.toNat*12+b.toNat)/144=o.toNat by omega,show(o.toNat*144+a.toNat*12+b.toNat)%12=b.toNat by omega]
 unfold cell;rw[show((fwD ls o a b).getD (a.toNat*12+o.toNat) 0 != -1&&(fwD ls o a b).getD (o.toNat*12+b.toNat) 0 != -1)=false by
  rw[Bool.and_eq_false_imp];intro g;rw[qCb]at g;rw[h g];rfl,qAp]
theorem Ls(cs:LC)(ns os:LB)(fs:Lo)(ls:Ll)(ks:Lk): af Tryz.prog G0 130 [net cs ns os fs ls ks] [] ⟨noP (cs,ns,os,fs,ls,ks),.av I (bH ls),[]⟩:=by
 refine ae (c:=mkc K13) aER aL hm (Ig cs ns os fs ls ks ⟨rfl,λhp=>?_⟩)
 obtain⟨ok,hls⟩:=nV cs ns os fs ls ks hp;simp only[qc,Dh,Es,Di,qd,Dt,Eb,Dy,Dp,Ei,Eh,Ed,Ew,Df,Et,Dl,Dn,Eo,Dz,Dw,Dj,Dq,Ee,Fe,Dc,Dx,Dk,Ec,Em,Du,Eu,Ez,En,Ef,Fg,Fj,Fh,Ep,Ej,Ey,Fb];have z12:upN 0 12:=⟨by decide,by decide⟩
 refine⟨⟨0,z12,rfl,Jl⟩,λx ⟨x0,x1⟩=>⟨λhx=>⟨⟨0,z12,rfl,by rw[Int.add_zero]⟩,λy ⟨y0,y1⟩=>⟨λhy=>⟨λhne=>?_,λhe=>?_⟩,λhy=>?_⟩⟩,λhx=>?_⟩⟩
 .have:=qe (12*x+y)
  and_intros
  all_goals try omega
  exact⟨y+1,⟨by omega,by omega⟩,⟨rfl,NK x0 hx y0 hy hne⟩,by omega⟩
 .subst he;exact⟨⟨by omega,by omega⟩,x+1,⟨by omega,by omega⟩,⟨rfl,Jm x0 hx⟩,by omega⟩
 .have:y=12:=by omega
  subst this;exact⟨⟨by omega,by omega⟩,x+1,⟨by omega,by omega⟩,⟨rfl,by congr 1;omega⟩,by omega⟩
 have ex:x=12:=by omega
 subst ex;refine⟨⟨0,⟨qL _,vC _⟩,rfl,NL ls⟩,λk ⟨k0,k1⟩=>⟨λhk=>?_,λhk=>?_⟩⟩
 .have ho:=ok.at_ _ (getD_mem (l:=ls) (i:=k.toNat) (d:=(⟨#[]⟩,0,0,0,0,0)) (by omega))
  have hn:=ok.n12;unfold aY lTo at ho;have e1:=yd ls k;refine⟨k0,hk,⟨by omega,by omega,by omega,by omega,e1⟩,by rw[jJ]<;>exact qJ _,⟨by omega,by omega⟩,k+1,⟨by omega,by omega⟩,⟨rfl,EN k0 hk _⟩,by omega⟩
 refine⟨⟨0,z12,rfl,Ja ls hk⟩,λo ⟨o0,o1⟩=>⟨λho=>⟨⟨0,z12,rfl,rfl⟩,λa ⟨a0,a1⟩=>⟨λha=>⟨⟨0,z12,rfl,rfl⟩,λb ⟨b0,b1⟩=>⟨λhb=>?_,λhb=>?_⟩⟩,λha=>?_⟩⟩,λho=>?_⟩⟩
 .have e1:=vR ls o a b;have bd1:=BL ok (k:=(o*144+a*12+b).toNat) (by omega) (a:=a.toNat) (b:=o.toNat) (by omega) (by omega)
  have bd2:=BL ok (k:=(o*144+a*12+b).toNat) (by omega) (a:=o.toNat) (b:=b.toNat) (by omega) (by omega)
  have bd1:-1<=(fwD ls o a b).getD (a.toNat*12+o.toNat) 0/\(fwD ls o a b).getD (a.toNat*12+o.toNat) 0<=20480000:=bd1;have bd2:-1<=(fwD ls o a b).getD (o.toNat*12+b.toNat) 0/\(fwD ls o a b).getD (o.toNat*12+b.toNat) 0<=20480000:=bd2
  and_intros
  all_goals try (intros;omega)
  .rintro⟨h1,h2⟩;have e2:=jJ (fwD ls o a b) a b ((fwD ls o a b).getD (a.toNat*12+o.toNat) 0+(fwD ls o a b).getD (o.toNat*12+b.toNat) 0);have e3:=Yl o0 ho a0 ha b0 hb h1 h2
   and_intros
   all_goals try omega
   exact⟨b+1,⟨by omega,by omega⟩,⟨rfl,e3⟩,by omega⟩
  .intro h;exact⟨⟨by omega,by omega⟩,b+1,⟨by omega,by omega⟩,⟨rfl,aA4 o0 ho a0 ha b0 hb h⟩,by omega⟩
 .have:b=12:=by omega
  subst this;exact⟨⟨by omega,by omega⟩,a+1,⟨by omega,by omega⟩,⟨rfl,Ym⟩,by omega⟩
 .have:a=12:=by omega
  subst this;exact⟨⟨by omega,by omega⟩,o+1,⟨by omega,by omega⟩,⟨rfl,Yn⟩,by omega⟩
 .have:o=12:=by omega
  subst this;have e1:=vR ls 12 0 0;have e2:(Fz 144 (0:Int)).length=144:=wG
  and_intros
  all_goals try omega
  rfl
theorem aEQ: aj Tryz.prog G0 K14:=ai (ag λ((cs,ns,os,fs,ls,ks),_)=>Ls cs ns os fs ls ks) aER
end Go.Eng.Sv
set_option maxRecDepth 100000
namespace Go.Eng.Sv
open Go.Proofs
theorem SR{n:Net}(h:¬(((ff n).length:Nat):Int)>0): noF n=true:=sR.2 (vS (by omega))
theorem Nb{n:Net}(h:(((ff n).length:Nat):Int)>0): noF n=false:=by
 cases e:noF n with
 | false=>rfl
 | true=>rw[sR.1 e]at h;simp at h
theorem G2: (Fz 144 (0:Int)).length=144:=wG
theorem AL(ls:Ll): (bH ls).length=144:=pj ls _
theorem pR(m:Int)(ls:Ll): bG m ls 0=[]:=rfl
theorem DT(m:Int)(ls:Ll)(k:Int): (bG m ls k).length<=k.toNat:=by
 unfold bG;exact wF (qCy _ _) (by rw[vX];exact qJ _)
theorem DR{m:Int}{ls:Ll}{k:Int}(h0:0<=k)(h:vj m.toNat ls k.toNat=true): bG m ls (k+1)=bG m ls k++[(3,k,111)]:=by
 unfold bG;rw[show(k+1).toNat=k.toNat+1 by omega,zT,qAu]
 simp[qR h0,h]
theorem IZ{m:Int}{ls:Ll}{k:Int}(h:vj m.toNat ls k.toNat=false)(h0:0<=k): bG m ls (k+1)=bG m ls k:=by
 unfold bG;rw[show(k+1).toNat=k.toNat+1 by omega,zT,qAu]
 simp[h]
theorem I0{m:Int}{ls:Ll}{a b:Int}(a0:0<=a)(a1:a<m)(h:(bH ls).getD (a.toNat*12+b.toNat) 0=-1): vj m.toNat ls b.toNat=true:=
 xE.2 ⟨a.toNat,qX.2 (by omega),vF h⟩
theorem EG{m:Int}{ls:Ll}{a b:Int}(hm:sW m ls b a)(a1:a<m)(h:(bH ls).getD (a.toNat*12+b.toNat) 0≠-1): sW m ls b (a+1):=by
 obtain⟨h0,h1,h2⟩:=hm;refine⟨by omega,by omega,?_⟩
 rw[show(a+1).toNat=a.toNat+1 by omega,zT,kY,h2]
 simp only[qAk,List.all_nil,gG,zQ];exact vF h
theorem I6{m:Int}{ls:Ll}{a b:Int}(hm:sW m ls b a)(a1:¬a<m): vj m.toNat ls b.toNat=false:=by
 obtain⟨h0,h1,h2⟩:=hm;have:a=m:=by omega
 subst this;unfold vj;rw[qAb];intro x hx;have:=qN.1 h2 x hx;simpa using this
theorem Xk(cs:LC)(ns os:LB)(fs:Lo)(ls:Ll)(ks:Lk): af Tryz.prog G0 64 [net cs ns os fs ls ks] [] ⟨True,.dat (.sl Fa) (fq (cs,ns,os,fs,ls,ks)),[]⟩:=by
 refine ae (c:=mkc K14) aEQ aL hm (QG cs ns os fs ls ks ⟨rfl,λ_=>?_⟩)
 simp only[qc,Dh,Es,Di,qd,Dt,Eb,Dy,Dp,Ei,Eh,Ed,Ew,Df,Et,Dl,Dn,Eo,Dz,Dw,Dj,Dq,Ee,Fe,Dc,Dx,Dk,Ec,Em,Du,Eu,Ez,En,Ef,Fg,Fj,Fh,Ep,Ej,Ey,Fb];refine⟨λh=>by unfold fq;rw[Nb h];rfl,λh=>?_⟩
 have hno:=SR h;have hf:=sR.1 hno;obtain⟨ok,hls⟩:=nV cs ns os fs ls ks hno;have hn:=ok.n12;have e1:=AL ls;refine⟨hno,G2,G2,e1,⟨0,⟨qL _,vC _⟩,by rw[hf,pR],rfl,by rw[hf,pR]⟩,λb ⟨b0,b1⟩=>⟨λhb=>⟨⟨qL _,vC _,by simp⟩,λa ha=>⟨λhlt=>?_,λhge=>?_⟩⟩,λhb=>?_⟩⟩
 .have a0:=ha.1;have hl:=DT (fs.length:Int) ls b
  and_intros
  all_goals try (intros;omega)
  .intro he;have e2:=DR b0 (I0 a0 hlt he);exact⟨by simp only[wC];omega,by simp only[wC];omega,⟨by omega,by omega⟩,b+1,⟨by omega,by omega⟩,⟨by rw[e2,qG],rfl,e2.symm⟩,by omega⟩
  .intro hne;exact⟨⟨by omega,by omega⟩,a+1,EG ha hlt hne,rfl,by omega⟩
 .have e2:=IZ (I6 ha hge) b0;exact⟨⟨by omega,by omega⟩,b+1,⟨by omega,by omega⟩,⟨by rw[e2],rfl,e2.symm⟩,by omega⟩
 .have:b=fs.length:=by omega
  subst this;unfold fq;rw[hno];rfl
theorem oJ: ∀(rs:Ll) (row:Li),(rs.foldl gv row).length=row.length
 | [],_=>rfl
 | l::rs,row=>by rw[kJ,oJ rs,jY]
theorem wn(ls:Ll)(m a:Nat): ∀r,(bfN ls m a r).length=m
 | 0=>by show(oI m a).length=m;simp[oI]
 | r+1=>by rw[zp];unfold zo;rw[oJ,wn ls m a r]
theorem ON{m:Nat}{ls:Ll}(ok:cA m ls){row:Li}(hr:row.length=m){l:Line}(hl:l∈ls){K:Int}(h:∀b,at1 row b<=K): ∀b,at1 (gv row l) b<=K+5000:=by
 intro b;have o:=ok.at_ l hl;rw[oH (by rw[hr];omega)]
 have h1:=h b;have h2:=h (aY l).toNat;split<;>omega
theorem Cm{m:Nat}{ls:Ll}(ok:cA m ls): ∀(rs:Ll) (row:Li) (K:Int),(∀l∈rs,l∈ls)->row.length=m->(∀b,at1 row b<=K)->∀b,at1 (rs.foldl gv row) b<=K+5000*rs.length
 | [],_,_,_,_,h=>λb=>by have:=h b;simpa using this
 | l::rs,row,K,hs,hr,h=>λb=>by
  have:=Cm ok rs (gv row l) (K+5000) (λx hx=>hs x (by simp[hx])) (by rw[jY];exact hr) (ON ok hr (hs l (by simp)) h) b
  rw[kJ,vW];omega
theorem aBs{m:Nat}{ls:Ll}(ok:cA m ls)(hls:ls.length<=40)(a:Nat): ∀(r:Nat) b,at1 (bfN ls m a r) b<=200000*r
 | 0,b=>by
  show at1 (oI m a) b<=_;unfold at1 oI;rw[qA,qP];by_cases h:b<m
  .rw[vY h];simp only[zO,qQ];split<;>omega
  .rw[wH (by rw[vX];omega)]
   simp
 | r+1,b=>by
  rw[zp];have:=Cm ok ls (bfN ls m a r) (200000*r) (λ_ h=>h) (wn ls m a r) (aBs ok hls a r) b
  unfold zo;omega
theorem aFq: aj Tryz.prog G0 K15:=
 ai (ag λ((cs,ns,os,fs,ls,ks),_)=>Xk cs ns os fs ls ks) aEQ
theorem any_congr{α:Type}{p q:α->Bool}: ∀{l:List α},(∀x∈l,p x=q x)->l.any p=l.any q
 | [],_=>rfl
 | a::l,h=>by rw[qCk,qCk,h a (by simp),any_congr λx hx=>h x (by simp[hx])]
theorem aFp: aj Tryz.prog G0 K16:=aFq
end Go.Eng.Sv
set_option maxRecDepth 100000
namespace Go.Eng.Sv
open Go.Proofs
theorem U4{l:List ByteArray}: (∀i:Int,0<=i->i<l.length->rule2 l i=0)↔l.Pairwise (λa b=>a.toList≠b.toList):=by
 have key:∀i:Nat,∀h:i<l.length,rule2 l (i:Int)=0↔∀j,∀hj:j<i,(l[j]'(by omega)).toList≠l[i].toList:=by
  intro i hi;unfold rule2 gb;rw[qW,qA,qB hi,qQ];constructor
  .intro h j hj e;split at h
   .cases h
   .rename_i hn;refine hn (xE.2 ⟨l[j]'(by omega),wY.2 ⟨j,by rw[qI];omega,by rw[qCs]⟩,?_⟩)
    rw[e];exact yI _
  .intro h;rw[if_neg];intro hn;obtain⟨w,hw,he⟩:=xE.1 hn;obtain⟨j,hj,rfl⟩:=wY.1 hw;rw[qI]at hj;rw[qCs]at he;exact h j (by omega) (xH.1 he)
 rw[List.pairwise_iff_getElem];constructor
 .intro h i j hi hj hij;exact(key j hj).1 (h j (by omega) (by omega)) i hij
 .intro h i i0 i1;have:=(key i.toNat (by omega)).2 λj hj=>h j i.toNat (by omega) (by omega) hj
  rwa [qR i0]at this
theorem rp{kind lim:Int}{l:List ByteArray}{g:List Bool}(h0:0<=lim): bD kind lim l g=[]↔(l.length:Int)<=lim/\(∀x∈l,cm x=true)/\l.Pairwise (λa b=>a.toList≠b.toList)/\∀i,i<l.length->g.getD i false=true:=by
 have nm:∀i:Nat,∀h:i<l.length,gb l (i:Int)=l[i]:=λi hi=>by
  unfold gb;rw[qW,qA,qB hi,qQ]
 constructor
 .intro h;obtain⟨h1,h2⟩:=ti h0 h;refine⟨h1,λx hx=>?_,U4.1 λi i0 i1=>(om (h2 i i0 i1)).2.1,λi hi=>?_⟩
  .obtain⟨i,hi,rfl⟩:=wY.1 hx;have:=(om (h2 i (by omega) (by omega))).1
   unfold bF at this;rw[nm i hi]at this;split at this
   .assumption
   .cases this
  .have:=va (om (h2 i (by omega) (by omega))).2.2
   rwa [qW]at this
 .rintro⟨h1,h2,h3,h4⟩;unfold bD aR I2;rw[if_neg (by omega),wM,qCv]
  intro i hi;have hi:=qX.1 hi;have hlt:i<l.length:=by omega
  have e1:bF l (i:Int)=0:=by unfold bF;rw[nm i hlt,if_pos (h2 _ (wQ hlt))]
  have e2:=U4.2 h3 (i:Int) (by omega) (by omega)
  have e3:bO g (i:Int)=0:=by unfold bO;rw[qW,if_pos (h4 i hlt)]
  have:HJ l g (i:Int)=0:=by unfold HJ;rw[e1,e2,e3];rfl
  rw[if_pos this]
theorem jQ{α:Type}{kind lim:Int}(h0:0<=lim)(nm:α->ByteArray)(good:α->Bool)(xs:List α): bD kind lim (xs.map nm) (xs.map good)=[] ↔
  (xs.length:Int)<=lim/\(∀x∈xs,cm (nm x)=true)/\xs.Pairwise (λa b=>(nm a).toList≠(nm b).toList)/\∀x∈xs,good x=true:=by
 rw[rp h0,vV,List.pairwise_map];constructor
 .rintro⟨h1,h2,h3,h4⟩;refine⟨h1,λx hx=>h2 _ (List.mem_map_of_mem hx),h3,λx hx=>?_⟩
  obtain⟨i,hi,rfl⟩:=wY.1 hx;have:=h4 i hi
  rwa [qA,qP,qB hi,zO,qQ]at this
 .rintro⟨h1,h2,h3,h4⟩;refine⟨h1,λx hx=>?_,h3,λi hi=>?_⟩
  .obtain⟨y,hy,rfl⟩:=zA.1 hx;exact h2 y hy
  .rw[qA,qP,qB hi,zO,qQ];exact h4 _ (wQ hi)
theorem lw(cs:LC)(ns os:LB)(fs:Lo)(ls:Ll)(ks:Lk)(h:noF (cs,ns,os,fs,ls,ks)=true): (ls.length:Int)<=40/\(∀x∈ls,cm x.1=true)/\ls.Pairwise (λa b=>a.1.toList≠b.1.toList)/\∀x∈ls,dc (cs,ns,os,fs,ls,ks) x=true:=
 (jQ (by decide) (λl:Line=>l.1) (dc (cs,ns,os,fs,ls,ks)) ls).1 (iO cs ns os fs ls ks h).2.2.2.2.1
theorem Walk.map {ls rs:Ll} (h:∀l∈ls,∃r∈rs,aY r=aY l/\lTo r=lTo l/\aX r<=aX l) {a b:Nat} {n:Int} (w:Walk ls a b n):∃m,m<=n/\Walk rs a b m:=by
 induction w with
 | nil=>exact⟨0,qL _,.nil _⟩
 | snoc l hl _ ih=>
  obtain⟨m,hm,g⟩:=ih;obtain⟨r,hr,e1,e2,e3⟩:=h l hl;rw[<- e1]at g;exact⟨m+aX r,by omega,e2▸.snoc r hr g⟩
theorem Walk.ends {ls rs:Ll} (h:∀l∈ls,∃r∈rs,aY r=aY l/\lTo r=lTo l) {a b:Nat} {n:Int} (w:Walk ls a b n):∃m,Walk rs a b m:=by
 induction w with
 | nil=>exact⟨0,.nil _⟩
 | snoc l hl _ ih=>
  obtain⟨m,g⟩:=ih;obtain⟨r,hr,e1,e2⟩:=h l hl;rw[<- e1]at g;exact⟨m+aX r,e2▸.snoc r hr g⟩
end Go.Eng.Sv
set_option maxRecDepth 100000
namespace Go.Eng.Sv
open Go.Proofs
noncomputable def K18: Kt:=K16
noncomputable def K19: Kt:=K18
theorem aEa: aj Tryz.prog G0 K18:=aFp
theorem bA{x:Int}(h:-1000000000<=x/\x<=1000000000): inR .i64 x:=by unfold inR;simp only;omega
theorem fD(cs:LC)(ns os:LB)(fs:Lo)(ls:Ll)(ks:Lk)(h:noF (cs,ns,os,fs,ls,ks)=true): (fs.length:Int)<=12/\(∀x∈fs,cm x.1=true)/\fs.Pairwise (λa b=>a.1.toList≠b.1.toList)/\∀x∈fs,db (cs,ns,os,fs,ls,ks) x=true:=
 (jQ (by decide) (λl:Off=>l.1) (db (cs,ns,os,fs,ls,ks)) fs).1 (iO cs ns os fs ls ks h).2.2.2.1
theorem aD9: aj Tryz.prog G0 K19:=aEa
theorem wi(cs:LC)(ns os:LB)(fs:Lo)(ls:Ll)(ks:Lk): fq (cs,ns,os,fs,ls,ks)=[]↔noF (cs,ns,os,fs,ls,ks)=true/\bG fs.length ls fs.length=[]:=by
 unfold fq;cases h:noF (cs,ns,os,fs,ls,ks)with
 | true=>exact⟨λg=>⟨rfl,g⟩,λg=>g.2⟩
 | false=>
  constructor
  .intro g;have:noF (cs,ns,os,fs,ls,ks)=true:=sR.2 g;rw[h]at this;cases this
  .intro g;cases g.1
end Go.Eng.Sv
set_option maxRecDepth 100000
noncomputable section
namespace Go.Eng.Sv
open Go.Proofs
def Pe(a b:Int): Int:=a%b
def bX(d:Int): Bool:=decide (-1000000<=d/\d<=1000000)
def nO(d:Int): Prop:=-1000000000000<=d/\d<=1000000000000
def D4(b:Int): Prop:=0<b/\b<=1000000
def ga(z:Int)(w:List Bool)(h:Li)(t:Int): Prop:=aw z w h=true/\-2000000000<=t/\t<=2000000000
def lr(z:Int)(w:List Bool)(h:Li)(d m:Int): Prop:=aw z w h=true/\bX d=true/\0<=m/\m<1440
def gY(z t:Int): Int:=(t+z)/1440
def Pj(z t:Int): Int:=(t+z)%1440
def jF(z d m:Int): Int:=d*1440+m-z
theorem Zz(a b:Int)(hvc:
 let c1:=Dp (Fq a b) 0;let c2:=Fq a b+b;true/\(nO a/\D4 b->b≠0/\(c1->inR .i64 c2/\c2=Pe a b/\True)/\(c1=false->Fq a b=Pe a b/\True))):
  evF (mkc K19) az 162 [.dat I a,.dat I b] [] ⟨nO a/\D4 b,.dat I (Pe a b),[]⟩:=oE hvc
theorem Ir(a:Int)(hvc:
 let c1:=Ed a (-1000000);true/\(True->(c1->c1->c1)/\(Dh true c1->c1)/\Ea c1 (Eh a 1000000) false=bX a/\True)):
  evF (mkc K19) az 163 [.dat I a] [] ⟨True,.dat .bool (bX a),[]⟩:=oE hvc
def KT1: Kt:=kOr 162 (ax [.val I,.val I] (λ(a,b,_)=>nO a/\D4 b) λ(a,b,_)=>.dat I (Pe a b)) <|
 kOr 163 (ax [.val I] (λ_=>True) λ(a,_)=>.dat .bool (bX a)) K19
theorem Qr(z:Int)(w:List Bool)(h:Li)(t:Int)(hvc:
 let c1:=Di (aw z w h);let c2:=Di c1;let c3:=Ea c1 true (Dp t (-2000000000));let c4:=Di c3;let c5:=Ea c3 true (Ei t 2000000000);let c6:=Pe (t+z) 1440;let c7:=(t+z)-c6;let c8:=Gg c7 1440;true/\(ga z w h t->True/\(c2->c2->c2)/\(Dh true c2->c2)/\(c4->c4->c4)/\(Dh true c4->c4)/\(c5->0=gY z t/\0=Pj z t/\True)/\(c5=false->inR .i64 (t+z)/\(nO (t+z)/\D4 1440)/\inR .i64 c7/\Eo 1440 0/\inR .i64 c8/\c8=gY z t/\c6=Pj z t/\True))):
  evF (mkc KT1) az 98 [cal z w h,.dat I t] [] ⟨ga z w h t,.tup [.dat I (gY z t),.dat I (Pj z t)],[]⟩:=oE hvc
theorem VP(z:Int)(w:List Bool)(h:Li)(d m:Int)(hvc:
 let c1:=Di (aw z w h);let c2:=Di c1;let c3:=Ea c1 true (Di (bX d));let c4:=Di c3;let c5:=Ea c3 true (Dp m 0);let c6:=Di c5;let c7:=Ea c5 true (Ed m 1440);let c8:=d*1440;let c9:=c8+m;let c10:=c9-z;true/\(lr z w h d m->True/\(c2->c2->c2)/\(c2->True)/\(c2->c2->c2)/\(Dh true c2->c2)/\(c4->c4->c4)/\(Dh true c4->c4)/\(c6->c6->c6)/\(Dh true c6->c6)/\(c7->0=jF z d m/\True)/\(c7=false->inR .i64 c8/\inR .i64 c9/\inR .i64 c10/\c10=jF z d m/\True))):
  evF (mkc KT1) az 99 [cal z w h,.dat I d,.dat I m] [] ⟨lr z w h d m,.dat I (jF z d m),[]⟩:=oE hvc
def KT2: Kt:=kOr 98 (ax [.row C,.val I] (λ(c,t,_)=>ga c.1 c.2.1 c.2.2 t) λ(c,t,_)=>.tup [.dat I (gY c.1 t),.dat I (Pj c.1 t)]) <|
 kOr 99 (ax [.row C,.val I,.val I] (λ(c,d,m,_)=>lr c.1 c.2.1 c.2.2 d m) λ(c,d,m,_)=>.dat I (jF c.1 d m)) KT1
theorem aDp(a b:Int): af Tryz.prog G0 162 [.dat I a,.dat I b] [] ⟨nO a/\D4 b,.dat I (Pe a b),[]⟩:=by
 refine ae (c:=mkc K19) aD9 aL hm (Zz a b ⟨rfl,λ⟨⟨h1,h2⟩,h3,h4⟩=>?_⟩)
 have e:=qBc (a:=a) (b:=b);have e1:=kZ a (show b≠0 by omega)
 have e2:=kC a h3;have e3:(b.natAbs:Int)=b:=Int.natAbs_of_nonneg (by omega)
 simp only[Eo,Dp,Fq,Dq,Pe,inR,qE,vN];by_cases hc:0<=a\/b ∣ a
 .rw[if_pos hc]at e;refine⟨by omega,λh=>by omega,λh=>⟨by omega,trivial⟩⟩
 .rw[if_neg hc,e3]at e;have hz:a%b≠0:=λh0=>hc (.inr (Int.dvd_of_emod_eq_zero h0))
  refine⟨by omega,λh=>⟨by omega,by omega,trivial⟩,λh=>by omega⟩
theorem L8(a:Int): af Tryz.prog G0 163 [.dat I a] [] ⟨True,.dat .bool (bX a),[]⟩:=by
 refine ae (c:=mkc K19) aD9 aL hm (Ir a ⟨rfl,λ_=>⟨λh _=>h,λh=>by simpa[Dh]using h,?_,trivial⟩⟩)
 rw[jb];simp[bX,Ed,Eh]
theorem aDZ: aj Tryz.prog G0 KT1:=ai (ag λ(a,b,_)=>aDp a b)<|ai (ag λ(a,_)=>L8 a) aD9
theorem XH(z:Int)(w:List Bool)(h:Li)(t:Int): af Tryz.prog G0 98 [cal z w h,.dat I t] [] ⟨ga z w h t,.tup [.dat I (gY z t),.dat I (Pj z t)],[]⟩:=by
 refine ae (c:=mkc KT1) aDZ aL hm (Qr z w h t ⟨rfl,λ⟨hv,h1,h2⟩=>?_⟩)
 obtain⟨⟨v1,v2,v3,v4⟩,_⟩:=cF.1 hv;have a1:¬t < -2000000000:=by omega
 have a2:¬t>2000000000:=by omega
 simp only[hv,a1,a2,ql,jb,Dh,Di,zQ,qAs,zS,vO,qBj,kV,zZ,xR,yC,Dp,Ei,kH,zJ,vT,kT,gG,kP,qAm,qAv,qAj,kG,Eo,Dj,Dq,Gg,inR,Pe,gY,Pj,nO,D4];have e0:=kZ (t+z) (show(1440:Int)≠0 by omega)
 have e1:=kC (t+z) (show(0:Int)<1440 by omega)
 have e3:t+z-(t+z)%1440=1440*((t+z)/1440):=by omega
 rw[e3,qDc _ (by omega)]
 omega
theorem aAr(z:Int)(w:List Bool)(h:Li)(d m:Int): af Tryz.prog G0 99 [cal z w h,.dat I d,.dat I m] [] ⟨lr z w h d m,.dat I (jF z d m),[]⟩:=by
 refine ae (c:=mkc KT1) aDZ aL hm (VP z w h d m ⟨rfl,λ⟨hv,hd,h1,h2⟩=>?_⟩)
 obtain⟨⟨v1,v2,v3,v4⟩,_⟩:=cF.1 hv;have a1:¬m<0:=by omega
 have a2:¬m≥1440:=by omega
 simp only[hv,hd,a1,a2,ql,jb,Dh,Di,zQ,qAs,zS,vO,qBj,kV,zZ,xR,yC,Dp,Ed,kH,zJ,vT,kT,gG,kP,qAm,qAv,qAj,kG,Dj,Dq,Ee,inR,jF];unfold bX at hd;have:=wJ hd;omega
theorem aDW: aj Tryz.prog G0 KT2:=ai (ag λ((z,w,h),t,_)=>XH z w h t)<|ai (ag λ((z,w,h),d,m,_)=>aAr z w h d m) aDZ
end Go.Eng.Sv
set_option maxRecDepth 100000
noncomputable section
namespace Go.Eng.Sv
open Go.Proofs
def BK(h:Li)(d i:Int): Bool:=decide (h.getD i.toNat 0≥d)
def Po(h:Li)(i:Int): Prop:=0<=i/\i<h.length
def ib(g:Int->Bool)(n:Int): Int:=(((List.range n.toNat).filter λ(i:Nat)=>!g (i:Int)).length:Int)
def jH(g:Int->Bool)(pre:Int->Prop)(n:Int): Prop:=0<=n/\n<=1000000/\(∀i,0<=i->i<n->pre i)/\∀i j,0<=i->i<=j->j<n->g i=true->g j=true
def lT(g:Int->Bool)(n i j:Int): Prop:=0<=i/\i<=j/\j<=n/\(0<i->g (i-1)=false)/\(j<n->g j=true)
def atS(h:Li)(d:Int): Int:=ib (BK h d) h.length
def bP(w:List Bool)(h:Li)(d:Int): Bool:=w.getD (d%7).toNat false&&!h.contains d
def p1(x:Int×Int): Int:=x.1
def p2(x:Int×Int): Int:=x.2
def uJ(w:List Bool)(h:Li): Prop:=w.length=7/\h.length<=40/\∀i:Nat,i+1<h.length->h.getD i 0<h.getD (i+1) 0
theorem aCy(i d z:Int)(w:List Bool)(h:Li)(hvc:
 true/\(Po h i->0<=i/\i<Df h/\Ed (Du h (Dc i) 0) d=BK h d i/\True)):
  evF (mkc KT2) az 267 [.dat I i,.ip C (z,w,h),.ip I d] [] ⟨Po h i,.dat .bool (BK h d i),[]⟩:=oE hvc
def Xy(g:Int->Bool)(n:Int): Ann:=⟨λid s=>match id with
 | 2=>some {α:=Int×Int,inv:=λx=>lT g n (p1 x) (p2 x),st:=λx=>put s [(5,.dat I (p1 x)),(6,.dat I (p2 x))],μ:=λx=>Dc (Dj (p2 x) (p1 x))}
 | _=>none,λ_ _=>none,λ_ _=>none⟩
theorem Kq(n:Int)(pre:Int->Prop)(g:Int->Bool)(hvc:
 let c6:=Ty.int IntKind.i64;true/\(jH g pre n->(∃x,lT g n (p1 x) (p2 x)/\AV.clo1 c6 Ty.bool pre g=AV.clo1 c6 Ty.bool pre g/\(0:Int)=(0:Int)/\0=p1 x/\n=p2 x/\True)/\∀(x:Int×Int),let c1:=Dp (p1 x) (p2 x);let c2:=p1 x+p2 x;let c3:=Gi c2 1;let c4:=Di (g c3);let c5:=c3+1;lT g n (p1 x) (p2 x)->(c1->inR .i64 c2/\inR IntKind.u64 c2/\Dl 0 1/\Dc 1<=(64)/\inR .i64 c3/\pre c3/\(c4->inR .i64 c5/\∃y,lT g n (p1 y) (p2 y)/\(AV.clo1 c6 Ty.bool pre g=AV.clo1 c6 Ty.bool pre g/\(0:Int)=(0:Int)/\c5=p1 y/\p2 x=p2 y/\True)/\Dc (p2 y-p1 y)<Dc (p2 x-p1 x))/\(c4=false->∃y,lT g n (p1 y) (p2 y)/\(AV.clo1 c6 Ty.bool pre g=AV.clo1 c6 Ty.bool pre g/\(0:Int)=(0:Int)/\p1 x=p1 y/\c3=p2 y/\True)/\Dc (p2 y-p1 y)<Dc (p2 x-p1 x)))/\(c1=false->p1 x=ib g n/\True))):
  evF (mkc KT2) (lvA [(2,[1,4,5,6,7])] (Xy g n)) 266 [.dat I n,.clo1 I .bool pre g] [] ⟨jH g pre n,.dat I (ib g n),[]⟩:=oE hvc
def KT3: Kt:=λf args m=>match f,args,m with
 | 267,[.dat (.int .i64) i,.ip (.pair (.int .i64) (.pair (.sl .bool) (.sl (.int .i64)))) c,.ip (.int .i64) d],[]=>some ⟨Po c.2.2 i,.dat .bool (BK c.2.2 d i),[]⟩
 | 266,[.dat (.int .i64) n,.fn 267 [.ip (.pair (.int .i64) (.pair (.sl .bool) (.sl (.int .i64)))) c,.ip (.int .i64) d]],[]=>some ⟨jH (BK c.2.2 d) (Po c.2.2) n,.dat I (ib (BK c.2.2 d) n),[]⟩
 | _,_,_=>KT2 f args m
def aCq: Ann:=⟨λ_ _=>none,λid s=>match id with
 | 3=>some (frz (allNames s) s)
 | _=>none,λ_ _=>none⟩
theorem PS(d z:Int)(w wk:List Bool)(h:Li)(hvc:
 let c9:=Df h;let c1:=Pe d 7;let c2:=Du wk (Dc c1) false;let c3:=Di c2;let c4:=(z,w,h);let c5:=ib (BK h d) c9;let c6:=Eb c5 c9;let c7:=Di c6;let c8:=c7->c7->c7;true/\(uJ wk h/\nO d->(nO d/\D4 7)/\Dk wk=7/\0<=c1/\c1<Dx (7)/\(c3->false=bP wk h d/\True)/\(c3=false->d=d/\wk=wk/\c4=c4/\d=d/\false=false/\d=d/\c1=c1/\c2=c2/\c2=c2/\c3=c3/\jH (BK h d) (Po h) c9/\c8/\c8/\c8/\(c7->0<=c5)/\(c7->c5<Df h)/\c8/\c8/\c8/\(Dh true c7->c7)/\Ea c6 true (Dy (Du h (Dc c5) 0) d)=bP wk h d/\True))):
  evF (mkc KT3) aCq 265 [.dat I d,.ia .bool wk,.ip C (z,w,h)] [] ⟨uJ wk h/\nO d,.dat .bool (bP wk h d),[]⟩:=oE hvc
theorem J8(z:Int)(w:List Bool)(h:Li)(hvc:
 let c3:=Fz (7) false;let c1:=Gm c3 w;let c2:=(z,w,h);true/\(Dk w=7->0=0/\7=7/\Dk c3=7/\Dk c3=7/\Dk c1=7/\0=0/\c1=w/\c2=c2/\True)):
  evF (mkc KT3) az 221 [cal z w h] [] ⟨Dk w=7,.fn 265 [.ia .bool w,.ip C (z,w,h)],[]⟩:=oE hvc
def KT4: Kt:=λf args m=>match f,args,m with
 | 265,[.dat (.int .i64) d,.ia .bool w,.ip (.pair (.int .i64) (.pair (.sl .bool) (.sl (.int .i64)))) c],[]=>some ⟨uJ w c.2.2/\nO d,.dat .bool (bP w c.2.2 d),[]⟩
 | 221,[.agg [.dat (.int .i64) z,.dat (.sl .bool) w,.dat (.sl (.int .i64)) h]],[]=>some ⟨Dk w=7,.fn 265 [.ia .bool w,.ip C (z,w,h)],[]⟩
 | _,_,_=>KT3 f args m
theorem Wx(z:Int)(w:List Bool)(h:Li)(d:Int)(hvc:
 let c1:=Ea (aw z w h) (bX d) false;let c2:=c1->c1->c1;true/\(aw z w h/\bX d->True/\(aw z w h->aw z w h->aw z w h)/\(aw z w h->True)/\(Dh true (aw z w h)->aw z w h)/\c2/\(c1->Dk w=7)/\c2/\c2/\(c1->uJ w h/\nO d)/\(Dh true c1->c1)/\Ea c1 (bP w h d) false=bP w h d/\True)):
  evF (mkc KT4) az 286 [cal z w h,.dat I d] [] ⟨aw z w h=true/\bX d=true,.dat .bool (bP w h d),[]⟩:=oE hvc
theorem Ve{h:Li}(hi:∀i:Nat,i+1<h.length->h.getD i 0<h.getD (i+1) 0): ∀(k i:Nat),i+k+1<h.length->h.getD i 0<h.getD (i+k+1) 0
 | 0,i,hl=>hi i hl
 | k+1,i,hl=>by
  have h1:=Ve hi k i (by omega)
  have h2:=hi (i+k+1) (by omega)
  have e:i+(k+1)+1=i+k+1+1:=by omega
  rw[e];omega
theorem EY{h:Li}(hi:∀i:Nat,i+1<h.length->h.getD i 0<h.getD (i+1) 0){i j:Nat}(hij:i<j)(hj:j<h.length): h.getD i 0<h.getD j 0:=by
 have:=Ve hi (j-i-1) i (by omega)
 rwa [show i+(j-i-1)+1=j by omega]at this
theorem nh{g:Int->Bool}{i:Nat}: ∀N:Nat,(∀x:Nat,x<N->g (x:Int)=decide (i<=x))->((List.range N).filter λ(x:Nat)=>!g (x:Int)).length=min i N
 | 0,_=>by simp
 | N+1,h=>by
  rw[zT,xC,qG,nh N λx hx=>h x (by omega)]
  by_cases hN:i<=N
  .have e:g (N:Int)=true:=by rw[h N (by omega)];simpa using hN
   simp only[xB,e,zZ,qBh,vT,yQ,yP];omega
  .have e:g (N:Int)=false:=by rw[h N (by omega)];simpa using hN
   simp only[xB,e,yC,qBh,xO,vW,yP];omega
theorem search_end{g:Int->Bool}{pre:Int->Prop}{n i j:Int}(hp:jH g pre n)(ht:lT g n i j)(he:¬i<j): i=ib g n:=by
 obtain⟨p0,_,_,p3⟩:=hp;obtain⟨t0,t1,t2,t3,t4⟩:=ht;have hij:i=j:=by omega
 subst hij;have key:∀x:Nat,x<n.toNat->g (x:Int)=decide (i.toNat<=x):=λx hx=>by
  by_cases hxi:i.toNat<=x
  .rw[vF hxi];exact p3 i x t0 (by omega) (by omega) (t4 (by omega))
  .rw[vK hxi];cases hg:g (x:Int)with
   | false=>rfl
   | true=>
    have:=p3 x (i-1) (by omega) (by omega) (by omega) hg
    rw[t3 (by omega)]at this
    cases this
 unfold ib;rw[nh _ key];omega
theorem RN(n:Int)(pre:Int->Prop)(g:Int->Bool): af Tryz.prog G0 266 [.dat I n,.clo1 I .bool pre g] [] ⟨jH g pre n,.dat I (ib g n),[]⟩:=by
 refine ae (c:=mkc KT2) aDW aL hm (Kq n pre g ⟨rfl,λhp=>?_⟩)
 have hp0:=hp.1;have hp1:=hp.2.1;have hsh:∀x:Int,0<=x->Gi x 1=x/2:=λx hx=>by
  simp only[Gi];rw[show(2:Int) ^ (1:Int).toNat=2 by decide,qCn _ (by omega)]
 simp only[Di,qAs,zS,vO,zJ,kD,Dp,Dl,Dz,Dj,Dq,Dw,Dc,qE,vN];refine⟨⟨(0,n),⟨qL _,hp0,qL _,λh=>absurd h (by simp only[p1];omega),λh=>absurd h (by simp only[p2];omega)⟩,rfl,rfl⟩,λx hx=>⟨λhlt=>?_,λhge=>search_end hp hx hge⟩⟩
 obtain⟨i,j⟩:=x;obtain⟨t0,t1,t2,t3,t4⟩:=hx;simp only[p1,p2]at t0 t1 t2 t3 t4 hlt ⊢;rw[hsh (i+j) (by omega)]
 simp only[inR];refine⟨by omega,by omega,by omega,by decide,by omega,hp.2.2.1 _ (by omega) (by omega),λhg=>⟨by omega,((i+j)/2+1,j),⟨by simp only;omega,by simp only;omega,t2,λ_=>?_,t4⟩,⟨rfl,rfl⟩,by simp only;omega⟩,
  λhg=>⟨(i,(i+j)/2),⟨t0,by simp only;omega,by simp only;omega,t3,λ_=>hg⟩,⟨rfl,rfl⟩,by simp only;omega⟩⟩
 simp only[Int.add_sub_cancel];exact hg
theorem aEk(i d:Int)(c:C.den): af Tryz.prog G0 267 [.dat I i,.ip C c,.ip I d] [] ⟨Po c.2.2 i,.dat .bool (BK c.2.2 d i),[]⟩:=
 ae (c:=mkc KT2) aDW aL hm (aCy i d c.1 c.2.1 c.2.2 ⟨rfl,λh=>⟨h.1,h.2,rfl,trivial⟩⟩)
theorem L1(n d:Int)(c:C.den): af Tryz.prog G0 266 [.dat I n,.fn 267 [.ip C c,.ip I d]] [] ⟨jH (BK c.2.2 d) (Po c.2.2) n,.dat I (ib (BK c.2.2 d) n),[]⟩:=
 (RN n (Po c.2.2) (BK c.2.2 d)).args λC us hG hr=>by
  obtain⟨u,us',e,g1,u2,us2,e2,g3,g4⟩:=hr;exact⟨u,us',e,g1,u2,us2,e2,jA (by kernel_rfl) rfl (λx=>aEk x d c) hG g3,g4⟩
theorem aDV: aj Tryz.prog G0 KT3:=by
 intro f args m c h;unfold KT3 at h;split at h
 .cases h;exact aEk _ _ _
 .cases h;exact L1 _ _ _
 .exact aDW _ _ _ _ h
theorem H3{h:Li}(hi:∀i:Nat,i+1<h.length->h.getD i 0<h.getD (i+1) 0)(d:Int):
  0<=atS h d/\atS h d<=h.length/\(∀i:Nat,(i:Int)<atS h d->h.getD i 0<d)/\∀i:Nat,atS h d<=i->i<h.length->d<=h.getD i 0:=by
 have hex:∃k:Nat,k<=h.length/\(∀i:Nat,i<k->h.getD i 0<d)/\∀i:Nat,k<=i->i<h.length->d<=h.getD i 0:=by
  have:∀N:Nat,N<=h.length->∃k:Nat,k<=N/\(∀i:Nat,i<k->h.getD i 0<d)/\∀i:Nat,k<=i->i<N->d<=h.getD i 0:=by
   intro N;induction N with
   | zero=>intro _;exact⟨0,qJ _,λi hi=>by omega,λi _ hi=>by omega⟩
   | succ N ih=>
    intro hN;obtain⟨k,k1,k2,k3⟩:=ih (by omega)
    by_cases hk:k<N
    .refine⟨k,by omega,k2,λi h1 h2=>?_⟩
     rcases zC i N with h3 | h3
     .exact k3 i h1 h3
     .have hin:i=N:=by omega
      have:=k3 k (qJ _) hk;have:=EY hi hk (show N<h.length by omega)
      rw[hin];omega
    .have ek:k=N:=by omega
     subst ek;by_cases hd:h.getD k 0<d
     .refine⟨k+1,qJ _,λi hi2=>?_,λi h1 h2=>by omega⟩
      rcases zC i k with h3 | h3
      .exact k2 i h3
      .rw[show i=k by omega];exact hd
     .exact⟨k,by omega,k2,λi h1 h2=>by rw[show i=k by omega];omega⟩
  exact this h.length (qJ _)
 obtain⟨k,k1,k2,k3⟩:=hex;have e:atS h d=k:=by
  unfold atS ib;rw[nh (i:=k) _ (λx hx=>?_)]
  .omega
  .unfold BK;simp only[qW];by_cases hx2:k<=x
   .rw[vF hx2];exact vF (k3 x hx2 (by omega))
   .have:=k2 x (by omega)
    rw[vK hx2];exact vK (by omega)
 rw[e];exact⟨by omega,by omega,λi hi=>k2 i (by omega),λi h1 h2=>k3 i (by omega) h2⟩
theorem NY{w:List Bool}{h:Li}(hc:uJ w h)(d:Int): jH (BK h d) (Po h) h.length:=by
 refine⟨by omega,by have:=hc.2.1;omega,λi h0 h1=>⟨h0,h1⟩,λi j h0 hij hj hg=>?_⟩
 unfold BK at hg ⊢;simp only[qE]at hg ⊢;rcases Int.lt_or_le i j with hlt | hge
 .have:=EY hc.2.2 (show i.toNat<j.toNat by omega) (by omega)
  omega
 .rw[show j=i by omega];exact hg
theorem VI{w:List Bool}{h:Li}(hc:uJ w h)(d:Int): (decide (atS h d=h.length)||(h.getD (atS h d).toNat 0 != d))=!h.contains d:=by
 obtain⟨g0,g1,g2,g3⟩:=H3 hc.2.2 d;obtain⟨k,hk⟩:∃k,k=atS h d:=⟨_,rfl⟩;rw[<- hk]at g0 g1 g2 g3 ⊢;have hmem:d∈h↔k<h.length/\h.getD k.toNat 0=d:=by
  constructor
  .intro hm;obtain⟨i,hi⟩:=xY.1 hm;have hil:=(qF.1 hi).1;have e:h.getD i 0=d:=by rw[qA,hi];rfl
   have h1:k<=i:=by
    rcases Int.lt_or_le (i:Int) k with hlt | hge
    .have:=g2 i hlt;omega
    .exact hge
   have h2:k.toNat=i:=by
    rcases zC k.toNat i with hlt | hge
    .have:=EY hc.2.2 hlt hil;have:=g3 k.toNat (by omega) (by omega)
     omega
    .omega
   exact⟨by omega,by rw[h2];exact e⟩
  .rintro⟨h1,h2⟩;have hlt:k.toNat<h.length:=by omega
   rw[qA,qB hlt]at h2;simp only[qQ]at h2;rw[<- h2];exact wQ _
 by_cases hd:d∈h
 .obtain⟨h1,h2⟩:=hmem.1 hd;have:h.contains d=true:=by simpa using hd
  rw[this,h2];have:¬k=h.length:=by omega
  simp[this]
 .have:h.contains d=false:=by simpa using hd
  rw[this];by_cases hk2:k=h.length
  .simp[hk2]
  .have:h.getD k.toNat 0≠d:=λe=>hd (hmem.2 ⟨by omega,e⟩)
   simp only[hk2,kH,xR,yC,qCb,ne_eq];exact this
theorem XC(d:Int)(wk:List Bool)(c:C.den): af Tryz.prog G0 265 [.dat I d,.ia .bool wk,.ip C c] [] ⟨uJ wk c.2.2/\nO d,.dat .bool (bP wk c.2.2 d),[]⟩:=by
 obtain⟨z,w,h⟩:=c;refine ae (c:=mkc KT3) aDV aL hm (PS d z w wk h ⟨rfl,λ⟨hc,hd⟩=>?_⟩)
 have hs:=NY hc d;obtain⟨g0,g1,g2,g3⟩:=H3 hc.2.2 d;have e0:=kZ d (show(7:Int)≠0 by omega)
 have e1:=kC d (show(0:Int)<7 by omega)
 have ea:ib (BK h d) (Df h)=atS h d:=rfl;have hs':jH (BK h d) (Po h) (Df h):=hs;simp only[ea,hs',ql,jb,Dh,Di,zQ,qAs,zS,vO,qBj,kV,zJ,kD,Pe,Du,Dc,Eb,Dy,Dl,Dn,Df,Dx,Dk,qAf];refine⟨⟨hd,by omega,by omega⟩,hc.1,e0,by exact_mod_cast e1,λhw=>?_,λhw=>⟨λ_=>g0,λhne=>by omega,?_⟩⟩
 .unfold bP;rw[hw];rfl
 .unfold bP;rw[hw,zQ,<- VI hc d]
  congr 1
theorem RL(z:Int)(w:List Bool)(h:Li): af Tryz.prog G0 221 [cal z w h] [] ⟨Dk w=7,.fn 265 [.ia .bool w,.ip C (z,w,h)],[]⟩:=by
 refine ae (c:=mkc KT3) aDV aL hm (J8 z w h ⟨rfl,λhw=>?_⟩)
 have hw:w.length=7:=hw;have e:Gm (Fz 7 false) w=w:=by
  simp only[Gm,Fz,wG,<- hw,xW];rw[zM (by simp),wM]
 refine⟨rfl,rfl,by simp[Dk,Fz],by simp[Dk,Fz],by rw[e];exact hw,rfl,e,rfl,trivial⟩
theorem aBx: aj Tryz.prog G0 KT4:=by
 intro f args m c h;unfold KT4 at h;split at h
 .cases h;exact XC _ _ _
 .cases h;exact RL _ _ _
 .exact aDV _ _ _ _ h
theorem zi{z:Int}{w:List Bool}{h:Li}(hv:aw z w h=true): uJ w h:=by
 obtain⟨⟨_,_,v3,v4⟩,v5⟩:=cF.1 hv;exact⟨v3,v4,v5⟩
theorem SJ{d:Int}(hd:bX d=true): nO d:=by
 unfold bX at hd;have:=wJ hd;exact⟨by omega,by omega⟩
theorem aAB(z:Int)(w:List Bool)(h:Li)(d:Int): af Tryz.prog G0 286 [cal z w h,.dat I d] [] ⟨aw z w h=true/\bX d=true,.dat .bool (bP w h d),[]⟩:=by
 refine ae (c:=mkc KT4) aBx aL hm (Wx z w h d ⟨rfl,λ⟨hv,hd⟩=>?_⟩)
 have hc:=zi hv;simp only[hv,hd,jb,Dh,zQ,qAs,zS,vO,qBj,kV,kG,Dk];exact⟨hc.1,hc,SJ hd⟩
end Go.Eng.Sv
set_option maxRecDepth 100000
noncomputable section
namespace Go.Eng.Sv
open Go.Proofs
def iG(w:List Bool)(h:Li)(a n:Int): Li:=((List.range n.toNat).map λ(i:Nat)=>a+(i:Int)).filter λd=>bP w h d
def kq(w:List Bool)(h:Li)(a d:Int): Nat:=(((List.range (d-a).toNat).map λ(i:Nat)=>a+(i:Int)).filter λd=>bP w h d).length
def Js(w:List Bool)(h:Li)(a n:Int): Prop:=uJ w h/\-1000000000<=a/\a<=1000000000/\-100000000<=n/\n<=100000000
def lK(a n d:Int): Prop:=a<=d/\(d<=a+n\/d=a)
def uA(w:List Bool)(h:Li)(d:Int): Option Int:=(iG w h d 60).head?
def iu(w:List Bool)(h:Li)(d:Int): Int:=(uA w h d).getD 0
def iq(w:List Bool)(h:Li)(d:Int): Int:=if(uA w h d).isSome then 0 else 20
def Pz(z:Int)(w:List Bool)(h:Li)(d:Int): Prop:=aw z w h=true/\bX d=true
def isZ(k:Nat): Prop:=k=0
theorem Wj (z : Int) (w : List Bool) (h : Li) (a n : Int) (hvc :
  true = true ∧ (Dk w = 7 → Dk w = 7 ∧ 1 = 1 ∧ 0 = 0 ∧ a = a ∧ n = n ∧ 1 = 1 ∧ 0 = 0 ∧ AV.fn (265) [AV.ia Ty.bool w, AV.ip ((Ty.int
  IntKind.i64).pair (Ty.bool.sl.pair (Ty.int IntKind.i64).sl)) (z, w, h)] = AV.fn (265) [AV.ia Ty.bool w, AV.ip ((Ty.int IntKind.i64).pair (Ty.bool.sl.pair
  (Ty.int IntKind.i64).sl)) (z, w, h)] ∧ True)) :
    evF (mkc KT4) az 164 [cal z w h, .dat I a, .dat I n] [] ⟨Dk w = 7, .fn 222 [.ip I a, .ip I n, .ipv (.fn 265 [.ia .bool w, .ip C (z, w, h)])], []⟩ := oE hvc
def aBa(w:List Bool)(h:Li)(a n:Int): F8:=⟨λid y=>match id with
 | 1=>some {α:=Int,inv:=λd=>lK a n d,st:=λd=>⟨put y.s [(5,.dat I d)],kq w h a d,true⟩,μ:=λd=>Dc (Dj (Dq a n) d)}
 | _=>none,λ_ _=>none,λid=>id==3⟩
theorem Qw(z a n:Int)(w w':List Bool)(h:Li)(hvc:
 let c1:=(z,w',h);let c2:=iG w h a n;let c3:=Dk c2;true/\true/\true/\false=false/\∀(l:Nat),Js w h a n->(∃x,lK a n x/\(l=l/\a=a/\n=n/\w=w/\c1=c1/\a=x/\a=a/\True)/\0=kq w h a x/\true)/\∀(x:Int),let c4:=Dp x (a+n);let c5:=kq w h a x;let c6:=c5+(1);let c7:=x+1;let c8:=Ea (bP w h x) (Di false) false;lK a n x->inR .i64 (a+n)/\(c4->(uJ w h/\nO x)/\(bP w h x->(bP w h x->bP w h x)/\(bP w h x->bP w h x)/\l=l/\true/\lF c2 c5 x/\∀(b:Bool),let c9:=Ea (bP w h x) (Di b) false;(Dh true (bP w h x)->bP w h x)/\(c9->b->c6=c3)/\(c9=false->inR IntKind.i64 c7/\∃y,lK a n y/\((l=l/\a=a/\n=n/\w=w/\c1=c1/\c7=y/\a=a/\True)/\c6=kq w h a y/\b)/\Dc ((a+n)-y)<Dc ((a+n)-x)))/\(bP w h x=false->(bP w h x->bP w h x->bP w h x)/\(Dh true (bP w h x)->bP w h x)/\(c8->true->c5=c3)/\(c8=false->inR .i64 c7/\∃y,lK a n y/\((l=l/\a=a/\n=n/\w=w/\c1=c1/\c7=y/\a=a/\True)/\c5=kq w h a y/\true)/\Dc ((a+n)-y)<Dc ((a+n)-x))))/\(c4=false->true->c5=c3)):
  evI (mkc KT4) (aBa w h a n) 222 [.ip I a,.ip I n,.ipv (.fn 265 [.ia .bool w,.ip C (z,w',h)])] ⟨Js w h a n,I,iG w h a n⟩:=oE hvc
def KR1: Kt:=kOr 164 (ax [.row C,.val I,.val I] (λ(c,_,_,_)=>Dk c.2.1=7) λ(c,a,n,_)=>.fn 222 [.ip I a,.ip I n,.ipv (.fn 265 [.ia .bool c.2.1,.ip C c])]) KT4
def aEf: FuncId->List AV->Option i9:=λf caps=>match f,caps with
 | 222,[.ip (.int .i64) a,.ip (.int .i64) n,.ipv (.fn 265 [.ia .bool w,.ip (.pair (.int .i64) (.pair (.sl .bool) (.sl (.int .i64)))) c])]=>some ⟨Js w c.2.2 a n,I,iG w c.2.2 a n⟩
 | _,_=>none
def flat(s:St): St:={s with tm:=s.tm.map gN}
def aDy: Ann:=⟨λid s=>match id with
 | 4=>some {α:=Nat,inv:=λk=>isZ k,st:=λ_=>flat s,μ:=λk=>k}
 | _=>none,λ_ _=>none,λ_ _=>none⟩
noncomputable def aB3(K:Kt): Cfg:=⟨Tryz.prog,G0,K,λ_=>false,aEf,true,λ_ _ _=>none,λ_=>false⟩
theorem VZ(z:Int)(w:List Bool)(h:Li)(d:Int)(hvc:
 let c1:=Di (aw z w h);let c2:=Di c1;let c3:=Ea c1 true (Di (bX d));let c4:=(z,w,h);let c5:=iG w h d 60;true/\(Pz z w h d->True/\(c2->c2->c2)/\(c2->True)/\(c2->c2->c2)/\(Dh true c2->c2)/\(c3->1=1/\0=0/\1=1/\0=0/\1=1/\0=0/\1=1/\0=0/\0=iu w h d/\1=iq w h d/\True)/\(c3=false->Dk w=7/\Js w h d 60/\(∃x,isZ x/\x=0/\z=z/\w=w/\h=h/\d=d/\c4=c4/\1=1/\0=0/\0=0/\1=1/\0=0/\0=0/\z=z/\w=w/\h=h/\aw z w h=aw z w h/\c1=c1/\c1=c1/\c3=c3/\z=z/\w=w/\h=h/\d=d/\d=d/\(60:Int)=(60:Int)/\w=w/\c4=c4/\(0:Int)=(0:Int)/\(0:Int)=(0:Int)/\True)/\(∀(x:Nat) (y:Int),isZ x->lF c5 x y->1=1/\0=0/\1=1/\0=0/\1=1/\0=0/\1=1/\0=0/\y=iu w h d/\0=iq w h d/\True)/\∀(x:Nat),isZ x->x=Dk c5->1=1/\0=0/\1=1/\0=0/\1=1/\0=0/\1=1/\0=0/\0=iu w h d/\20=iq w h d/\True))):
  evF (aB3 KR1) aDy 160 [cal z w h,.dat I d] [] ⟨Pz z w h d,.tup [.dat I (iu w h d),.dat I (iq w h d)],[]⟩:=oE hvc
theorem aAA(z:Int)(w:List Bool)(h:Li)(a n:Int): af Tryz.prog G0 164 [cal z w h,.dat I a,.dat I n] [] ⟨Dk w=7,.fn 222 [.ip I a,.ip I n,.ipv (.fn 265 [.ia .bool w,.ip C (z,w,h)])],[]⟩:=by
 refine ae (c:=mkc KT4) aBx aL hm (Wj z w h a n ⟨rfl,λhw=>?_⟩)
 exact⟨hw,rfl,rfl,rfl,rfl,rfl,rfl,rfl,trivial⟩
theorem aD0: aj Tryz.prog G0 KR1:=ai (ag λ((z,w,h),a,n,_)=>aAA z w h a n) aBx
theorem N9{α:Type}{f:Nat->α}{p:α->Bool}{k:Nat}(hp:p (f k)=true): ∀N:Nat,k<N->(((List.range N).map f).filter p)[(((List.range k).map f).filter p).length]?=some (f k)
 | 0,h=>by omega
 | N+1,h=>by
  rw[zT,yY,xC];rcases zC k N with hk | hk
  .have ih:=N9 hp N hk;rw[vI (qF.1 ih).1];exact ih
  .have e:N=k:=by omega
   subst e;rw[qV (qJ _),qCc];simp[hp]
theorem OS{w:List Bool}{h:Li}{a n x:Int}(h1:a<=x)(h2:x<a+n)(hw:bP w h x=true): lF (iG w h a n) (kq w h a x) x:=by
 have e:a+((x-a).toNat:Int)=x:=by omega
 have:=N9 (f:=λ(i:Nat)=>a+(i:Int)) (p:=λd=>bP w h d) (k:=(x-a).toNat) (by simp only[e];exact hw) n.toNat (by omega)
 simp only[e]at this;exact this
theorem rz{w:List Bool}{h:Li}{a x:Int}(h1:a<=x): kq w h a (x+1)=kq w h a x+(if bP w h x then 1 else 0):=by
 unfold kq;rw[show(x+1-a).toNat=(x-a).toNat+1 by omega,zT,yY,xC,qG]
 have e:a+((x-a).toNat:Int)=x:=by omega
 congr 1
 simp only[zG,qCd,e,xB,qBh];split<;>simp_all
theorem HS(w:List Bool)(h:Li)(a:Int): kq w h a a=0:=by
 unfold kq;rw[show(a-a).toNat=0 by omega];rfl
theorem cnt_end{w:List Bool}{h:Li}{a n x:Int}(hx:lK a n x)(hge:¬x<a+n): kq w h a x=(iG w h a n).length:=by
 unfold kq iG;obtain⟨g1,g2⟩:=hx;rw[show(x-a).toNat=n.toNat by omega]
theorem aAw(a n:Int)(w:List Bool)(c:C.den): mC Tryz.prog G0 222 [.ip I a,.ip I n,.ipv (.fn 265 [.ia .bool w,.ip C c])] ⟨Js w c.2.2 a n,I,iG w c.2.2 a n⟩:=by
 obtain⟨z,w',h⟩:=c;refine jq (c:=mkc KT4) (A:=aBa w h a n) aBx aL hm ?_;refine Qw z a n w w' h ⟨rfl,rfl,rfl,rfl,λl ⟨hc,b1,b2,b3,b4⟩=>?_⟩
 simp only[ql,jb,Dh,Di,zQ,qAs,zS,vO,qBj,kV,zZ,yC,xR,kP,qAv,qAm,gG,kT,zJ,kD,vT,xG,reduceCtorEq,qAj,kG,Dp,Ei,Ed,Eh,Dj,Dq,Dw,Dc,Dk,Dx,Ec,qE,vN,kH,qAq];refine⟨⟨a,⟨qL _,.inr rfl⟩,rfl,(HS w h a).symm⟩,λx hx=>?_⟩
 have hx1:=hx.1;have hx2:=hx.2;refine⟨⟨by omega,by omega⟩,λhlt=>⟨⟨hc,by omega,by omega⟩,λhw=>?_,λhw=>?_⟩,λhge=>cnt_end hx hge⟩
 .simp only[hw,ql,jb,Dh,Di,zQ,qAs,zS,vO,qBj,kV,zZ,yC,xR,kP,qAv,qAm,gG,kT,zJ,kD,vT,xG,reduceCtorEq,qAj,kG,Dp,Ei,Ed,Eh,Dj,Dq,Dw,Dc,Dk,Dx,Ec,qE,vN,kH,qAq];refine⟨OS hx1 hlt hw,λb=>⟨λe1 e2=>(by rw[e1]at e2;cases e2),λhb=>⟨⟨by omega,by omega⟩,x+1,⟨by omega,.inl (by omega)⟩,⟨rfl,?_,hb⟩,by omega⟩⟩⟩
  rw[rz hx1,hw];rfl
 .simp only[hw,ql,jb,Dh,Di,zQ,qAs,zS,vO,qBj,kV,zZ,yC,xR,kP,qAv,qAm,gG,kT,zJ,kD,vT,xG,reduceCtorEq,qAj,kG,Dp,Ei,Ed,Eh,Dj,Dq,Dw,Dc,Dk,Dx,Ec,qE,vN,kH,qAq];refine⟨⟨by omega,by omega⟩,x+1,⟨by omega,.inl (by omega)⟩,⟨rfl,?_⟩,by omega⟩
  rw[rz hx1,hw];rfl
theorem aBK: br Tryz.prog G0 aEf:=by
 intro f caps c h;unfold aEf at h;split at h
 .cases h;exact aAw _ _ _ _
 .cases h
theorem okd{d:Int}(hd:bX d=true): -1000000<=d/\d<=1000000:=by
 unfold bX at hd;exact wJ hd
theorem aAu(z:Int)(w:List Bool)(h:Li)(d:Int): af Tryz.prog G0 160 [cal z w h,.dat I d] [] ⟨Pz z w h d,.tup [.dat I (iu w h d),.dat I (iq w h d)],[]⟩:=by
 refine ae (c:=aB3 KR1) aD0 aBK hm (VZ z w h d ⟨rfl,λ⟨hv,hd⟩=>?_⟩)
 have hc:=zi hv;have hd':=okd hd;simp only[hv,hd,ql,jb,Dh,Di,zQ,qAs,zS,vO,qBj,kV,zZ,yC,xR,kP,qAv,qAm,gG,kT,zJ,kD,vT,xG,reduceCtorEq,qAj,kG,Dp,Ei,Ed,Eh,Dj,Dq,Dw,Dc,Dk,Dx,Ec,qE,vN,kH,qAq];refine⟨hc.1,⟨hc,by omega,by omega,by omega,by omega⟩,⟨0,rfl,rfl⟩,λx y hx hy=>?_,λx hx hl=>?_⟩
 .have hx:x=0:=hx;subst hx;have:uA w h d=some y:=by
   have hy:(iG w h d 60)[0]?=some y:=hy;unfold uA;rw[List.head?_eq_getElem?];exact hy
  simp[iu,iq,this]
 .have hx:x=0:=hx;subst hx;have:uA w h d=none:=by
   unfold uA;rw[vS hl.symm];rfl
  simp[iu,iq,this]
theorem Bn{w:List Bool}{h:Li}{a n y:Int}(hy:y∈iG w h a n): a<=y/\y<a+n/\bP w h y=true:=by
 unfold iG at hy;obtain⟨h1,h2⟩:=xK.1 hy;obtain⟨i,hi,rfl⟩:=zA.1 h1;have:=qX.1 hi;exact⟨by omega,by omega,h2⟩
end Go.Eng.Sv
