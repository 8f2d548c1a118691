/- PeSvDist PeSv1n PeSv2n PeSv3n PeSv4n PeSv5n PeSvKn PeSvSn PeTt1n PeTt2n PeTr1n PeTr2n PeTr3n PeTr4n PeTr5n -/
import Derived.Test.YtlakcpmgefpfaaaGreatDoorECPromA
import Derived.Test.YtlakcpmgefpfaaaGreatDoorECPromB
import Derived.Test.YtlakcpmgefpfaaaGreatDoorECPromC
import Derived.Test.YtlakcpmgefpfaaaGreatDoorChecked
set_option linter.unusedSimpArgs false
set_option linter.unusedVariables false
namespace Go.Eng.Sv
def bg(l:Line): Int:=l.2.1
def lTo(l:Line): Int:=l.2.2.1
def lAt(l:Line): Int:=l.2.2.2.1
def bf(l:Line): Int:=l.2.2.2.2.1
def cell(xs:List Int)(a b:Nat): Int:=xs.getD (a*12+b) 0
def eJ(xs:List Int)(a b len:Int): List Int:=
 bif decide (cell xs a.toNat b.toNat=-1)||decide (len<cell xs a.toNat b.toNat)then xs.set (a.toNat*12+b.toNat) len else xs
def FM: List Int:=(List.range 144).map λi=>if i/12=i%12 then 0 else -1
def oG(ls:Ll): List Int:=ls.foldl (λxs l=>eJ xs (bg l) (lTo l) (bf l)) FM
def xk(xs:List Int)(q:Nat): List Int:=
 bif (cell xs (q/12%12) (q/144) != -1)&&(cell xs (q/144) (q%12) != -1)then eJ xs (q/12%12:Nat) (q%12:Nat) (cell xs (q/12%12) (q/144)+cell xs (q/144) (q%12))else xs
def fwN(ls:Ll)(k:Nat): List Int:=(List.range k).foldl xk (oG ls)
def yb(ls:Ll): List Int:=fwN ls 1728
structure cI (n:Nat) (ls:Ll):Prop where
 n12:n<=12
 at_:∀l∈ls,0<=bg l/\bg l<n/\0<=lTo l/\lTo l<n/\bg l≠lTo l/\1<=bf l/\bf l<=5000
theorem UW{xs:List Int}{a b c d:Nat}{x:Int}(hb:b<12)(hd:d<12)(hl:a*12+b<xs.length):
  cell (xs.set (a*12+b) x) c d=if c=a/\d=b then x else cell xs c d:=by
 unfold cell;rw[List.getD_eq_getElem?_getD,List.getElem?_set,List.getD_eq_getElem?_getD];by_cases h:c=a/\d=b
 .obtain⟨rfl,rfl⟩:=h;simp[hl]
 .rw[if_neg h,if_neg (by omega)]
theorem g9(xs:List Int)(a b len:Int): (eJ xs a b len).length=xs.length:=by
 unfold eJ;cases(decide (cell xs a.toNat b.toNat=-1)||decide (len<cell xs a.toNat b.toNat))<;>simp
theorem dH{xs:List Int}(hl:xs.length=144){a b:Nat}(ha:a<12)(hb:b<12){len:Int}{c d:Nat}(hd:d<12):
  cell (eJ xs a b len) c d=if c=a/\d=b/\(cell xs a b=-1\/len<cell xs a b)then len else cell xs c d:=by
 unfold eJ;simp only[Int.toNat_natCast];by_cases h:cell xs a b=-1\/len<cell xs a b
 .have:(decide (cell xs a b=-1)||decide (len<cell xs a b))=true:=by simpa using h
  rw[this,cond_true,UW hb hd (by omega)];by_cases e:c=a/\d=b
  .rw[if_pos e,if_pos ⟨e.1,e.2,h⟩]
  .rw[if_neg e,if_neg λg=>e ⟨g.1,g.2.1⟩]
 .have:(decide (cell xs a b=-1)||decide (len<cell xs a b))=false:=by
   rw[Bool.eq_false_iff];simpa using h
  rw[this,cond_false,if_neg λg=>h g.2.2]
theorem oD(ls:Ll): (oG ls).length=144:=by
 unfold oG;have:∀(ls:Ll) (xs:List Int),(ls.foldl (λxs l=>eJ xs (bg l) (lTo l) (bf l)) xs).length=xs.length:=by
  intro ls;induction ls with
  | nil=>intro xs;rfl
  | cons l ls ih=>intro xs;rw[List.foldl_cons,ih,g9]
 rw[this];rfl
theorem AA(xs:List Int)(q:Nat): (xk xs q).length=xs.length:=by
 unfold xk;cases(cell xs (q/12%12) (q/144) != -1)&&(cell xs (q/144) (q%12) != -1)<;>simp[g9]
theorem y8(ls:Ll)(k:Nat): fwN ls (k+1)=xk (fwN ls k) k:=by
 unfold fwN;rw[List.range_succ,List.foldl_append];rfl
theorem pK(ls:Ll): ∀k,(fwN ls k).length=144
 | 0=>oD ls
 | k+1=>by rw[y8,AA,pK ls k]
inductive Walk (ls:Ll):Nat->Nat->Int->Prop
 | nil (a:Nat):Walk ls a a 0
 | snoc {a:Nat} {n:Int} (l:Line):l∈ls->Walk ls a (bg l).toNat n->Walk ls a (lTo l).toNat (n+bf l)
inductive Wk (ls:Ll) (k:Nat):Nat->Nat->Int->Prop
 | refl (a:Nat):Wk ls k a a 0
 | edge (l:Line):l∈ls->Wk ls k (bg l).toNat (lTo l).toNat (bf l)
 | via {a b c:Nat} {m n:Int}:c<k->Wk ls k a c m->Wk ls k c b n->Wk ls k a b (m+n)
theorem Walk.trans {ls:Ll} {a b c:Nat} {m n:Int} (h:Walk ls a b m) (g:Walk ls b c n):Walk ls a c (m+n):=by
 induction g with
 | nil=>simpa using h
 | snoc l hl _ ih=>rw[<- Int.add_assoc];exact .snoc l hl ih
theorem Wk.nonneg {N:Nat} {ls:Ll} (ok:cI N ls) {k a b:Nat} {n:Int} (h:Wk ls k a b n):0<=n:=by
 induction h with
 | refl=>exact Int.le_refl _
 | edge l hl=>have:=(ok.at_ l hl).2.2.2.2.2.1;omega
 | via _ _ _ h1 h2=>omega
theorem Wk.split {N:Nat} {ls:Ll} (ok:cI N ls) {k a b:Nat} {n:Int} (h:Wk ls (k+1) a b n):
  (∃m,m<=n/\Wk ls k a b m)\/∃m1 m2,m1+m2<=n/\Wk ls k a k m1/\Wk ls k k b m2:=by
 induction h with
 | refl a=>exact .inl ⟨0,Int.le_refl _,.refl a⟩
 | edge l hl=>exact .inl ⟨_,Int.le_refl _,.edge l hl⟩
 | @via a b c m n hc _ _ h1 h2=>
  by_cases e:c=k
  .subst e
   right
   have l1:∃m1,m1<=m/\Wk ls c a c m1:=by
    rcases h1 with⟨x,hx,g⟩ | ⟨x,y,hx,g,g'⟩
    .exact⟨x,hx,g⟩
    .have:=g'.nonneg ok;exact⟨x,by omega,g⟩
   have l2:∃m2,m2<=n/\Wk ls c c b m2:=by
    rcases h2 with⟨x,hx,g⟩ | ⟨x,y,hx,g,g'⟩
    .exact⟨x,hx,g⟩
    .have:=g.nonneg ok;exact⟨y,by omega,g'⟩
   obtain⟨x,hx,g⟩:=l1;obtain⟨y,hy,g'⟩:=l2;exact⟨x,y,by omega,g,g'⟩
  .have hc:c<k:=by omega
   rcases h1 with⟨x,hx,g⟩ | ⟨x,y,hx,g,g'⟩<;>rcases h2 with⟨u,hu,q⟩ | ⟨u,v,hu,q,q'⟩
   .exact .inl ⟨x+u,by omega,.via hc g q⟩
   .exact .inr ⟨x+u,v,by omega,.via hc g q,q'⟩
   .exact .inr ⟨x,y+u,by omega,g,.via hc g' q⟩
   .have:=g'.nonneg ok;have:=q.nonneg ok;exact .inr ⟨x,v,by omega,g,q'⟩
structure Zz (ls:Ll) (xs:List Int):Prop where
 len:xs.length=144
 diag:∀a,a<12->cell xs a a=0
 walk:∀a b,a<12->b<12->cell xs a b=-1\/(0<=cell xs a b/\Walk ls a b (cell xs a b))
def Below(xs:List Int)(a b:Nat)(n:Int): Prop:=cell xs a b≠-1/\cell xs a b<=n
def aCL(ls:Ll)(k:Nat)(xs:List Int): Prop:=∀a b n,a<12->b<12->Wk ls k a b n->Below xs a b n
theorem lK{xs:List Int}(hl:xs.length=144){a b c d:Nat}(ha:a<12)(hb:b<12)(hd:d<12){len n:Int}(hlen:len≠-1)(h:Below xs c d n): Below (eJ xs a b len) c d n:=by
 unfold Below at h ⊢;rw[dH hl ha hb hd];split
 .rename_i g;obtain⟨rfl,rfl,g⟩:=g;exact⟨hlen,by omega⟩
 .exact h
theorem A8{xs:List Int}(hl:xs.length=144){a b:Nat}(ha:a<12)(hb:b<12){len:Int}(hlen:len≠-1): Below (eJ xs a b len) a b len:=by
 unfold Below;rw[dH hl ha hb hb];split
 .exact⟨hlen,Int.le_refl _⟩
 .rename_i g;simp only[true_and,not_or]at g;exact⟨g.1,by omega⟩
theorem sO{ls:Ll}{xs:List Int}(h:Zz ls xs){a b:Nat}(ha:a<12)(hb:b<12){len:Int}(h0:0<=len)(hw:Walk ls a b len): Zz ls (eJ xs a b len):=by
 refine⟨by rw[g9];exact h.len,λc hc=>?_,λc d hc hd=>?_⟩
 .rw[dH h.len ha hb hc];split
  .rename_i g;obtain⟨rfl,rfl,g⟩:=g;have:=h.diag c hc;omega
  .exact h.diag c hc
 .rw[dH h.len ha hb hd];split
  .rename_i g;obtain⟨rfl,rfl,g⟩:=g;exact .inr ⟨h0,hw⟩
  .exact h.walk c d hc hd
theorem mG{a b:Nat}(ha:a<12)(hb:b<12): cell FM a b=if a=b then 0 else -1:=by
 unfold cell FM;rw[List.getD_eq_getElem?_getD,List.getElem?_map,List.getElem?_range (by omega)];simp only[Option.map_some,Option.getD_some];rw[show(a*12+b)/12=a by omega,show(a*12+b)%12=b by omega]
theorem JH(ls:Ll): Zz ls FM:=by
 refine⟨rfl,λa ha=>by rw[mG ha ha,if_pos rfl],λa b ha hb=>?_⟩;rw[mG ha hb];split
 .rename_i e;subst e;exact .inr ⟨Int.le_refl _,.nil a⟩
 .exact .inl rfl
theorem toNat_lt{N:Nat}{x:Int}(h0:0<=x)(h1:x<N)(hN:N<=12): x.toNat<12:=by omega
theorem tH{N:Nat}{ls:Ll}(ok:cI N ls): ∀(rs:Ll) (xs:List Int),(∀l∈rs,l∈ls)->Zz ls xs->(∀a b,a<12->b<12->cell xs a b<=5000)->
  Zz ls (rs.foldl (λxs l=>eJ xs (bg l) (lTo l) (bf l)) xs)/\
  (∀a b n,a<12->b<12->Below xs a b n->Below (rs.foldl (λxs l=>eJ xs (bg l) (lTo l) (bf l)) xs) a b n)/\
  (∀l∈rs,Below (rs.foldl (λxs l=>eJ xs (bg l) (lTo l) (bf l)) xs) (bg l).toNat (lTo l).toNat (bf l))/\
  (∀a b,a<12->b<12->cell (rs.foldl (λxs l=>eJ xs (bg l) (lTo l) (bf l)) xs) a b<=5000)
 | [],xs,_,h,hb=>⟨h,λ_ _ _ _ _ h=>h,(λl hl=>by cases hl),hb⟩
 | l::rs,xs,hrs,h,hb=>by
  have hl:=hrs l (by simp);obtain⟨o1,o2,o3,o4,o5,o6,o7⟩:=ok.at_ l hl;have ha:=toNat_lt o1 o2 ok.n12;have hb':=toNat_lt o3 o4 ok.n12;have e:eJ xs (bg l) (lTo l) (bf l)=eJ xs ((bg l).toNat:Nat) ((lTo l).toNat:Nat) (bf l):=by
   rw[Int.toNat_of_nonneg o1,Int.toNat_of_nonneg o3]
  have hw:Walk ls (bg l).toNat (lTo l).toNat (bf l):=by
   have:=Walk.snoc l hl (.nil (bg l).toNat)
   rwa [Int.zero_add]at this
  obtain⟨g1,g2,g3,g4⟩:=tH ok rs (eJ xs (bg l) (lTo l) (bf l)) (λx hx=>hrs x (by simp[hx])) (by rw[e];exact sO h ha hb' (by omega) hw) (λa b h1 h2=>by
   rw[e,dH h.len ha hb' h2];split
   .exact o7
   .exact hb a b h1 h2)
  rw[List.foldl_cons];refine⟨g1,λa b n h1 h2 hB=>g2 a b n h1 h2 (by rw[e];exact lK h.len ha hb' h2 (by omega) hB),λx hx=>?_,g4⟩;rcases List.mem_cons.1 hx with rfl | hx
  .exact g2 _ _ _ ha hb' (by rw[e];exact A8 h.len ha hb' (by omega))
  .exact g3 x hx
theorem Fo{N:Nat}{ls:Ll}(ok:cI N ls): Zz ls (oG ls)/\aCL ls 0 (oG ls)/\∀a b,a<12->b<12->cell (oG ls) a b<=5000:=by
 obtain⟨g1,g2,g3,g4⟩:=tH ok ls FM (λ_ h=>h) (JH ls) (λa b h1 h2=>by rw[mG h1 h2];split<;>omega);refine⟨g1,λa b n ha hb hw=>?_,g4⟩;cases hw with
 | refl=>refine g2 a a 0 ha ha ?_;unfold Below;rw[mG ha ha,if_pos rfl];omega
 | edge l hl=>exact g3 l hl
 | via hc=>omega
structure Mid (ls:Ll) (o i:Nat) (xs:List Int):Prop where
 sane:Zz ls xs
 compl:aCL ls o xs
 done:∀a b m n,a<12->b<12->a*12+b<i->Wk ls o a o m->Wk ls o o b n->Below xs a b (m+n)
 edge:∀a,a<12->cell xs a o<=5000*2 ^ o/\cell xs o a<=5000*2 ^ o
 all:∀a b,a<12->b<12->cell xs a b<=2*(5000*2 ^ o)
theorem Mid.step {N:Nat} {ls:Ll} (ok:cI N ls) {o i:Nat} (ho:o<12) (hi:i<144) {xs:List Int} (h:Mid ls o i xs):Mid ls o (i+1) (xk xs (o*144+i)):=by
 have e1:(o*144+i)/12%12=i/12:=by omega
 have e2:(o*144+i)/144=o:=by omega
 have e3:(o*144+i)%12=i%12:=by omega
 have ha:i/12<12:=by omega
 have hb:i%12<12:=by omega
 unfold xk;rw[e1,e2,e3];cases hc:(cell xs (i/12) o != -1)&&(cell xs o (i%12) != -1)with
 | false=>
  rw[cond_false];refine⟨h.sane,h.compl,λa b m n h1 h2 h3 w1 w2=>?_,h.edge,h.all⟩;by_cases e:a*12+b<i
  .exact h.done a b m n h1 h2 e w1 w2
  .have ea:a=i/12:=by omega
   have eb:b=i%12:=by omega
   have g1:=h.compl a o m h1 ho w1;have g2:=h.compl o b n ho h2 w2;rw[<- ea,<- eb]at hc;simp only[Bool.and_eq_false_iff,bne_eq_false_iff_eq]at hc;rcases hc with hc | hc
   .exact(g1.1 hc).elim
   .exact(g2.1 hc).elim
 | true=>
  rw[cond_true];simp only[Bool.and_eq_true,bne_iff_ne,ne_eq]at hc;obtain⟨c1,c2⟩:=hc;obtain⟨p1,p2⟩:=(h.sane.walk _ _ ha ho).resolve_left c1;obtain⟨p3,p4⟩:=(h.sane.walk _ _ ho hb).resolve_left c2;have hne:cell xs (i/12) o+cell xs o (i%12)≠-1:=by omega
  refine⟨sO h.sane ha hb (by omega) (p2.trans p4),λa b n h1 h2 w=>lK h.sane.len ha hb h2 hne (h.compl a b n h1 h2 w),λa b m n h1 h2 h3 w1 w2=>?_,λa h1=>?_,λa b h1 h2=>?_⟩
  .by_cases e:a*12+b<i
   .exact lK h.sane.len ha hb h2 hne (h.done a b m n h1 h2 e w1 w2)
   .have ea:a=i/12:=by omega
    have eb:b=i%12:=by omega
    have g1:=(h.compl a o m h1 ho w1).2;have g2:=(h.compl o b n ho h2 w2).2;rw[<- ea,<- eb]at hne ⊢;have g3:=A8 (a:=a) (b:=b) h.sane.len h1 h2 hne;exact⟨g3.1,by have:=g3.2;omega⟩
  .have hd:=h.sane.diag o ho;have q:=h.edge a h1;constructor
   .rw[dH h.sane.len ha hb ho];split
    .rename_i g;obtain⟨rfl,g5,g6⟩:=g;rw[<- g5,hd]at g6;have:=q.1;omega
    .exact q.1
   .rw[dH h.sane.len ha hb h1];split
    .rename_i g;obtain⟨g5,rfl,g6⟩:=g;rw[<- g5,hd]at g6;have:=q.2;omega
    .exact q.2
  .rw[dH h.sane.len ha hb h2];split
   .have q1:=(h.edge (i/12) ha).1;have q2:=(h.edge (i%12) hb).2;omega
   .exact h.all a b h1 h2
theorem Mid.next {N:Nat} {ls:Ll} (ok:cI N ls) {o:Nat} (ho:o+1<12) {xs:List Int} (h:Mid ls o 144 xs):Mid ls (o+1) 0 xs:=by
 have e:5000*2 ^ (o+1)=2*(5000*2 ^ o:Int):=by rw[Int.pow_succ];omega
 refine⟨h.sane,λa b n h1 h2 w=>?_,λa b m n h1 h2 h3=>by omega,λa h1=>by rw[e];exact⟨h.all a (o+1) h1 ho,h.all (o+1) a ho h1⟩,λa b h1 h2=>?_⟩
 .rcases w.split ok with⟨m,hm,g⟩ | ⟨m1,m2,hm,g1,g2⟩
  .have:=h.compl a b m h1 h2 g;exact⟨this.1,by have:=this.2;omega⟩
  .have:=h.done a b m1 m2 h1 h2 (by omega) g1 g2;exact⟨this.1,by have:=this.2;omega⟩
 .have:=h.all a b h1 h2;have h0:(0:Int)<=5000*2 ^ o:=Int.mul_nonneg (by decide) (Int.le_of_lt (Int.pow_pos (by decide)));rw[e];omega
theorem Y3{N:Nat}{ls:Ll}(ok:cI N ls): ∀(o:Nat),o<12->∀i,i<=144->Mid ls o i (fwN ls (o*144+i)):=by
 intro o;have row:∀o,o<12->Mid ls o 0 (fwN ls (o*144))->∀i,i<=144->Mid ls o i (fwN ls (o*144+i)):=by
  intro o ho h i;induction i with
  | zero=>intro _;exact h
  | succ i ih=>
   intro hi;rw[<- Nat.add_assoc,y8];exact(ih (by omega)).step ok ho (by omega)
 induction o with
 | zero=>
  intro _;refine row 0 (by decide) ?_;obtain⟨g1,g2,g3⟩:=Fo ok;refine⟨g1,g2,λa b m n h1 h2 h3=>by omega,λa h1=>⟨?_,?_⟩,λa b h1 h2=>?_⟩
  .have:=g3 a 0 h1 (by decide);show cell (oG ls) a 0<=5000*2 ^ 0;omega
  .have:=g3 0 a (by decide) h1;show cell (oG ls) 0 a<=5000*2 ^ 0;omega
  .have:=g3 a b h1 h2;simp only[Int.pow_zero,Int.mul_one];show cell (oG ls) a b<=_;omega
 | succ o ih=>
  intro ho;refine row (o+1) ho ?_;have:=(ih (by omega) 144 (Nat.le_refl _)).next ok ho
  rw[show o*144+144=(o+1)*144 by omega]at this;exact this
theorem B6{N:Nat}{ls:Ll}(ok:cI N ls){k:Nat}(hk:k<=1728){a b:Nat}(ha:a<12)(hb:b<12): -1<=cell (fwN ls k) a b/\cell (fwN ls k) a b<=20480000:=by
 have h:∃o i,o<12/\i<=144/\k=o*144+i:=by
  by_cases e:k=1728
  .exact⟨11,144,by decide,by decide,by omega⟩
  .exact⟨k/144,k%144,by omega,by omega,by omega⟩
 obtain⟨o,i,ho,hi,rfl⟩:=h;have m:=Y3 ok o ho i hi;have h1:=m.all a b ha hb;have h2:=m.sane.walk a b ha hb;have h3:(2:Int) ^ o<=2 ^ 11:=by
  have:(2:Nat) ^ o<=2 ^ 11:=Nat.pow_le_pow_right (by decide) (by omega)
  exact_mod_cast this
 have h4:(2:Int) ^ 11=2048:=by decide
 constructor
 .rcases h2 with h2 | h2<;>omega
 .omega
structure mf (ls:Ll) (a:Nat) (d:Nat->Int):Prop where
 self:d a=0
 low:∀b,b<12->-1<=d b
 line:∀l∈ls,0<=d (bg l).toNat->0<=d (lTo l).toNat/\d (lTo l).toNat<=d (bg l).toNat+bf l
 last:∀b,b<12->b≠a->0<=d b->∃l∈ls,(lTo l).toNat=b/\0<=d (bg l).toNat/\d b=d (bg l).toNat+bf l
theorem mf.walk {N:Nat} {ls:Ll} (ok:cI N ls) {a:Nat} {d:Nat->Int} (h:mf ls a d) {b:Nat} {n:Int} (w:Walk ls a b n):0<=d b/\d b<=n:=by
 induction w with
 | nil=>rw[h.self];exact⟨Int.le_refl _,Int.le_refl _⟩
 | snoc l hl _ ih=>have:=h.line l hl ih.1;have:=ih.2;omega
theorem Walk.wk {N:Nat} {ls:Ll} (ok:cI N ls) {a b:Nat} {n:Int} (w:Walk ls a b n):Wk ls 12 a b n:=by
 induction w with
 | nil=>exact .refl _
 | snoc l hl _ ih=>
  have o:=ok.at_ l hl;exact .via (toNat_lt o.1 o.2.1 ok.n12) ih (.edge l hl)
theorem mf.toWalk {N:Nat} {ls:Ll} (ok:cI N ls) {a:Nat} {d:Nat->Int} (h:mf ls a d):∀(k b:Nat),b<12->0<=d b->(d b).toNat<=k->Walk ls a b (d b):=by
 intro k;induction k with
 | zero=>
  intro b hb h0 hk;by_cases e:b=a
  .subst e;rw[h.self];exact .nil b
  .obtain⟨l,hl,e1,e2,e3⟩:=h.last b hb e h0;have:=(ok.at_ l hl).2.2.2.2.2.1;omega
 | succ k ih=>
  intro b hb h0 hk;by_cases e:b=a
  .subst e;rw[h.self];exact .nil b
  .obtain⟨l,hl,e1,e2,e3⟩:=h.last b hb e h0;have o:=ok.at_ l hl;have:=o.2.2.2.2.2.1;have w:=ih _ (toNat_lt o.1 o.2.1 ok.n12) e2 (by omega);have:=Walk.snoc l hl w;rw[e1,<- e3]at this;exact this
theorem mf.unique {N:Nat} {ls:Ll} (ok:cI N ls) {a:Nat} {d e:Nat->Int} (h:mf ls a d) (g:mf ls a e) {b:Nat} (hb:b<12):d b=e b:=by
 have h1:=h.low b hb;have h2:=g.low b hb;by_cases p:0<=d b
 .have:=g.walk ok (h.toWalk ok _ b hb p (Nat.le_refl _));have:=h.walk ok (g.toWalk ok _ b hb this.1 (Nat.le_refl _));omega
 .by_cases q:0<=e b
  .have:=h.walk ok (g.toWalk ok _ b hb q (Nat.le_refl _));omega
  .omega
def at1(row:List Int)(b:Nat): Int:=row.getD b 0
def gW(row:List Int)(l:Line): List Int:=
 bif decide (0<=at1 row (bg l).toNat)&&(decide (at1 row (lTo l).toNat<0)||decide (at1 row (lTo l).toNat>at1 row (bg l).toNat+bf l))then row.set (lTo l).toNat (at1 row (bg l).toNat+bf l)else row
def o9(m:Nat)(a:Nat): List Int:=(List.range m).map λb=>if b=a then 0 else -1
def Ad(ls:Ll)(row:List Int): List Int:=ls.foldl gW row
def bfN(ls:Ll)(m a r:Nat): List Int:=(List.range r).foldl (λrow _=>Ad ls row) (o9 m a)
theorem Zs{row:List Int}{i b:Nat}{x:Int}(hi:i<row.length): at1 (row.set i x) b=if b=i then x else at1 row b:=by
 unfold at1;rw[List.getD_eq_getElem?_getD,List.getElem?_set,List.getD_eq_getElem?_getD];by_cases h:i=b
 .subst h;simp[hi]
 .rw[if_neg h,if_neg (λe=>h e.symm)]
theorem kz(row:List Int)(l:Line): (gW row l).length=row.length:=by
 unfold gW;cases(decide (0<=at1 row (bg l).toNat)&&(decide (at1 row (lTo l).toNat<0)||decide (at1 row (lTo l).toNat>at1 row (bg l).toNat+bf l)))<;>simp
theorem o8{row:List Int}{l:Line}(ht:(lTo l).toNat<row.length)(b:Nat): at1 (gW row l) b =
  if b=(lTo l).toNat/\0<=at1 row (bg l).toNat/\(at1 row (lTo l).toNat<0\/at1 row (lTo l).toNat>at1 row (bg l).toNat+bf l)then at1 row (bg l).toNat+bf l else at1 row b:=by
 unfold gW;by_cases h:0<=at1 row (bg l).toNat/\(at1 row (lTo l).toNat<0\/at1 row (lTo l).toNat>at1 row (bg l).toNat+bf l)
 .have e:(decide (0<=at1 row (bg l).toNat)&&(decide (at1 row (lTo l).toNat<0)||decide (at1 row (lTo l).toNat>at1 row (bg l).toNat+bf l)))=true:=by simpa using h
  rw[e,cond_true,Zs ht];by_cases hb:b=(lTo l).toNat
  .rw[if_pos hb,if_pos ⟨hb,h⟩]
  .rw[if_neg hb,if_neg λg=>hb g.1]
 .have e:(decide (0<=at1 row (bg l).toNat)&&(decide (at1 row (lTo l).toNat<0)||decide (at1 row (lTo l).toNat>at1 row (bg l).toNat+bf l)))=false:=by
   rw[Bool.eq_false_iff];simpa using h
  rw[e,cond_false,if_neg λg=>h g.2]
def Abv(m:Nat)(d:Nat->Int)(row:List Int): Prop:=row.length=m/\∀b,b<m->at1 row b=-1\/(0<=d b/\d b<=at1 row b)
def Ve(d:Nat->Int)(row:List Int)(b:Nat): Prop:=0<=d b/\at1 row b=d b
section
variable {m:Nat} {ls:Ll} {a:Nat} {d:Nat->Int}
theorem Kv(ok:cI m ls)(h:mf ls a d){row:List Int}(hr:Abv m d row){l:Line}(hl:l∈ls): Abv m d (gW row l):=by
 have o:=ok.at_ l hl;refine⟨by rw[kz];exact hr.1,λb hb=>?_⟩;rw[o8 (by rw[hr.1];omega)];split
 .rename_i g;obtain⟨rfl,g1,g2⟩:=g;rcases hr.2 (bg l).toNat (by omega)with q | q
  .omega
  .have:=h.line l hl q.1
   right
   omega
 .exact hr.2 b hb
theorem wz(ok:cI m ls)(h:mf ls a d){row:List Int}(hr:Abv m d row){l:Line}(hl:l∈ls){b:Nat}(hb:b<m)(hs:Ve d row b): Ve d (gW row l) b:=by
 have o:=ok.at_ l hl;refine⟨hs.1,?_⟩;rw[o8 (by rw[hr.1];omega)];split
 .rename_i g;obtain⟨rfl,g1,g2⟩:=g;rcases hr.2 (bg l).toNat (by omega)with q | q
  .omega
  .have:=h.line l hl q.1;have:=hs.1;have:=hs.2;omega
 .exact hs.2
theorem Ku(ok:cI m ls){row:List Int}(hr:Abv m d row){l:Line}(hl:l∈ls)(hs:Ve d row (bg l).toNat)(h0:0<=d (lTo l).toNat)(he:d (lTo l).toNat=d (bg l).toNat+bf l): Ve d (gW row l) (lTo l).toNat:=by
 have o:=ok.at_ l hl;refine⟨h0,?_⟩;have e1:=hs.2;have e2:=hs.1;rw[o8 (by rw[hr.1];omega)];split
 .omega
 .rename_i g;have g':¬(0<=at1 row (bg l).toNat/\(at1 row (lTo l).toNat<0\/at1 row (lTo l).toNat>at1 row (bg l).toNat+bf l)):=λq=>g ⟨rfl,q⟩
  rcases hr.2 (lTo l).toNat (by omega)with q | q<;>omega
theorem V8(ok:cI m ls)(h:mf ls a d): ∀(rs:Ll) (row:List Int),(∀l∈rs,l∈ls)->Abv m d row->Abv m d (rs.foldl gW row)/\(∀b,b<m->Ve d row b->Ve d (rs.foldl gW row) b)/\
  ∀l∈rs,Ve d row (bg l).toNat->0<=d (lTo l).toNat->d (lTo l).toNat=d (bg l).toNat+bf l->Ve d (rs.foldl gW row) (lTo l).toNat
 | [],row,_,hr=>⟨hr,λ_ _ h=>h,(λl hl=>by cases hl)⟩
 | x::rs,row,hrs,hr=>by
  have hx:=hrs x (by simp);have ox:=ok.at_ x hx;obtain⟨g1,g2,g3⟩:=V8 ok h rs (gW row x) (λl hl=>hrs l (by simp[hl])) (Kv ok h hr hx);rw[List.foldl_cons];refine⟨g1,λb hb hs=>g2 b hb (wz ok h hr hx hb hs),λl hl hs h0 he=>?_⟩;have o:=ok.at_ l (hrs l hl);rcases List.mem_cons.1 hl with rfl | hl
  .exact g2 _ (by omega) (Ku ok hr hx hs h0 he)
  .exact g3 l hl (wz ok h hr hx (by omega) hs) h0 he
def rank(m:Nat)(d:Nat->Int)(b:Nat): Nat:=((List.range m).filter λx=>decide (0<=d x/\d x<d b)).length
theorem filter_lt{α:Type}{p q:α->Bool}: ∀{l:List α} {x:α},(∀y,p y=true->q y=true)->x∈l->p x=false->q x=true->(l.filter p).length<(l.filter q).length
 | [],_,_,h,_,_=>by cases h
 | y::l,x,hpq,hx,hp,hq=>by
  have le:∀l:List α,(l.filter p).length<=(l.filter q).length:=by
   intro l;induction l with
   | nil=>exact Nat.le_refl _
   | cons z l ih=>
    simp only[List.filter_cons];cases h1:p z with
    | true=>rw[hpq z h1];simpa using ih
    | false=>cases q z<;>simp<;>omega
  rcases List.mem_cons.1 hx with rfl | hx
  .simp only[List.filter_cons,hp,hq,Bool.false_eq_true,if_false,if_true,List.length_cons];have:=le l;omega
  .have ih:=filter_lt hpq hx hp hq;simp only[List.filter_cons];cases h1:p y with
   | true=>rw[hpq y h1];simpa using ih
   | false=>cases q y<;>simp<;>omega
theorem Ny{b c:Nat}(hc:c<m)(h0:0<=d c)(h1:d c<d b): rank m d c<rank m d b:=by
 refine filter_lt (x:=c) (λy hy=>?_) (List.mem_range.2 hc) ?_ ?_
 .have:=of_decide_eq_true hy;exact decide_eq_true (by omega)
 .exact decide_eq_false (by omega)
 .exact decide_eq_true (by omega)
theorem CW{x:Nat}(hx:x<m): at1 (o9 m a) x=if x=a then 0 else -1:=by
 unfold at1 o9;rw[List.getD_eq_getElem?_getD,List.getElem?_map,List.getElem?_range hx];rfl
theorem Ae(ls:Ll)(m a r:Nat): bfN ls m a (r+1)=Ad ls (bfN ls m a r):=by
 unfold bfN;rw[List.range_succ,List.foldl_append];rfl
theorem U3(ok:cI m ls)(h:mf ls a d)(ha:a<m): ∀r,Abv m d (bfN ls m a r)/\∀b,b<m->0<=d b->rank m d b<=r->Ve d (bfN ls m a r) b
 | 0=>by
  have e:bfN ls m a 0=o9 m a:=rfl;rw[e];refine⟨⟨by simp[o9],λb hb=>?_⟩,λb hb h0 hr=>?_⟩
  .rw[CW hb];split
   .rename_i e;subst e;right;rw[h.self];omega
   .exact .inl rfl
  .by_cases e:b=a
   .subst e;exact⟨h0,by rw[CW hb,if_pos rfl,h.self]⟩
   .obtain⟨l,hl,e1,e2,e3⟩:=h.last b (Nat.lt_of_lt_of_le hb ok.n12) e h0;have:=(ok.at_ l hl).2.2.2.2.2.1;have:=Ny (m:=m) (d:=d) (b:=b) (c:=a) ha (by rw[h.self];omega) (by rw[h.self];omega);omega
 | r+1=>by
  obtain⟨g1,g2⟩:=U3 ok h ha r;obtain⟨f1,f2,f3⟩:=V8 ok h ls (bfN ls m a r) (λ_ h=>h) g1;rw[Ae];refine⟨f1,λb hb h0 hr=>?_⟩;by_cases e:b=a
  .have:rank m d b<=r\/rank m d b=r+1:=by omega
   have hz:rank m d b=0:=by
    unfold rank;rw[List.length_eq_zero_iff,List.filter_eq_nil_iff];intro x _;rw[e,h.self];exact λg=>by have:=of_decide_eq_true g;omega
   exact f2 b hb (g2 b hb h0 (by omega))
  .obtain⟨l,hl,e1,e2,e3⟩:=h.last b (Nat.lt_of_lt_of_le hb ok.n12) e h0;have o:=ok.at_ l hl;have hlt:=Ny (m:=m) (d:=d) (b:=b) (c:=(bg l).toNat) (by omega) e2 (by omega);have hs:=g2 _ (by omega) e2 (by omega);have:=f3 l hl hs (by rw[e1];exact h0) (by rw[e1];exact e3)
   rwa [e1]at this
end
end Go.Eng.Sv
set_option maxRecDepth 100000
noncomputable section
namespace Go.Eng.Sv
open Go.Proofs
abbrev I: Ty:=.int .i64
abbrev U: Ty:=.int .u8
abbrev B: Ty:=.sl .bool
abbrev R: Ty:=.sl I
abbrev LC: Type:=List (Int×List Bool×Li)
abbrev LB: Type:=List ByteArray
abbrev C: Ty:=.pair I (.pair B R)
abbrev S: Ty:=.str
abbrev cal(z:Int)(w:List Bool)(h:Li): AV:=.agg [.dat I z,.dat B w,.dat R h]
def kw: List ByteArray:=[⟨#[99,97,108,101,110,100,97,114]⟩,⟨#[111,112,101,114,97,116,111,114]⟩,⟨#[111,102,102,105,99,101]⟩,⟨#[108,105,110,101]⟩,⟨#[99,108,97,115,115]⟩,⟨#[122,111,110,101]⟩,⟨#[119,101,101,107]⟩,⟨#[104,111,108,105,100,97,121]⟩,⟨#[112,111,99,107,101,116,115]⟩,⟨#[112,97,115,115,101,115]⟩,⟨#[109,105,110,117,116,101,115]⟩,⟨#[99,111,100,101,115]⟩,⟨#[97,116]⟩,⟨#[116,114,97,118,101,108]⟩,⟨#[108,111,97,100]⟩,⟨#[99,117,116]⟩,⟨#[100,101,108,105,118,101,114]⟩]
def jA(b:Int): Bool:=decide (97<=b/\b<=122)
def fz(b:Int): Bool:=decide (48<=b/\b<=57)
def dW(v a b:Int): Bool:=decide (a<=v/\v<=b)
def nameB(b:Int): Bool:=jA b||fz b||decide (b=95)
def um(b:Int): Bool:=fz b||decide (65<=b/\b<=90)
def isKey(s:ByteArray): Bool:=kw.any λw=>w.toList==s.toList
def cy(s:ByteArray): Bool:=decide (1<=s.size/\s.size<=16)&&jA ((s.data.getD 0 0).toNat:Int)&&(s.data.toList.all λb=>nameB (b.toNat:Int))&&!isKey s
def dj(s:ByteArray): Bool:=decide (1<=s.size/\s.size<=8)&&s.data.toList.all λb=>um (b.toNat:Int)
def oo(s:ByteArray)(k:Int): Prop:=0<=k/\k<=s.size/\(s.data.toList.take k.toNat).all (λb=>nameB (b.toNat:Int))=true
def oS(s:ByteArray)(k:Int): Prop:=0<=k/\k<=s.size/\(s.data.toList.take k.toNat).all (λb=>um (b.toNat:Int))=true
def pI(s:ByteArray)(k:Int): Prop:=0<=k/\k<=17/\(kw.take k.toNat).any (λw=>w.toList==s.toList)=false
def ax(z:Int)(w:List Bool)(h:Li): Bool:=decide (-720<=z/\z<=840/\w.length=7/\h.length<=40)&&(List.range (h.length-1)).all λi=>decide (h.getD i 0<h.getD (i+1) 0)
def gU(w:List Bool)(h:Li): Bool:=decide (w.length<=20)&&decide (h.length<=60)
def rD(h:Li)(k:Int): Prop:=1<=k/\(k<=h.length\/k=1)/\h.length<=40/\∀i:Nat,(i:Int)+1<k->h.getD i 0<h.getD (i+1) 0
def jf(k:Int): Int:=if k=3 then 12 else if k=4 then 40 else if k=5 then 4 else 6
def K0: Kt:=λf args m=>none
def G0: List (Nat×AV):=[(0,.ia S kw)]
def KI0: FuncId->List AV->Option jr:=λ_ _=>none
noncomputable def mkc(K:Kt): Cfg:=⟨Tryz.prog,G0,K,λ_=>false,KI0,false,λ_ _ _=>none,λ_=>false⟩
def GX(h:Li): Ann:=⟨λid s=>match id with
 | 4=>some {α:=Int,inv:=λk=>rD h k,st:=λk=>put s [(3,.dat I k)],μ:=λk=>Dc (Dh (Df h) k)}
 | _=>none,λ_ _=>none,λ_ _=>none⟩
theorem xd(z:Int)(w:List Bool)(h:Li)(hvc:
 let c1:=Dp z (-720);let c2:=Di c1;let c3:=Dz c1 true (Ei z 840);let c4:=Di c3;let c5:=Dz c3 true (Ec (Df w) 7);let c6:=Di c5;let c7:=Dz c5 true (Ei (Df h) 40);let c8:=(z,w,h);true/\(True->(c2->c2->c2)/\(c2->c2->c2)/\(Dk true c2->c2)/\(c4->c4->c4)/\(c4->c4->c4)/\(c4->c4->c4)/\(Dk true c4->c4)/\(c6->c6->c6)/\(c6->c6->c6)/\(c6->c6->c6)/\(Dk true c6->c6)/\(c7->false=ax z w h/\True)/\(c7=false->(∃x,rD h x/\c8=c8/\1=x/\True)/\∀(x:Int),let c9:=Dp x (Df h);let c10:=x-1;let c11:=Eh (Du h (Dc x) 0) (Du h (Dc c10) 0);let c12:=x+1;rD h x->(c9->0<=x/\x<Df h/\inR .i64 c10/\0<=c10/\c10<Df h/\(c11->false=ax z w h/\True)/\(c11=false->inR .i64 c12/\∃y,rD h y/\(c8=c8/\c12=y/\True)/\Dc (Df h-y)<Dc (Df h-x)))/\(c9=false->true=ax z w h/\True)))):
  evF (mkc K0) (lvA [(4,[1,2,3])] (GX h)) 161 [cal z w h] [] ⟨True,.dat .bool (ax z w h),[]⟩:=oE hvc
theorem Ld(z:Int)(w:List Bool)(h:Li)(hvc:
 let c1:=Dp z (-720);let c2:=Di c1;let c3:=Dz c1 true (Ei z 840);let c4:=Di c3;let c13:=c4->c4->c4;let c5:=Dz c3 true (Ec (Df w) 7);let c6:=Di c5;let c14:=c6->c6->c6;let c7:=Dz c5 true (Ei (Df h) 40);let c8:=(z,w,h);true/\(True->(c2->c2->c2)/\(c2->c2->c2)/\(Dk true c2->c2)/\c13/\c13/\c13/\(Dk true c4->c4)/\c14/\c14/\c14/\(Dk true c6->c6)/\(c7->false=ax z w h/\True)/\(c7=false->(∃x,rD h x/\c8=c8/\1=x/\True)/\∀(x:Int),let c9:=Dp x (Df h);let c10:=x-1;let c11:=Ed (Du h (Dc c10) 0) (Du h (Dc x) 0);let c12:=x+1;rD h x->(c9->inR .i64 c10/\0<=c10/\c10<Df h/\0<=x/\x<Df h/\(c11->false=ax z w h/\True)/\(c11=false->inR .i64 c12/\∃y,rD h y/\(c8=c8/\c12=y/\True)/\Dc (Df h-y)<Dc (Df h-x)))/\(c9=false->true=ax z w h/\True)))):
  evF (mkc K0) (lvA [(4,[1,2,3])] (GX h)) 118 [cal z w h] [] ⟨True,.dat .bool (ax z w h),[]⟩:=oE hvc
theorem QK(z:Int)(w:List Bool)(h:Li)(hvc:
 let c1:=Eh (Df w) 20;let c2:=c1->c1->c1;true/\(True->c2/\c2/\c2/\(Dk true c1->c1)/\Dz c1 (Eh (Df h) 60) false=gU w h/\True)):
  evF (mkc K0) aA 167 [cal z w h] [] ⟨True,.dat .bool (gU w h),[]⟩:=oE hvc
theorem IP(b:Int)(hvc:
 let c1:=Ed b 97;true/\(True->(c1->c1->c1)/\(Dk true c1->c1)/\Dz c1 (Eh b 122) false=jA b/\True)):
  evF (mkc K0) aA 283 [.dat U b] [] ⟨True,.dat .bool (jA b),[]⟩:=oE hvc
theorem IQ(b:Int)(hvc:
 let c1:=Ed b 48;true/\(True->(c1->c1->c1)/\(Dk true c1->c1)/\Dz c1 (Eh b 57) false=fz b/\True)):
  evF (mkc K0) aA 284 [.dat U b] [] ⟨True,.dat .bool (fz b),[]⟩:=oE hvc
theorem Rz(b:Int)(hvc:
 let c1:=Ed b 48;true/\(True->(c1->c1->c1)/\(Dk true c1->c1)/\Dz c1 (Eh b 57) false=fz b/\True)):
  evF (mkc K0) aA 297 [.dat U b] [] ⟨True,.dat .bool (fz b),[]⟩:=oE hvc
theorem Lu(v a b:Int)(hvc:
 let c1:=Ed v a->Ed v a->Ed v a;true/\(True->c1/\c1/\(Dk true (Ed v a)->Ed v a)/\Dz (Ed v a) (Eh v b) false=dW v a b/\True)):
  evF (mkc K0) aA 248 [.dat I v,.dat I a,.dat I b] [] ⟨True,.dat .bool (dW v a b),[]⟩:=oE hvc
theorem IZ(v a b:Int)(hvc:
 let c1:=Ed v a->Ed v a->Ed v a;true/\(True->c1/\c1/\(Dk true (Ed v a)->Ed v a)/\Dz (Ed v a) (Eh v b) false=dW v a b/\True)):
  evF (mkc K0) aA 300 [.dat I v,.dat I a,.dat I b] [] ⟨True,.dat .bool (dW v a b),[]⟩:=oE hvc
theorem Re(k:Int)(hvc:
 let c1:=Ea k 3;let c2:=Ea k 4;let c3:=Ea k 5;true/\(True->(c1->12=jf k/\True)/\(c1=false->(c2->40=jf k/\True)/\(c2=false->(c3->4=jf k/\True)/\(c3=false->6=jf k/\True))))):
  evF (mkc K0) aA 226 [.dat I k] [] ⟨True,.dat I (jf k),[]⟩:=oE hvc
theorem W8(hvc:
 true/\(True->[ByteArray.mk #[(99:UInt8),(97:UInt8),(108:UInt8),(101:UInt8),(110:UInt8),(100:UInt8),(97:UInt8),(114:UInt8)],ByteArray.mk #[(111:UInt8),(112:UInt8),(101:UInt8),(114:UInt8),(97:UInt8),(116:UInt8),(111:UInt8),(114:UInt8)],ByteArray.mk #[(111:UInt8),(102:UInt8),(102:UInt8),(105:UInt8),(99:UInt8),(101:UInt8)],ByteArray.mk #[(108:UInt8),(105:UInt8),(110:UInt8),(101:UInt8)],ByteArray.mk #[(99:UInt8),(108:UInt8),(97:UInt8),(115:UInt8),(115:UInt8)],ByteArray.mk #[(122:UInt8),(111:UInt8),(110:UInt8),(101:UInt8)],ByteArray.mk #[(119:UInt8),(101:UInt8),(101:UInt8),(107:UInt8)],ByteArray.mk #[(104:UInt8),(111:UInt8),(108:UInt8),(105:UInt8),(100:UInt8),(97:UInt8),(121:UInt8)],ByteArray.mk #[(112:UInt8),(111:UInt8),(99:UInt8),(107:UInt8),(101:UInt8),(116:UInt8),(115:UInt8)],ByteArray.mk #[(112:UInt8),(97:UInt8),(115:UInt8),(115:UInt8),(101:UInt8),(115:UInt8)],ByteArray.mk #[(109:UInt8),(105:UInt8),(110:UInt8),(117:UInt8),(116:UInt8),(101:UInt8),(115:UInt8)],ByteArray.mk #[(99:UInt8),(111:UInt8),(100:UInt8),(101:UInt8),(115:UInt8)],ByteArray.mk #[(97:UInt8),(116:UInt8)],ByteArray.mk #[(116:UInt8),(114:UInt8),(97:UInt8),(118:UInt8),(101:UInt8),(108:UInt8)],ByteArray.mk #[(108:UInt8),(111:UInt8),(97:UInt8),(100:UInt8)],ByteArray.mk #[(99:UInt8),(117:UInt8),(116:UInt8)],ByteArray.mk #[(100:UInt8),(101:UInt8),(108:UInt8),(105:UInt8),(118:UInt8),(101:UInt8),(114:UInt8)]]=kw/\True)):
  evF (mkc K0) aA 303 [] [] ⟨True,.dat (.sl S) kw,[]⟩:=oE hvc
def K1: Kt:=λf args m=>match f,args,m with
 | 161,[.agg [.dat (.int .i64) z,.dat (.sl .bool) w,.dat (.sl (.int .i64)) h]],[]=>some ⟨True,.dat .bool (ax z w h),[]⟩
 | 118,[.agg [.dat (.int .i64) z,.dat (.sl .bool) w,.dat (.sl (.int .i64)) h]],[]=>some ⟨True,.dat .bool (ax z w h),[]⟩
 | 167,[.agg [.dat (.int .i64) z,.dat (.sl .bool) w,.dat (.sl (.int .i64)) h]],[]=>some ⟨True,.dat .bool (gU w h),[]⟩
 | 283,[.dat (.int .u8) b],[]=>some ⟨True,.dat .bool (jA b),[]⟩
 | 284,[.dat (.int .u8) b],[]=>some ⟨True,.dat .bool (fz b),[]⟩
 | 297,[.dat (.int .u8) b],[]=>some ⟨True,.dat .bool (fz b),[]⟩
 | 248,[.dat (.int .i64) v,.dat (.int .i64) a,.dat (.int .i64) b],[]=>some ⟨True,.dat .bool (dW v a b),[]⟩
 | 300,[.dat (.int .i64) v,.dat (.int .i64) a,.dat (.int .i64) b],[]=>some ⟨True,.dat .bool (dW v a b),[]⟩
 | 226,[.dat (.int .i64) k],[]=>some ⟨True,.dat I (jf k),[]⟩
 | 303,[],[]=>some ⟨True,.dat (.sl S) kw,[]⟩
 | _,_,_=>none
def YW(s:ByteArray): Ann:=⟨λid st=>match id with
 | 4=>some {α:=Int,inv:=λk=>oo s k,st:=λk=>put st [(24,.dat I k)],μ:=λk=>Dc (Dh (Et s) k)}
 | 10=>some {α:=Int,inv:=λk=>pI s k,st:=λk=>put st [(42,.dat I k)],μ:=λk=>Dc (Dh 17 k)}
 | _=>none,λ_ _=>none,λ_ _=>none⟩
def YX(s:ByteArray): Ann:=⟨λid st=>match id with
 | 4=>some {α:=Int,inv:=λk=>oS s k,st:=λk=>put st [(16,.dat I k)],μ:=λk=>Dc (Dh (Et s) k)}
 | _=>none,λ_ _=>none,λ_ _=>none⟩
def aF4(s:ByteArray): Ann:=⟨λid st=>match id with
 | 3=>some {α:=Int,inv:=λk=>pI s k,st:=λk=>put st [(4,.dat I k)],μ:=λk=>Dc (Dh 17 k)}
 | _=>none,λ_ _=>none,λ_ _=>none⟩
theorem DL(v:Int)(hvc:
 let c1:=dW v 0 1439;true/\(True->True/\c1=c1/\True)):
  evF (mkc K1) aA 202 [.dat I v] [] ⟨True,.dat .bool (dW v 0 1439),[]⟩:=oE hvc
theorem Lt(s:ByteArray)(hvc:
 let c15:=Fq s;let c1:=Dp (Et s) 1;let c2:=Di c1;let c3:=Dz c1 true (Ei (Et s) 16);let c4:=Di c3;let c16:=c4->c4->c4;let c5:=Dz c3 true (Di (jA (Gf s 0)));true/\(True->(c2->c2->c2)/\(c2->c2->c2)/\(Dk true c2->c2)/\c16/\(c4->Dl 0 0)/\(c4->0<Et s)/\c16/\(c4->True)/\c16/\(Dk true c4->c4)/\(c5->false=cy s/\True)/\(c5=false->(∃x,oo s x/\s=s/\Fq s=Fq s/\Df c15=Df c15/\0=x/\True)/\∀(x:Int),let c6:=Dp x (Df c15);let c7:=Du c15 (Dc x) 0;let c8:=Di (jA c7);let c9:=Dz c8 (Di (fz c7)) false;let c10:=Dz c9 (Ec c7 95) false;let c11:=x+1;oo s x->(c6->0<=x/\x<Df c15/\True/\(c8->c8->c8)/\(c8->True)/\(c8->c8->c8)/\(Dk true c8->c8)/\(c9->c9->c9)/\(Dk true c9->c9)/\(c10->false=cy s/\True)/\(c10=false->inR .i64 c11/\∃y,oo s y/\(s=s/\Fq s=Fq s/\Df c15=Df c15/\c11=y/\True)/\Dc (Et s-y)<Dc (Et s-x)))/\(c6=false->Dj kw=17/\(∃x,pI s x/\s=s/\kw=kw/\0=x/\True)/\∀(x:Int),let c12:=Dp x 17;let c13:=Fv s (Du kw (Dc x) (ByteArray.mk #[]));let c14:=x+1;pI s x->(c12->0<=x/\x<Dx 17/\Dj kw=17/\(c13->false=cy s/\True)/\(c13=false->inR .i64 c14/\∃y,pI s y/\(s=s/\kw=kw/\c14=y/\True)/\Dc (17-y)<Dc (17-x)))/\(c12=false->true=cy s/\True))))):
  evF (mkc K1) (lvA [(4,[0,2,4,6,22,23,24,41,42]),(10,[0,2,6,41,42])] (YW s)) 236 [.dat S s] [] ⟨True,.dat .bool (cy s),[]⟩:=oE hvc
theorem Lx(s:ByteArray)(hvc:
 let c10:=Fq s;let c1:=Dp (Et s) 1;let c2:=Di c1;let c3:=Dz c1 true (Ei (Et s) 8);true/\(True->(c2->c2->c2)/\(c2->c2->c2)/\(Dk true c2->c2)/\(c3->false=dj s/\True)/\(c3=false->(∃x,oS s x/\Fq s=Fq s/\Df c10=Df c10/\0=x/\True)/\∀(x:Int),let c4:=Dp x (Df c10);let c5:=Du c10 (Dc x) 0;let c6:=Di (fz c5);let c12:=c6->c6->c6;let c7:=Dp c5 65;let c11:=Di c7;let c8:=Dz c6 (Dz c7 true (Ei c5 90)) false;let c9:=x+1;oS s x->(c4->0<=x/\x<Df c10/\True/\c12/\c12/\(Dk c6 c11->Dk c6 c11->Dk c6 c11)/\c12/\(c6->Dk c6 c11->Dk c6 c11)/\(Dk true c6->c6)/\(c8->false=dj s/\True)/\(c8=false->inR .i64 c9/\∃y,oS s y/\(Fq s=Fq s/\Df c10=Df c10/\c9=y/\True)/\Dc (Et s-y)<Dc (Et s-x)))/\(c4=false->true=dj s/\True)))):
  evF (mkc K1) (lvA [(4,[2,4,14,15,16])] (YX s)) 247 [.dat S s] [] ⟨True,.dat .bool (dj s),[]⟩:=oE hvc
theorem aAA(s:ByteArray)(hvc:
 true/\(True->True/\(∃x,pI s x/\s=s/\kw=kw/\0=x/\True)/\∀(x:Int),let c1:=Dp x (Df kw);let c2:=Fv (Du kw (Dc x) (ByteArray.mk #[])) s;let c3:=x+1;pI s x->(c1->0<=x/\x<Df kw/\(c2->true=isKey s/\True)/\(c2=false->inR IntKind.i64 c3/\∃y,pI s y/\(s=s/\kw=kw/\c3=y/\True)/\Dc (17-y)<Dc (17-x)))/\(c1=false->false=isKey s/\True))):
  evF (mkc K1) (lvA [(3,[0,2,3,4])] (aF4 s)) 296 [.dat S s] [] ⟨True,.dat .bool (isKey s),[]⟩:=oE hvc
def K2: Kt:=λf args m=>match f,args,m with
 | 202,[.dat (.int .i64) v],[]=>some ⟨True,.dat .bool (dW v 0 1439),[]⟩
 | 236,[.dat .str s],[]=>some ⟨True,.dat .bool (cy s),[]⟩
 | 247,[.dat .str s],[]=>some ⟨True,.dat .bool (dj s),[]⟩
 | 296,[.dat .str s],[]=>some ⟨True,.dat .bool (isKey s),[]⟩
 | _,_,_=>K1 f args m
theorem rk(x y:Bool): Dz x true y=(x||y):=by cases x<;>rfl
theorem jt(x y:Bool): Dz x y false=(x&&y):=by cases x<;>rfl
theorem hm: Tryz.prog.follows .mixedOrders=true:=by kernel_rfl
theorem KS0: ak Tryz.prog G0 K0:=λf args m c h=>by cases h
theorem aJ: bv Tryz.prog G0 KI0:=λf args c h=>by cases h
def P1(z:Int)(w:List Bool)(h:Li): Prop:=(-720<=z/\z<=840/\w.length=7/\h.length<=40)/\∀i:Nat,i+1<h.length->h.getD i 0<h.getD (i+1) 0
theorem cA{z:Int}{w:List Bool}{h:Li}: ax z w h=true↔P1 z w h:=by
 unfold ax P1;rw[qC,qE,qM];refine and_congr_right λ_=>⟨λg i hi=>?_,λg i hi=>?_⟩
 .have:=g i (qX.2 (by omega));simpa using this
 .have:=qX.1 hi;simpa using g i (by omega)
theorem pq{z:Int}{w:List Bool}{h:Li}(hn:¬P1 z w h): false=ax z w h:=by
 cases hv:ax z w h with
 | false=>rfl
 | true=>exact(hn (cA.1 hv)).elim
theorem BX{h:Li}(hl:¬(h.length:Int)>40): rD h 1:=⟨qL _,.inr rfl,by omega,λi hi=>by omega⟩
theorem wn{h:Li}{x:Int}(hx:rD h x)(hlt:x<h.length)(hn:h.getD (x-1).toNat 0<h.getD x.toNat 0): rD h (x+1):=by
 obtain⟨g1,g2,g3,g4⟩:=hx;refine⟨by omega,by omega,g3,λi hi=>?_⟩;by_cases e:(i:Int)+1<x
 .exact g4 i e
 .have e1:(x-1).toNat=i:=by omega
  have e2:x.toNat=i+1:=by omega
  rwa [e1,e2]at hn
theorem BY{z:Int}{w:List Bool}{h:Li}{x:Int}(hx:rD h x)(hlt:x<h.length)(hn:h.getD x.toNat 0<=h.getD (x-1).toNat 0): false=ax z w h:=by
 refine pq λhv=>?_
 have:=hx.1;have:=hv.2 (x-1).toNat (by omega);rw[show(x-1).toNat+1=x.toNat by omega]at this;omega
theorem BZ{z:Int}{w:List Bool}{h:Li}{x:Int}(hx:rD h x)(hge:¬x<h.length)(h1:-720<=z)(h2:z<=840)(h3:w.length=7): true=ax z w h:=
 (cA.2 ⟨⟨h1,h2,h3,by have:=hx.2.2.1;omega⟩,λi hi=>hx.2.2.2 i (by omega)⟩).symm
theorem D9(z:Int)(w:List Bool)(h:Li): af Tryz.prog G0 161 [cal z w h] [] ⟨True,.dat .bool (ax z w h),[]⟩:=by
 refine ae (c:=mkc K0) KS0 aJ hm (xd z w h ⟨rfl,λ_=>?_⟩);simp only[qc,Dk,Di,qd,Ec,Dp,Ei,Eh,Df,Dc,Du];refine⟨λhb=>pq λhv=>?_,λ⟨⟨⟨h1,h2⟩,h3⟩,h4⟩=>⟨BX h4,λx hx=>⟨λhlt=>?_,λhge=>BZ hx hge (by omega) (by omega) (by omega)⟩⟩⟩
 .obtain⟨⟨g1,g2,g3,g4⟩,_⟩:=hv;omega
 .have hx1:=hx.1;have hx3:=hx.2.2.1;refine⟨by omega,hlt,⟨by omega,by omega⟩,by omega,by omega,λhle=>BY hx hlt hle,λhn=>⟨⟨by omega,by omega⟩,x+1,wn hx hlt (by omega),rfl,by omega⟩⟩
theorem SX(z:Int)(w:List Bool)(h:Li): af Tryz.prog G0 118 [cal z w h] [] ⟨True,.dat .bool (ax z w h),[]⟩:=by
 refine ae (c:=mkc K0) KS0 aJ hm (Ld z w h ⟨rfl,λ_=>?_⟩);simp only[qc,Dk,Di,qd,Ec,Dp,Ei,Ed,Df,Dc,Du];refine⟨λhb=>pq λhv=>?_,λ⟨⟨⟨h1,h2⟩,h3⟩,h4⟩=>⟨BX h4,λx hx=>⟨λhlt=>?_,λhge=>BZ hx hge (by omega) (by omega) (by omega)⟩⟩⟩
 .obtain⟨⟨g1,g2,g3,g4⟩,_⟩:=hv;omega
 .have hx1:=hx.1;have hx3:=hx.2.2.1;refine⟨⟨by omega,by omega⟩,by omega,by omega,by omega,hlt,λhle=>BY hx hlt hle,λhn=>⟨⟨by omega,by omega⟩,x+1,wn hx hlt (by omega),rfl,by omega⟩⟩
theorem Yq(z:Int)(w:List Bool)(h:Li): af Tryz.prog G0 167 [cal z w h] [] ⟨True,.dat .bool (gU w h),[]⟩:=by
 refine ae (c:=mkc K0) KS0 aJ hm (QK z w h ⟨rfl,λ_=>?_⟩);simp only[qc,Dk,gU,Eh,Df]
 congr 1<;>congr 1<;>exact propext (by omega)
theorem md(p q:Prop)[Decidable p][Decidable q]: (decide p&&decide q)=decide (p/\q):=by by_cases hp:p<;>by_cases hq:q<;>simp[hp,hq]
theorem M1(b:Int): af Tryz.prog G0 283 [.dat U b] [] ⟨True,.dat .bool (jA b),[]⟩:=by
 refine ae (c:=mkc K0) KS0 aJ hm (IP b ⟨rfl,λ_=>?_⟩);simp only[qc,Dk,jA,Ed,Eh,md,kQ]
theorem M3(b:Int): af Tryz.prog G0 284 [.dat U b] [] ⟨True,.dat .bool (fz b),[]⟩:=by
 refine ae (c:=mkc K0) KS0 aJ hm (IQ b ⟨rfl,λ_=>?_⟩);simp only[qc,Dk,fz,Ed,Eh,md,kQ]
theorem Yv(b:Int): af Tryz.prog G0 297 [.dat U b] [] ⟨True,.dat .bool (fz b),[]⟩:=by
 refine ae (c:=mkc K0) KS0 aJ hm (Rz b ⟨rfl,λ_=>?_⟩);simp only[qc,Dk,fz,Ed,Eh,md,kQ]
theorem SZ(v a b:Int): af Tryz.prog G0 248 [.dat I v,.dat I a,.dat I b] [] ⟨True,.dat .bool (dW v a b),[]⟩:=by
 refine ae (c:=mkc K0) KS0 aJ hm (Lu v a b ⟨rfl,λ_=>?_⟩);simp only[qc,Dk,dW,Ed,Eh,md,kQ]
theorem M6(v a b:Int): af Tryz.prog G0 300 [.dat I v,.dat I a,.dat I b] [] ⟨True,.dat .bool (dW v a b),[]⟩:=by
 refine ae (c:=mkc K0) KS0 aJ hm (IZ v a b ⟨rfl,λ_=>?_⟩);simp only[qc,Dk,dW,Ed,Eh,md,kQ]
theorem Ys(k:Int): af Tryz.prog G0 226 [.dat I k] [] ⟨True,.dat I (jf k),[]⟩:=by
 refine ae (c:=mkc K0) KS0 aJ hm (Re k ⟨rfl,λ_=>?_⟩);simp only[qc,qd,Ea,jf];refine⟨λh=>by rw[if_pos h],λh1=>⟨λh=>by rw[if_neg h1,if_pos h],λh2=>⟨λh=>by rw[if_neg h1,if_neg h2,if_pos h],λh=>by rw[if_neg h1,if_neg h2,if_neg h]⟩⟩⟩
theorem aBp: af Tryz.prog G0 303 [] [] ⟨True,.dat (.sl S) kw,[]⟩:=
 ae (c:=mkc K0) KS0 aJ hm (W8 ⟨rfl,λ_=>⟨rfl,trivial⟩⟩)
theorem KS1: ak Tryz.prog G0 K1:=by
 intro f args m c h;unfold K1 at h;split at h
 .cases h;exact D9 _ _ _
 .cases h;exact SX _ _ _
 .cases h;exact Yq _ _ _
 .cases h;exact M1 _
 .cases h;exact M3 _
 .cases h;exact Yv _
 .cases h;exact SZ _ _ _
 .cases h;exact M6 _ _ _
 .cases h;exact Ys _
 .cases h;exact aBp
 .cases h
theorem J9(s:ByteArray)(i:Nat): (Fq s).getD i 0=((s.data.getD i 0).toNat:Int):=by
 show(List.map (λb:UInt8=>(b.toNat:Int)) s.data.toList).getD i 0=_;rw[qA,qP,zX,qK];cases s.data[i]?<;>rfl
theorem CO(s:ByteArray)(x:Int): (Fq s).getD x.toNat 0=Gf s x:=J9 s x.toNat
theorem rm(s:ByteArray): (Fq s).length=s.size:=by
 show(List.map _ s.data.toList).length=s.data.size;rw[vW,vI]
theorem mK(s:ByteArray): s.data.toList.length=s.size:=vI
theorem fB{α:Type}{l:List α}{p:α->Bool}{d:α}{k:Nat}(h:(l.take k).all p=true)(hk:k<l.length)(hp:p (l.getD k d)=true): (l.take (k+1)).all p=true:=by
 rw[wW,qB hk,kX,h];rw[qA,qB hk]at hp;simpa using hp
theorem me{α:Type}{l:List α}{p:α->Bool}{d:α}{k:Nat}(hk:k<l.length)(hp:p (l.getD k d)=false): l.all p=false:=by
 rw[qA,qB hk]at hp;rw[qCx];exact⟨l[k],wM hk,by simpa using hp⟩
theorem Wg{α:Type}{l:List α}{p:α->Bool}{d:α}{k:Nat}(hk:k<l.length)(hp:p (l.getD k d)=true): l.any p=true:=by
 rw[qA,qB hk]at hp;exact xZ.2 ⟨l[k],wM hk,by simpa using hp⟩
theorem wT{α:Type}{l:List α}{p:α->Bool}{d:α}{k:Nat}(h:(l.take k).any p=false)(hk:k<l.length)(hp:p (l.getD k d)=false): (l.take (k+1)).any p=false:=by
 rw[wW,qB hk,List.any_append,h];rw[qA,qB hk]at hp;simpa using hp
theorem oR(s:ByteArray)(i:Nat): s.data.toList.getD i 0=s.data.getD i 0:=by
 rw[qA,zX,qK]
theorem EV(s:ByteArray): oo s 0:=⟨qL _,qZ _,by simp⟩
theorem F7(s:ByteArray): oS s 0:=⟨qL _,qZ _,by simp⟩
theorem wi(s:ByteArray): pI s 0:=⟨qL _,by decide,by simp⟩
theorem EW{s:ByteArray}{x:Int}(h:oo s x)(hx:x<s.size)(hp:nameB (Gf s x)=true): oo s (x+1):=by
 obtain⟨h0,h1,h2⟩:=h;refine⟨by omega,by omega,?_⟩;rw[show(x+1).toNat=x.toNat+1 by omega];exact fB (d:=0) h2 (by rw[mK];omega) (by rw[oR];exact hp)
theorem F8{s:ByteArray}{x:Int}(h:oS s x)(hx:x<s.size)(hp:um (Gf s x)=true): oS s (x+1):=by
 obtain⟨h0,h1,h2⟩:=h;refine⟨by omega,by omega,?_⟩;rw[show(x+1).toNat=x.toNat+1 by omega];exact fB (d:=0) h2 (by rw[mK];omega) (by rw[oR];exact hp)
theorem Jq{s:ByteArray}{x:Int}(h:oo s x)(hx:¬x<s.size): (s.data.toList.all λb=>nameB (b.toNat:Int))=true:=by
 obtain⟨h0,h1,h2⟩:=h
 rwa [qO (by rw[mK];omega)]at h2
theorem J0{s:ByteArray}{x:Int}(h:oS s x)(hx:¬x<s.size): (s.data.toList.all λb=>um (b.toNat:Int))=true:=by
 obtain⟨h0,h1,h2⟩:=h
 rwa [qO (by rw[mK];omega)]at h2
theorem TS{s:ByteArray}{x:Int}(h:oo s x)(hx:x<s.size)(hp:nameB (Gf s x)=false): (s.data.toList.all λb=>nameB (b.toNat:Int))=false:=
 me (d:=0) (k:=x.toNat) (by rw[mK];have:=h.1;omega) (by rw[oR];exact hp)
theorem UK{s:ByteArray}{x:Int}(h:oS s x)(hx:x<s.size)(hp:um (Gf s x)=false): (s.data.toList.all λb=>um (b.toNat:Int))=false:=
 me (d:=0) (k:=x.toNat) (by rw[mK];have:=h.1;omega) (by rw[oR];exact hp)
theorem wj{s:ByteArray}{x:Int}(h:pI s x)(hx:x<17)(hp:s.toList≠(kw.getD x.toNat ⟨#[]⟩).toList): pI s (x+1):=by
 obtain⟨h0,h1,h2⟩:=h;refine⟨by omega,by omega,?_⟩;rw[show(x+1).toNat=x.toNat+1 by omega];exact wT (d:=⟨#[]⟩) h2 (by show x.toNat<17;omega) (by simpa using λe=>hp e.symm)
theorem VP{s:ByteArray}{x:Int}(h:pI s x)(hx:x<17)(hp:s.toList=(kw.getD x.toNat ⟨#[]⟩).toList): isKey s=true:=
 Wg (d:=⟨#[]⟩) (k:=x.toNat) (by have:=h.1;show x.toNat<17;omega) (by simpa using hp.symm)
theorem BR{s:ByteArray}{x:Int}(h:pI s x)(hx:¬x<17): isKey s=false:=by
 obtain⟨h0,h1,h2⟩:=h;have:x=17:=by omega
 subst this;exact h2
theorem EU{s:ByteArray}(h:cy s=true->False): false=cy s:=by
 cases e:cy s with
 | false=>rfl
 | true=>exact(h e).elim
theorem O6{s:ByteArray}(h:dj s=true->False): false=dj s:=by
 cases e:dj s with
 | false=>rfl
 | true=>exact(h e).elim
theorem km{s:ByteArray}: cy s=true↔(1<=s.size/\s.size<=16)/\jA (Gf s 0)=true/\(s.data.toList.all λb=>nameB (b.toNat:Int))=true/\isKey s=false:=by
 unfold cy;simp only[qC,qE,zK,qDi];exact Iff.rfl
theorem nA{s:ByteArray}: dj s=true↔(1<=s.size/\s.size<=8)/\(s.data.toList.all λb=>um (b.toNat:Int))=true:=by
 unfold dj;simp only[qC,qE]
theorem EX{b:Int}(h1:jA b=false)(h2:fz b=false)(h3:b≠95): nameB b=false:=by simp[nameB,h1,h2,h3]
theorem Ja(v:Int): af Tryz.prog G0 202 [.dat I v] [] ⟨True,.dat .bool (dW v 0 1439),[]⟩:=
 ae (c:=mkc K1) KS1 aJ hm (DL v ⟨rfl,λ_=>⟨trivial,rfl,trivial⟩⟩)
theorem TU{b:Int}(h:jA b=false->fz b=false->b=95): nameB b=true:=by
 unfold nameB;cases q1:jA b with
 | true=>rfl
 | false=>cases q2:fz b with
  | true=>rfl
  | false=>simpa using h q1 q2
theorem UM{b:Int}(h:fz b=false->65<=b/\b<=90): um b=true:=by
 unfold um;cases q1:fz b with
 | true=>rfl
 | false=>simpa using h q1
theorem Gk{b:Int}(h1:fz b=false)(h2:b<65\/b>90): um b=false:=by
 unfold um;rw[h1];simp;omega
theorem SY(s:ByteArray): af Tryz.prog G0 236 [.dat S s] [] ⟨True,.dat .bool (cy s),[]⟩:=by
 refine ae (c:=mkc K1) KS1 aJ hm (Lt s ⟨rfl,λ_=>?_⟩);simp only[qc,Dk,Di,qd,Ec,Dp,Ei,Df,Et,Dl,Dc,Dx,Dj,Du,CO,rm];refine⟨λ_=>qL _,λh=>by omega,λh=>EU λg=>?_,λ⟨⟨h1,h2⟩,h3⟩=>⟨EV s,λx hx=>⟨λhlt=>?_,λhge=>?_⟩⟩⟩
 .rw[km]at g;rcases h with h | h
  .omega
  .rw[g.2.1]at h;cases h
 .refine⟨hx.1,hlt,λ⟨⟨b1,b2⟩,b3⟩=>EU λg=>?_,λhb=>⟨⟨by have:=hx.1;omega,by omega⟩,x+1,EW hx hlt (TU λq1 q2=>hb ⟨q1,q2⟩),rfl,by have:=hx.1;omega⟩⟩;have:=TS hx hlt (EX b1 b2 b3);rw[(km.1 g).2.2.1]at this;cases this
 .refine⟨rfl,wi s,λy hy=>⟨λhlt=>⟨hy.1,by omega,rfl,λhe=>EU λg=>?_,λhne=>⟨⟨by have:=hy.1;omega,by omega⟩,y+1,wj hy hlt hne,rfl,by have:=hy.1;omega⟩⟩,λhge2=>(km.2 ⟨by omega,h3,Jq hx hge,BR hy hge2⟩).symm⟩⟩;have:=VP hy hlt he;rw[(km.1 g).2.2.2]at this;cases this
theorem S0(s:ByteArray): af Tryz.prog G0 247 [.dat S s] [] ⟨True,.dat .bool (dj s),[]⟩:=by
 refine ae (c:=mkc K1) KS1 aJ hm (Lx s ⟨rfl,λ_=>?_⟩);simp only[qc,Dk,Di,qd,Dp,Ei,Df,Et,Dc,Du,CO,rm];refine⟨λh=>O6 λg=>by rw[nA]at g;omega,λ⟨h1,h2⟩=>⟨F7 s,λx hx=>⟨λhlt=>?_,λhge=>(nA.2 ⟨by omega,J0 hx hge⟩).symm⟩⟩⟩
 refine⟨hx.1,hlt,λ⟨b1,b2⟩=>O6 λg=>?_,λhb=>⟨⟨by have:=hx.1;omega,by omega⟩,x+1,F8 hx hlt (UM λq1=>by have:=hb q1;omega),rfl,by have:=hx.1;omega⟩⟩;have:=UK hx hlt (Gk b1 b2);rw[(nA.1 g).2]at this;cases this
theorem aEp(s:ByteArray): af Tryz.prog G0 296 [.dat S s] [] ⟨True,.dat .bool (isKey s),[]⟩:=by
 refine ae (c:=mkc K1) KS1 aJ hm (aAA s ⟨rfl,λ_=>?_⟩);simp only[qc,qd,Dp,Df,Dc,Du];have hl:(kw.length:Int)=17:=rfl
 refine⟨wi s,λy hy=>⟨λhlt=>⟨hy.1,hlt,λhe=>(VP hy (by omega) he.symm).symm,λhne=>⟨⟨by have:=hy.1;omega,by omega⟩,y+1,wj hy (by omega) (λe=>hne e.symm),rfl,by have:=hy.1;omega⟩⟩,λhge=>(BR hy (by omega)).symm⟩⟩
theorem KS2: ak Tryz.prog G0 K2:=by
 intro f args m c h;unfold K2 at h;split at h
 .cases h;exact Ja _
 .cases h;exact SY _
 .cases h;exact S0 _
 .cases h;exact aEp _
 .exact KS1 _ _ _ _ h
end Go.Eng.Sv
set_option maxRecDepth 100000
noncomputable section
namespace Go.Eng.Sv
open Go.Proofs
abbrev Of: Ty:=.pair S (.pair I (.pair I (.pair I (.pair I (.pair I (.sl S))))))
abbrev Ln: Ty:=.pair S (.pair I (.pair I (.pair I (.pair I I))))
abbrev Kl: Ty:=.pair S (.pair I I)
abbrev Fa: Ty:=.pair I (.pair I I)
abbrev N: Ty:=.pair (.sl C) (.pair (.sl S) (.pair (.sl S) (.pair (.sl Of) (.pair (.sl Ln) (.sl Kl)))))
abbrev Off:=ByteArray×Int×Int×Int×Int×Int×List ByteArray
abbrev Lo:=List Off
abbrev Cla:=ByteArray×Int×Int
abbrev Lk:=List Cla
abbrev Net:=List (Int×List Bool×Li)×List ByteArray×List ByteArray×Lo×Ll×Lk
abbrev net(cs:LC)(ns os:LB)(fs:Lo)(ls:Ll)(ks:Lk): AV:=.agg [.dat (.sl C) cs,.dat (.sl S) ns,.dat (.sl S) os,.dat (.sl Of) fs,.dat (.sl Ln) ls,.dat (.sl Kl) ks]
def bP(i n:Int): Bool:=decide (0<=i/\i<n)
def idx(i n:Int): Prop:=0<=i/\i<n
def qT(i n:Int): Prop:=0<=i/\i<n/\i<=1000
def kt(l:List ByteArray)(k:Int): Prop:=0<=k/\k<=l.length/\(l.take k.toNat).all dj=true
def dt(n:Net)(o:Off): Bool:=bP o.2.1 n.2.2.1.length&&bP o.2.2.1 n.1.length&&decide (o.2.2.2.2.2.2.length<=20)&&o.2.2.2.2.2.2.all dj&&dW o.2.2.2.1 2 64&&dW o.2.2.2.2.1 1 4&&dW o.2.2.2.2.2.1 1 240
def du(n:Net)(l:Line): Bool:=bP l.2.1 n.2.2.2.1.length&&bP l.2.2.1 n.2.2.2.1.length&&decide (l.2.1≠l.2.2.1)&&dW l.2.2.2.1 0 1439&&dW l.2.2.2.2.1 1 5000&&dW l.2.2.2.2.2 1 40
def iM(k:Cla): Bool:=dW k.2.1 0 1439&&dW k.2.2 0 1439
def aC(cs:List (Int×List Bool×Li))(ns:List ByteArray): List ByteArray:=(List.range cs.length).map λi=>ns.getD i ⟨#[]⟩
def aD(fs:Lo): List ByteArray:=fs.map (·.1)
def aE(ls:Ll): List ByteArray:=ls.map (·.1)
def aF(ks:Lk): List ByteArray:=ks.map (·.1)
def br(cs:List (Int×List Bool×Li)): List Bool:=cs.map λc=>ax c.1 c.2.1 c.2.2
def bX(os:List ByteArray): List Bool:=os.map λ_=>true
def cV(n:Net): List Bool:=n.2.2.2.1.map (dt n)
def cM(n:Net): List Bool:=n.2.2.2.2.1.map (du n)
def bz(ks:Lk): List Bool:=ks.map iM
def gC(l:List ByteArray)(i:Int): ByteArray:=l.getD i.toNat ⟨#[]⟩
def bI(l:List ByteArray)(i:Int): Int:=if cy (gC l i)then 0 else 1
def rule2(l:List ByteArray)(i:Int): Int:=if(l.take i.toNat).any (λw=>w.toList==(gC l i).toList)then 4 else 0
def bS(g:List Bool)(i:Int): Int:=if g.getD i.toNat false then 0 else 1
def uI(l:List ByteArray)(i k:Int): Prop:=0<=k/\k<=i/\(l.take k.toNat).any (λw=>w.toList==(gC l i).toList)=false
def ca(l:List ByteArray)(g:List Bool)(i k:Int): Prop:=0<=k/\k<=3/\(0<k->bI l i=0)/\(1<k->rule2 l i=0)/\(2<k->bS g i=0)
def H9(l:List ByteArray)(g:List Bool)(i:Int): Int:=if bI l i≠0 then bI l i else if rule2 l i≠0 then rule2 l i else bS g i
def aT(kind:Int)(l:List ByteArray)(g:List Bool)(k:Int): List (Int×Int×Int):=(List.range k.toNat).filterMap λi:Nat=>if H9 l g i=0 then none else some (kind,(i:Int),H9 l g i)
def Jn(kind lim:Int)(l:List ByteArray): List (Int×Int×Int):=if lim<l.length then[(kind,lim,2)]else[]
def bG(kind lim:Int)(l:List ByteArray)(g:List Bool): List (Int×Int×Int):=aT kind l g (min l.length lim)++Jn kind lim l
def cX(k n lim:Int): Prop:=0<=k/\k<=n/\k<=lim
def FQ(n:Net): List (Int×Int×Int):=if n.2.1.length=n.1.length then[]else[(1,-1,1)]
def aR(n:Net)(k:Int): List ByteArray:=if k=1 then aC n.1 n.2.1 else if k=2 then n.2.2.1 else if k=3 then aD n.2.2.2.1 else if k=4 then aE n.2.2.2.2.1 else if k=5 then aF n.2.2.2.2.2 else[]
def OB(n:Net)(k:Int): List Bool:=if k=1 then br n.1 else if k=2 then bX n.2.2.1 else if k=3 then cV n else if k=4 then cM n else if k=5 then bz n.2.2.2.2.2 else[]
def jk(n:Net)(k:Int): List (Int×Int×Int):=FQ n++(List.range (k.toNat-1)).flatMap λj:Nat=>bG (j+1) (jf (j+1)) (aR n (j+1)) (OB n (j+1))
def fm(n:Net): List (Int×Int×Int):=jk n 6
def m6(n:Net): Bool:=decide (n.1.length<=10/\n.2.1.length<=10/\n.2.2.1.length<=10/\n.2.2.2.1.length<=16/\n.2.2.2.2.1.length<=50/\n.2.2.2.2.2.length<=8)
theorem Ri(i:Int)(xs:List Of.den)(hvc:
 let c1:=Ed i 0;let c3:=c1->c1->c1;let c2:=Df xs;true/\(True->c3/\c3/\c3/\(Dk true c1->c1)/\Dz c1 (Dp i c2) false=bP i c2/\True)):
  evF (mkc K2) aA 252 [.dat I i,.dat (.sl Of) xs] [] ⟨True,.dat .bool (bP i (Df xs)),[]⟩:=oE hvc
theorem W9(i:Int)(xs:List S.den)(hvc:
 let c1:=Ed i 0;let c2:=c1->c1->c1;true/\(True->c2/\c2/\c2/\(Dk true c1->c1)/\Dz c1 (Dp i (Df xs)) false=bP i (Df xs)/\True)):
  evF (mkc K2) aA 245 [.dat I i,.dat (.sl S) xs] [] ⟨True,.dat .bool (bP i (Df xs)),[]⟩:=oE hvc
theorem Xa(i:Int)(xs:List C.den)(hvc:
 let c1:=Ed i 0;let c3:=c1->c1->c1;let c2:=Df xs;true/\(True->c3/\c3/\c3/\(Dk true c1->c1)/\Dz c1 (Dp i c2) false=bP i c2/\True)):
  evF (mkc K2) aA 246 [.dat I i,.dat (.sl C) xs] [] ⟨True,.dat .bool (bP i (Df xs)),[]⟩:=oE hvc
def K3: Kt:=kOr 252 (az [.val I,.val (.sl Of)] (λ_=>True) λ(i,xs,_)=>.dat .bool (bP i (Df xs)))
 (kOr 245 (az [.val I,.val (.sl S)] (λ_=>True) λ(i,xs,_)=>.dat .bool (bP i (Df xs)))
 (kOr 246 (az [.val I,.val (.sl C)] (λ_=>True) λ(i,xs,_)=>.dat .bool (bP i (Df xs))) K2))
def aCf(l:List ByteArray): Ann:=⟨λid st=>match id with
 | 4=>some {α:=Int,inv:=λk=>kt l k,st:=λk=>put st [(30,.dat I k)],μ:=λk=>Dc (Dh (Df l) k)}
 | _=>none,λ_ _=>none,λ_ _=>none⟩
theorem xe(cs:LC)(ns os:LB)(fs:Lo)(ls:Ll)(ks:Lk)(e1:ByteArray)(e2 e3 e4 e5 e6:Int)(e7:List ByteArray)(hvc:
 let c1:=Di (bP e2 (Df os));let c2:=Di c1;let c13:=c2->c2->c2;let c3:=Dz c1 true (Di (bP e3 (Df cs)));let c4:=Di c3;let c14:=c4->c4->c4;let c5:=Dz c3 true (Ei (Df e7) 20);let c6:=(e1,e2,e3,e4,e5,e6,e7);let c7:=dt (cs,ns,os,fs,ls,ks) c6;let c8:=dW e4 2 64;let c9:=Dz c8 (dW e5 1 4) false;true/\(True->True/\c13/\c13/\c13/\c13/\(c2->True)/\c13/\(Dk true c2->c2)/\c14/\c14/\c14/\(Dk true c4->c4)/\(c5->false=c7/\True)/\(c5=false->(∃x,kt e7 x/\c6=c6/\e7=e7/\Df e7=Df e7/\0=x/\True)/\∀(x:Int),let c10:=Dp x (Df e7);let c11:=Di (dj (Du e7 (Dc x) (ByteArray.mk #[])));let c12:=x+1;kt e7 x->(c10->0<=x/\x<Df e7/\True/\(c11->false=c7/\True)/\(c11=false->inR .i64 c12/\∃y,kt e7 y/\(c6=c6/\e7=e7/\Df e7=Df e7/\c12=y/\True)/\Dc (Df e7-y)<Dc (Df e7-x)))/\(c10=false->True/\(c8->c8->c8)/\(c8->c8->c8)/\(c8->True)/\(Dk true c8->c8)/\(c9->c9->c9)/\(c9->c9->c9)/\(c9->True)/\(Dk true c9->c9)/\Dz c9 (dW e6 1 240) false=c7/\True)))):
  evF (mkc K3) (lvA [(4,[3,4,6,28,29,30])] (aCf e7)) 194 [net cs ns os fs ls ks,.agg [.dat .str e1,.dat (.int .i64) e2,.dat (.int .i64) e3,.dat (.int .i64) e4,.dat (.int .i64) e5,.dat (.int .i64) e6,.dat (.sl .str) e7]] [] ⟨True,.dat .bool (dt (cs,ns,os,fs,ls,ks) (e1,e2,e3,e4,e5,e6,e7)),[]⟩:=oE hvc
theorem DO(cs:LC)(ns os:LB)(fs:Lo)(ls:Ll)(ks:Lk)(e1:ByteArray)(e2 e3 e4 e5 e6:Int)(hvc:
 let c1:=Df fs;let c2:=Di (bP e2 c1);let c3:=Di c2;let c10:=c3->c3->c3;let c4:=Dz c2 true (Di (bP e3 c1));let c5:=Di c4;let c11:=c5->c5->c5;let c6:=Dz c4 true (Ea e2 e3);let c7:=du (cs,ns,os,fs,ls,ks) (e1,e2,e3,e4,e5,e6);let c8:=dW e4 0 1439;let c9:=Dz c8 (dW e5 1 5000) false;true/\(True->True/\c10/\c10/\c10/\c10/\(c3->True)/\c10/\(Dk true c3->c3)/\c11/\c11/\c11/\c11/\(Dk true c5->c5)/\(c6->false=c7/\True)/\(c6=false->True/\(c8->c8->c8)/\(c8->c8->c8)/\(c8->True)/\(Dk true c8->c8)/\(c9->c9->c9)/\(c9->c9->c9)/\(c9->True)/\(Dk true c9->c9)/\Dz c9 (dW e6 1 40) false=c7/\True))):
  evF (mkc K3) aA 198 [net cs ns os fs ls ks,.agg [.dat .str e1,.dat (.int .i64) e2,.dat (.int .i64) e3,.dat (.int .i64) e4,.dat (.int .i64) e5,.dat (.int .i64) e6]] [] ⟨True,.dat .bool (du (cs,ns,os,fs,ls,ks) (e1,e2,e3,e4,e5,e6)),[]⟩:=oE hvc
def K4: Kt:=kOr 194 (az [.row N,.row Of] (λ_=>True) λ(n,o,_)=>.dat .bool (dt n o))
 (kOr 198 (az [.row N,.row Ln] (λ_=>True) λ(n,l,_)=>.dat .bool (du n l)) K3)
theorem aAf(i:Int)(cs:LC)(ns os:LB)(fs:Lo)(ls:Ll)(ks:Lk)(hvc:
 let c1:=Dp i (Df ns);let c2:=gC (aC cs ns) i;true/\(idx i (Df cs)->(c1->0<=i/\i<Df ns/\Du ns (Dc i) (ByteArray.mk #[])=c2/\True)/\(c1=false->ByteArray.mk #[]=c2/\True))):
  evF (mkc K4) aA 186 [.dat I i,.ip N (cs,ns,os,fs,ls,ks)] [] ⟨idx i (Df cs),.dat S (gC (aC cs ns) i),[]⟩:=oE hvc
theorem aAe(i:Int)(cs:LC)(ns os:LB)(fs:Lo)(ls:Ll)(ks:Lk)(hvc:
 true/\(idx i (Df os)->0<=i/\i<Df os/\Du os (Dc i) (ByteArray.mk #[])=gC os i/\True)):
  evF (mkc K4) aA 188 [.dat I i,.ip N (cs,ns,os,fs,ls,ks)] [] ⟨idx i (Df os),.dat S (gC os i),[]⟩:=oE hvc
theorem aAr(e1:ByteArray)(hvc:
 true/\(True->true/\True)):
  evF (mkc K4) aA 190 [.agg [.dat .str e1]] [] ⟨True,.dat .bool true,[]⟩:=oE hvc
theorem aAd(i:Int)(cs:LC)(ns os:LB)(fs:Lo)(ls:Ll)(ks:Lk)(hvc:
 let c1:=Df fs;true/\(idx i c1->0<=i/\i<c1/\(Du fs (Dc i) (ByteArray.mk #[],(0:Int),(0:Int),(0:Int),(0:Int),(0:Int),Dt ByteArray)).1=gC (aD fs) i/\True)):
  evF (mkc K4) aA 191 [.dat I i,.ip N (cs,ns,os,fs,ls,ks)] [] ⟨idx i (Df fs),.dat S (gC (aD fs) i),[]⟩:=oE hvc
theorem aAq(cs:LC)(ns os:LB)(fs:Lo)(ls:Ll)(ks:Lk)(e1:ByteArray)(e2 e3 e4 e5 e6:Int)(e7:List ByteArray)(hvc:
 let c1:=dt (cs,ns,os,fs,ls,ks) (e1,e2,e3,e4,e5,e6,e7);true/\(True->True/\c1=c1/\True)):
  evF (mkc K4) aA 193 [.agg [.dat .str e1,.dat (.int .i64) e2,.dat (.int .i64) e3,.dat (.int .i64) e4,.dat (.int .i64) e5,.dat (.int .i64) e6,.dat (.sl .str) e7],.ip N (cs,ns,os,fs,ls,ks)] [] ⟨True,.dat .bool (dt (cs,ns,os,fs,ls,ks) (e1,e2,e3,e4,e5,e6,e7)),[]⟩:=oE hvc
theorem aAc(i:Int)(cs:LC)(ns os:LB)(fs:Lo)(ls:Ll)(ks:Lk)(hvc:
 let c1:=Df ls;true/\(idx i c1->0<=i/\i<c1/\(Du ls (Dc i) (ByteArray.mk #[],(0:Int),(0:Int),(0:Int),(0:Int),(0:Int))).1=gC (aE ls) i/\True)):
  evF (mkc K4) aA 195 [.dat I i,.ip N (cs,ns,os,fs,ls,ks)] [] ⟨idx i (Df ls),.dat S (gC (aE ls) i),[]⟩:=oE hvc
theorem aAp(cs:LC)(ns os:LB)(fs:Lo)(ls:Ll)(ks:Lk)(e1:ByteArray)(e2 e3 e4 e5 e6:Int)(hvc:
 let c1:=du (cs,ns,os,fs,ls,ks) (e1,e2,e3,e4,e5,e6);true/\(True->True/\c1=c1/\True)):
  evF (mkc K4) aA 197 [.agg [.dat .str e1,.dat (.int .i64) e2,.dat (.int .i64) e3,.dat (.int .i64) e4,.dat (.int .i64) e5,.dat (.int .i64) e6],.ip N (cs,ns,os,fs,ls,ks)] [] ⟨True,.dat .bool (du (cs,ns,os,fs,ls,ks) (e1,e2,e3,e4,e5,e6)),[]⟩:=oE hvc
theorem aAb(i:Int)(cs:LC)(ns os:LB)(fs:Lo)(ls:Ll)(ks:Lk)(hvc:
 let c1:=Df ks;true/\(idx i c1->0<=i/\i<c1/\(Du ks (Dc i) (ByteArray.mk #[],(0:Int),(0:Int))).1=gC (aF ks) i/\True)):
  evF (mkc K4) aA 199 [.dat I i,.ip N (cs,ns,os,fs,ls,ks)] [] ⟨idx i (Df ks),.dat S (gC (aF ks) i),[]⟩:=oE hvc
theorem aAo(e1:ByteArray)(e2 e3:Int)(hvc:
 let c1:=dW e2 0 1439;true/\(True->True/\(c1->c1->c1)/\(c1->c1->c1)/\(c1->True)/\(Dk true c1->c1)/\Dz c1 (dW e3 0 1439) false=iM (e1,e2,e3)/\True)):
  evF (mkc K4) aA 201 [.agg [.dat .str e1,.dat (.int .i64) e2,.dat (.int .i64) e3]] [] ⟨True,.dat .bool (iM (e1,e2,e3)),[]⟩:=oE hvc
def K5: Kt:=kOr 186 (az [.val I,.ptr N] (λ(i,(cs,ns,os,fs,ls,ks),_)=>idx i (Df cs)) λ(i,(cs,ns,os,fs,ls,ks),_)=>.dat S (gC (aC cs ns) i))
 (kOr 188 (az [.val I,.ptr N] (λ(i,(cs,ns,os,fs,ls,ks),_)=>idx i (Df os)) λ(i,(cs,ns,os,fs,ls,ks),_)=>.dat S (gC (os) i))
 (kOr 190 (az [.row S] (λ_=>True) λ_=>.dat .bool true)
 (kOr 191 (az [.val I,.ptr N] (λ(i,(cs,ns,os,fs,ls,ks),_)=>idx i (Df fs)) λ(i,(cs,ns,os,fs,ls,ks),_)=>.dat S (gC (aD fs) i))
 (kOr 193 (az [.row Of,.ptr N] (λ_=>True) λ(o,n,_)=>.dat .bool (dt n o))
 (kOr 195 (az [.val I,.ptr N] (λ(i,(cs,ns,os,fs,ls,ks),_)=>idx i (Df ls)) λ(i,(cs,ns,os,fs,ls,ks),_)=>.dat S (gC (aE ls) i))
 (kOr 197 (az [.row Ln,.ptr N] (λ_=>True) λ(l,n,_)=>.dat .bool (du n l))
 (kOr 199 (az [.val I,.ptr N] (λ(i,(cs,ns,os,fs,ls,ks),_)=>idx i (Df ks)) λ(i,(cs,ns,os,fs,ls,ks),_)=>.dat S (gC (aF ks) i))
 (kOr 201 (az [.row Kl] (λ_=>True) λ(k,_)=>.dat .bool (iM k)) K4))))))))
def twA(l:List ByteArray)(i:Int): Ann:=⟨λid st=>match id with
 | 2=>some {α:=Int,inv:=λk=>uI l i k,st:=λk=>put st [(6,.dat I k)],μ:=λk=>Dc (Dh i k)}
 | _=>none,λ_ _=>none,λ_ _=>none⟩
theorem xS(i:Int)(cs:LC)(ns os:LB)(fs:Lo)(ls:Ll)(ks:Lk)(hvc:
 let c1:=Di (cy (gC (aC cs ns) i));let c2:=bI (aC cs ns) i;true/\(idx i (Df cs)->idx i (Df cs)/\True/\(c1->1=c2/\True)/\(c1=false->0=c2/\True))):
  evF (mkc K5) aA 235 [.dat I i,.ipv (.fn 186 [.ip N (cs,ns,os,fs,ls,ks)])] [] ⟨idx i (Df cs),.dat I (bI (aC cs ns) i),[]⟩:=oE hvc
theorem tE(i:Int)(cs:LC)(ns os:LB)(fs:Lo)(ls:Ll)(ks:Lk)(hvc:
 let c6:=aC cs ns;let c1:=Df cs;let c2:=(cs,ns,os,fs,ls,ks);let c3:=rule2 c6 i;true/\(qT i c1->(∃x,uI c6 i x/\i=i/\c2=c2/\i=i/\0=x/\True)/\∀(x:Int),let c4:=Fv (gC c6 x) (gC c6 i);let c5:=x+1;uI c6 i x->(Dp x i->idx x c1/\idx i c1/\(c4->4=c3/\True)/\(c4=false->inR IntKind.i64 c5/\∃y,uI c6 i y/\(i=i/\c2=c2/\i=i/\c5=y/\True)/\Dc (i-y)<Dc (i-x)))/\(Dp x i=false->0=c3/\True))):
  evF (mkc K5) (lvA [(2,[0,1,3,4,5,6])] (twA (aC cs ns) i)) 237 [.dat I i,.ipv (.fn 186 [.ip N (cs,ns,os,fs,ls,ks)])] [] ⟨qT i (Df cs),.dat I (rule2 (aC cs ns) i),[]⟩:=oE hvc
theorem oB(i:Int)(cs:LC)(ns os:LB)(fs:Lo)(ls:Ll)(ks:Lk)(hvc:
 let c1:=Df cs;let c2:=Du cs (Dc i) ((0:Int),Dt Bool,Dt Int);let c4:=Di (ax c2.1 c2.2.1 c2.2.2);true/\(idx i c1->0<=i/\i<c1/\True/\(c4->1=bS (br cs) i/\True)/\(c4=false->0=bS (br cs) i/\True))):
  evF (mkc K5) aA 238 [.dat I i,.ipv (.fn 161 []),.ip (.sl C) cs] [] ⟨idx i (Df cs),.dat I (bS (br cs) i),[]⟩:=oE hvc
theorem xD(i:Int)(cs:LC)(ns os:LB)(fs:Lo)(ls:Ll)(ks:Lk)(hvc:
 let c1:=Di (cy (gC os i));true/\(idx i (Df os)->idx i (Df os)/\True/\(c1->1=bI os i/\True)/\(c1=false->0=bI os i/\True))):
  evF (mkc K5) aA 239 [.dat I i,.ipv (.fn 188 [.ip N (cs,ns,os,fs,ls,ks)])] [] ⟨idx i (Df os),.dat I (bI (os) i),[]⟩:=oE hvc
theorem sI(i:Int)(cs:LC)(ns os:LB)(fs:Lo)(ls:Ll)(ks:Lk)(hvc:
 let c4:=Df os;let c1:=(cs,ns,os,fs,ls,ks);true/\(qT i c4->(∃x,uI os i x/\i=i/\c1=c1/\i=i/\0=x/\True)/\∀(x:Int),let c2:=Fv (gC os x) (gC os i);let c3:=x+1;uI os i x->(Dp x i->idx x c4/\idx i c4/\(c2->4=rule2 os i/\True)/\(c2=false->inR .i64 c3/\∃y,uI os i y/\(i=i/\c1=c1/\i=i/\c3=y/\True)/\Dc (i-y)<Dc (i-x)))/\(Dp x i=false->0=rule2 os i/\True))):
  evF (mkc K5) (lvA [(2,[0,1,3,4,5,6])] (twA (os) i)) 240 [.dat I i,.ipv (.fn 188 [.ip N (cs,ns,os,fs,ls,ks)])] [] ⟨qT i (Df os),.dat I (rule2 (os) i),[]⟩:=oE hvc
theorem oA(i:Int)(cs:LC)(ns os:LB)(fs:Lo)(ls:Ll)(ks:Lk)(hvc:
 true/\(idx i (Df os)->0<=i/\i<Df os/\True/\(Di true->1=bS (bX os) i/\True)/\(Di true=false->0=bS (bX os) i/\True))):
  evF (mkc K5) aA 241 [.dat I i,.ipv (.fn 190 []),.ip (.sl S) os] [] ⟨idx i (Df os),.dat I (bS (bX os) i),[]⟩:=oE hvc
theorem wD(i:Int)(cs:LC)(ns os:LB)(fs:Lo)(ls:Ll)(ks:Lk)(hvc:
 let c1:=Di (cy (gC (aD fs) i));true/\(idx i (Df fs)->idx i (Df fs)/\True/\(c1->1=bI (aD fs) i/\True)/\(c1=false->0=bI (aD fs) i/\True))):
  evF (mkc K5) aA 242 [.dat I i,.ipv (.fn 191 [.ip N (cs,ns,os,fs,ls,ks)])] [] ⟨idx i (Df fs),.dat I (bI (aD fs) i),[]⟩:=oE hvc
theorem oX(i:Int)(cs:LC)(ns os:LB)(fs:Lo)(ls:Ll)(ks:Lk)(hvc:
 let c1:=Df fs;let c2:=(cs,ns,os,fs,ls,ks);true/\(qT i c1->(∃x,uI (aD fs) i x/\i=i/\c2=c2/\i=i/\0=x/\True)/\∀(x:Int),let c3:=Fv (gC (aD fs) x) (gC (aD fs) i);let c4:=x+1;uI (aD fs) i x->(Dp x i->idx x c1/\idx i c1/\(c3->4=rule2 (aD fs) i/\True)/\(c3=false->inR .i64 c4/\∃y,uI (aD fs) i y/\(i=i/\c2=c2/\i=i/\c4=y/\True)/\Dc (i-y)<Dc (i-x)))/\(Dp x i=false->0=rule2 (aD fs) i/\True))):
  evF (mkc K5) (lvA [(2,[0,1,3,4,5,6])] (twA (aD fs) i)) 243 [.dat I i,.ipv (.fn 191 [.ip N (cs,ns,os,fs,ls,ks)])] [] ⟨qT i (Df fs),.dat I (rule2 (aD fs) i),[]⟩:=oE hvc
theorem kI(i:Int)(cs:LC)(ns os:LB)(fs:Lo)(ls:Ll)(ks:Lk)(hvc:
 let c1:=Df fs;let c2:=(cs,ns,os,fs,ls,ks);let c9:=Di (dt c2 (Du fs (Dc i) (ByteArray.mk #[],(0:Int),(0:Int),(0:Int),(0:Int),(0:Int),Dt ByteArray)));let c10:=bS (cV c2) i;true/\(idx i c1->0<=i/\i<c1/\True/\(c9->1=c10/\True)/\(c9=false->0=c10/\True))):
  evF (mkc K5) aA 244 [.dat I i,.ipv (.fn 193 [.ip N (cs,ns,os,fs,ls,ks)]),.ip (.sl Of) fs] [] ⟨idx i (Df fs),.dat I (bS (cV (cs,ns,os,fs,ls,ks)) i),[]⟩:=oE hvc
theorem tT(i:Int)(cs:LC)(ns os:LB)(fs:Lo)(ls:Ll)(ks:Lk)(hvc:
 let c1:=Di (cy (gC (aE ls) i));true/\(idx i (Df ls)->idx i (Df ls)/\True/\(c1->1=bI (aE ls) i/\True)/\(c1=false->0=bI (aE ls) i/\True))):
  evF (mkc K5) aA 249 [.dat I i,.ipv (.fn 195 [.ip N (cs,ns,os,fs,ls,ks)])] [] ⟨idx i (Df ls),.dat I (bI (aE ls) i),[]⟩:=oE hvc
theorem oT(i:Int)(cs:LC)(ns os:LB)(fs:Lo)(ls:Ll)(ks:Lk)(hvc:
 let c1:=Df ls;let c2:=(cs,ns,os,fs,ls,ks);true/\(qT i c1->(∃x,uI (aE ls) i x/\i=i/\c2=c2/\i=i/\0=x/\True)/\∀(x:Int),let c3:=Fv (gC (aE ls) x) (gC (aE ls) i);let c4:=x+1;uI (aE ls) i x->(Dp x i->idx x c1/\idx i c1/\(c3->4=rule2 (aE ls) i/\True)/\(c3=false->inR .i64 c4/\∃y,uI (aE ls) i y/\(i=i/\c2=c2/\i=i/\c4=y/\True)/\Dc (i-y)<Dc (i-x)))/\(Dp x i=false->0=rule2 (aE ls) i/\True))):
  evF (mkc K5) (lvA [(2,[0,1,3,4,5,6])] (twA (aE ls) i)) 250 [.dat I i,.ipv (.fn 195 [.ip N (cs,ns,os,fs,ls,ks)])] [] ⟨qT i (Df ls),.dat I (rule2 (aE ls) i),[]⟩:=oE hvc
theorem iB(i:Int)(cs:LC)(ns os:LB)(fs:Lo)(ls:Ll)(ks:Lk)(hvc:
 let c1:=Df ls;let c2:=(cs,ns,os,fs,ls,ks);let c8:=Di (du c2 (Du ls (Dc i) (ByteArray.mk #[],(0:Int),(0:Int),(0:Int),(0:Int),(0:Int))));let c9:=bS (cM c2) i;true/\(idx i c1->0<=i/\i<c1/\True/\(c8->1=c9/\True)/\(c8=false->0=c9/\True))):
  evF (mkc K5) aA 251 [.dat I i,.ipv (.fn 197 [.ip N (cs,ns,os,fs,ls,ks)]),.ip (.sl Ln) ls] [] ⟨idx i (Df ls),.dat I (bS (cM (cs,ns,os,fs,ls,ks)) i),[]⟩:=oE hvc
theorem tF(i:Int)(cs:LC)(ns os:LB)(fs:Lo)(ls:Ll)(ks:Lk)(hvc:
 let c1:=Di (cy (gC (aF ks) i));true/\(idx i (Df ks)->idx i (Df ks)/\True/\(c1->1=bI (aF ks) i/\True)/\(c1=false->0=bI (aF ks) i/\True))):
  evF (mkc K5) aA 253 [.dat I i,.ipv (.fn 199 [.ip N (cs,ns,os,fs,ls,ks)])] [] ⟨idx i (Df ks),.dat I (bI (aF ks) i),[]⟩:=oE hvc
theorem oF(i:Int)(cs:LC)(ns os:LB)(fs:Lo)(ls:Ll)(ks:Lk)(hvc:
 let c1:=Df ks;let c2:=(cs,ns,os,fs,ls,ks);true/\(qT i c1->(∃x,uI (aF ks) i x/\i=i/\c2=c2/\i=i/\0=x/\True)/\∀(x:Int),let c3:=Fv (gC (aF ks) x) (gC (aF ks) i);let c4:=x+1;uI (aF ks) i x->(Dp x i->idx x c1/\idx i c1/\(c3->4=rule2 (aF ks) i/\True)/\(c3=false->inR .i64 c4/\∃y,uI (aF ks) i y/\(i=i/\c2=c2/\i=i/\c4=y/\True)/\Dc (i-y)<Dc (i-x)))/\(Dp x i=false->0=rule2 (aF ks) i/\True))):
  evF (mkc K5) (lvA [(2,[0,1,3,4,5,6])] (twA (aF ks) i)) 254 [.dat I i,.ipv (.fn 199 [.ip N (cs,ns,os,fs,ls,ks)])] [] ⟨qT i (Df ks),.dat I (rule2 (aF ks) i),[]⟩:=oE hvc
theorem iA(i:Int)(cs:LC)(ns os:LB)(fs:Lo)(ls:Ll)(ks:Lk)(hvc:
 let c1:=Df ks;let c4:=Di (iM (Du ks (Dc i) (ByteArray.mk #[],(0:Int),(0:Int))));true/\(idx i c1->0<=i/\i<c1/\True/\(c4->1=bS (bz ks) i/\True)/\(c4=false->0=bS (bz ks) i/\True))):
  evF (mkc K5) aA 255 [.dat I i,.ipv (.fn 201 []),.ip (.sl Kl) ks] [] ⟨idx i (Df ks),.dat I (bS (bz ks) i),[]⟩:=oE hvc
def K6: Kt:=
 kOr 235 (az [.val I,.fnp 186 N] (λ(i,(cs,ns,os,fs,ls,ks),_)=>idx i (Df cs)) λ(i,(cs,ns,os,fs,ls,ks),_)=>.dat I (bI (aC cs ns) i)) <|
 kOr 237 (az [.val I,.fnp 186 N] (λ(i,(cs,ns,os,fs,ls,ks),_)=>qT i (Df cs)) λ(i,(cs,ns,os,fs,ls,ks),_)=>.dat I (rule2 (aC cs ns) i)) <|
 kOr 238 (az [.val I,.fnp0 161,.ptr (.sl C)] (λ(i,_,cs,_)=>idx i (Df cs)) λ(i,_,cs,_)=>.dat I (bS (br cs) i)) <|
 kOr 239 (az [.val I,.fnp 188 N] (λ(i,(cs,ns,os,fs,ls,ks),_)=>idx i (Df os)) λ(i,(cs,ns,os,fs,ls,ks),_)=>.dat I (bI (os) i)) <|
 kOr 240 (az [.val I,.fnp 188 N] (λ(i,(cs,ns,os,fs,ls,ks),_)=>qT i (Df os)) λ(i,(cs,ns,os,fs,ls,ks),_)=>.dat I (rule2 (os) i)) <|
 kOr 241 (az [.val I,.fnp0 190,.ptr (.sl S)] (λ(i,_,os,_)=>idx i (Df os)) λ(i,_,os,_)=>.dat I (bS (bX os) i)) <|
 kOr 242 (az [.val I,.fnp 191 N] (λ(i,(cs,ns,os,fs,ls,ks),_)=>idx i (Df fs)) λ(i,(cs,ns,os,fs,ls,ks),_)=>.dat I (bI (aD fs) i)) <|
 kOr 243 (az [.val I,.fnp 191 N] (λ(i,(cs,ns,os,fs,ls,ks),_)=>qT i (Df fs)) λ(i,(cs,ns,os,fs,ls,ks),_)=>.dat I (rule2 (aD fs) i)) <|
 kOr 244 (az [.val I,.fnp 193 N,.ptr (.sl Of)] (λ(i,(cs,ns,os,fs,ls,ks),xs,_)=>idx i (Df fs)/\xs=fs) λ(i,(cs,ns,os,fs,ls,ks),_,_)=>.dat I (bS (cV (cs,ns,os,fs,ls,ks)) i)) <|
 kOr 249 (az [.val I,.fnp 195 N] (λ(i,(cs,ns,os,fs,ls,ks),_)=>idx i (Df ls)) λ(i,(cs,ns,os,fs,ls,ks),_)=>.dat I (bI (aE ls) i)) <|
 kOr 250 (az [.val I,.fnp 195 N] (λ(i,(cs,ns,os,fs,ls,ks),_)=>qT i (Df ls)) λ(i,(cs,ns,os,fs,ls,ks),_)=>.dat I (rule2 (aE ls) i)) <|
 kOr 251 (az [.val I,.fnp 197 N,.ptr (.sl Ln)] (λ(i,(cs,ns,os,fs,ls,ks),xs,_)=>idx i (Df ls)/\xs=ls) λ(i,(cs,ns,os,fs,ls,ks),_,_)=>.dat I (bS (cM (cs,ns,os,fs,ls,ks)) i)) <|
 kOr 253 (az [.val I,.fnp 199 N] (λ(i,(cs,ns,os,fs,ls,ks),_)=>idx i (Df ks)) λ(i,(cs,ns,os,fs,ls,ks),_)=>.dat I (bI (aF ks) i)) <|
 kOr 254 (az [.val I,.fnp 199 N] (λ(i,(cs,ns,os,fs,ls,ks),_)=>qT i (Df ks)) λ(i,(cs,ns,os,fs,ls,ks),_)=>.dat I (rule2 (aF ks) i)) <|
 kOr 255 (az [.val I,.fnp0 201,.ptr (.sl Kl)] (λ(i,_,ks,_)=>idx i (Df ks)) λ(i,_,ks,_)=>.dat I (bS (bz ks) i)) <|
 K5
def CN(kind lim:Int)(l:List ByteArray)(g:List Bool): Ann:=⟨λid st=>match id with
 | 4=>some {α:=Int,inv:=λk=>cX k (Df l) lim,st:=λk=>iE (put st [(25,.dat I k),(12,.buf 100 (Dj (aT kind l g k)))]) 100 (.buf 177 Fa (aT kind l g k) []),μ:=λk=>Dc (Dh lim k)}
 | 7=>match st.sig.T 13 with
  | .dat (.int .i64) i=>some {α:=Int,inv:=λk=>ca l g i k,st:=λk=>put st [(29,.dat I k),(12,.buf 100 (Dj (aT kind l g i)))],μ:=λk=>Dc (Dh 3 k)}
  | _=>none
 | _=>none,λ_ _=>none,λ_ _=>none⟩
theorem aAy(cs:LC)(ns os:LB)(fs:Lo)(ls:Ll)(ks:Lk)(hvc:
 let c11:=aC cs ns;let c1:=Df cs;let c2:=Eu c1 6;let c3:=(cs,ns,os,fs,ls,ks);let c4:=Ei c1 6;let c5:=[((1:Int),(6:Int),(2:Int))];let c6:=bG 1 6 c11 (br cs);true/\(True->1=1/\0=0/\(∃x,let c7:=aT 1 c11 (br cs) x;cX x (Df c11) 6/\(1:Int)=(1:Int)/\(6:Int)=(6:Int)/\cs=cs/\Value.slice none 0 0=Value.slice none 0 0/\1=1/\0=0/\0=0/\Dj c7=0/\c7=Dt (Int×Int×Int)/\c2=c2/\0=x/\c3=c3/\c3=c3/\cs=cs/\c7=Dt (Int×Int×Int)/\True)/\∀(x:Int),let c8:=Df c11;let c9:=aT 1 c11 (br cs) x;let c10:=Dj c9;let c12:=x+1;let c13:=c10+Dj c5;let c14:=Ef c9 c5;cX x c8 6->(Dp x c2->1=1/\0=0/\(∃x_3,ca c11 (br cs) x x_3/\(1:Int)=(1:Int)/\(6:Int)=(6:Int)/\cs=cs/\Value.slice none 0 0=Value.slice none 0 0/\1=1/\0=0/\0=0/\c10=c10/\x=x/\c2=c2/\x=x/\c3=c3/\c3=c3/\cs=cs/\0=x_3/\c3=c3/\c3=c3/\cs=cs/\c9=c9/\True)/\∀(x_3:Int),let c15:=Dp x_3 3;let c16:=Du [bI c11 x,rule2 c11 x,bS (br cs) x] (Dc x_3) 0;let c17:=Ec c16 0;let c18:=[((1:Int),x,c16)];let c19:=c10+Dj c18;let c20:=x_3+1;ca c11 (br cs) x x_3->(c15->0<=x_3/\x_3<Dx 3/\(Dc x_3=0->idx x c1)/\(Dc x_3=1->qT x c1)/\(Dc x_3=2->idx x c1)/\(c17->c10=c10/\(c19*24)<=140737488355328/\c19<=9223372036854775807/\inR .i64 c12/\∃y,let c21:=aT 1 c11 (br cs) y;
 cX y c8 6/\((1:Int)=(1:Int)/\(6:Int)=(6:Int)/\cs=cs/\Value.slice none 0 0=Value.slice none 0 0/\1=1/\0=0/\0=0/\c19=Dj c21/\c2=c2/\c12=y/\c3=c3/\c3=c3/\cs=cs/\Ef c9 c18=c21/\True)/\Dc (6-y)<Dc (6-x))/\(c17=false->inR .i64 c20/\∃y,ca c11 (br cs) x y/\((1:Int)=(1:Int)/\(6:Int)=(6:Int)/\cs=cs/\Value.slice none 0 0=Value.slice none 0 0/\1=1/\0=0/\0=0/\c10=c10/\x=x/\c2=c2/\x=x/\c3=c3/\c3=c3/\cs=cs/\c20=y/\c3=c3/\c3=c3/\cs=cs/\c9=c9/\True)/\Dc (3-y)<Dc (3-x_3)))/\(c15=false->inR .i64 c12/\∃y,let c22:=aT 1 c11 (br cs) y;cX y c8 6/\((1:Int)=(1:Int)/\(6:Int)=(6:Int)/\cs=cs/\Value.slice none 0 0=Value.slice none 0 0/\1=1/\0=0/\0=0/\c10=Dj c22/\c2=c2/\c12=y/\c3=c3/\c3=c3/\cs=cs/\c9=c22/\True)/\Dc (6-y)<Dc (6-x)))/\(Dp x c2=false->(c4->c10=c10/\(c13*24)<=140737488355328/\c13<=9223372036854775807/\Dj c14=c13/\c14=c6/\True)/\(c4=false->c10=c10/\c9=c6/\True)))):
  evF (mkc K6) (lvA [(4,[0,1,7,10,11,12,13,15,16,24,25,28,29]),(7,[0,1,7,10,11,12,13,15,16,24,25,28,29])] (CN 1 6 (aC cs ns) (br cs))) 187 [.dat I 1,.dat I 6,.dat (.sl C) cs,.fn 186 [.ip N (cs,ns,os,fs,ls,ks)],.fn 161 []] [] ⟨True,.dat (.sl Fa) (bG 1 6 (aC cs ns) (br cs)),[]⟩:=oE hvc
theorem aAx(cs:LC)(ns os:LB)(fs:Lo)(ls:Ll)(ks:Lk)(hvc:
 let c9:=Df os;let c1:=Eu c9 6;let c2:=(cs,ns,os,fs,ls,ks);let c3:=Ei c9 6;let c4:=[((2:Int),(6:Int),(2:Int))];let c5:=bG 2 6 os (bX os);true/\(True->1=1/\0=0/\(∃x,let c6:=aT 2 os (bX os) x;cX x c9 6/\(2:Int)=(2:Int)/\(6:Int)=(6:Int)/\os=os/\Value.slice none 0 0=Value.slice none 0 0/\1=1/\0=0/\0=0/\Dj c6=0/\c6=Dt (Int×Int×Int)/\c1=c1/\0=x/\c2=c2/\c2=c2/\os=os/\c6=Dt (Int×Int×Int)/\True)/\∀(x:Int),let c7:=aT 2 os (bX os) x;let c8:=Dj c7;let c10:=x+1;let c11:=c8+Dj c4;let c12:=Ef c7 c4;cX x c9 6->(Dp x c1->1=1/\0=0/\(∃x_3,ca os (bX os) x x_3/\(2:Int)=(2:Int)/\(6:Int)=(6:Int)/\os=os/\Value.slice none 0 0=Value.slice none 0 0/\1=1/\0=0/\0=0/\c8=c8/\x=x/\c1=c1/\x=x/\c2=c2/\c2=c2/\os=os/\0=x_3/\c2=c2/\c2=c2/\os=os/\c7=c7/\True)/\∀(x_3:Int),let c13:=Dp x_3 3;let c14:=Du [bI os x,rule2 os x,bS (bX os) x] (Dc x_3) 0;let c15:=Ec c14 0;let c16:=[((2:Int),x,c14)];let c17:=c8+Dj c16;let c18:=x_3+1;ca os (bX os) x x_3->(c13->0<=x_3/\x_3<Dx 3/\(Dc x_3=0->idx x c9)/\(Dc x_3=1->qT x c9)/\(Dc x_3=2->idx x c9)/\(c15->c8=c8/\(c17*24)<=140737488355328/\c17<=9223372036854775807/\inR .i64 c10/\∃y,let c19:=aT 2 os (bX os) y;
 cX y c9 6/\((2:Int)=(2:Int)/\(6:Int)=(6:Int)/\os=os/\Value.slice none 0 0=Value.slice none 0 0/\1=1/\0=0/\0=0/\c17=Dj c19/\c1=c1/\c10=y/\c2=c2/\c2=c2/\os=os/\Ef c7 c16=c19/\True)/\Dc (6-y)<Dc (6-x))/\(c15=false->inR .i64 c18/\∃y,ca os (bX os) x y/\((2:Int)=(2:Int)/\(6:Int)=(6:Int)/\os=os/\Value.slice none 0 0=Value.slice none 0 0/\1=1/\0=0/\0=0/\c8=c8/\x=x/\c1=c1/\x=x/\c2=c2/\c2=c2/\os=os/\c18=y/\c2=c2/\c2=c2/\os=os/\c7=c7/\True)/\Dc (3-y)<Dc (3-x_3)))/\(c13=false->inR IntKind.i64 c10/\∃y,let c20:=aT 2 os (bX os) y;cX y c9 6/\((2:Int)=(2:Int)/\(6:Int)=(6:Int)/\os=os/\Value.slice none 0 0=Value.slice none 0 0/\1=1/\0=0/\0=0/\c8=Dj c20/\c1=c1/\c10=y/\c2=c2/\c2=c2/\os=os/\c7=c20/\True)/\Dc (6-y)<Dc (6-x)))/\(Dp x c1=false->(c3->c8=c8/\(c11*24)<=140737488355328/\c11<=9223372036854775807/\Dj c12=c11/\c12=c5/\True)/\(c3=false->c8=c8/\c7=c5/\True)))):
  evF (mkc K6) (lvA [(4,[0,1,7,10,11,12,13,15,16,24,25,28,29]),(7,[0,1,7,10,11,12,13,15,16,24,25,28,29])] (CN 2 6 (os) (bX os))) 189 [.dat I 2,.dat I 6,.dat (.sl S) os,.fn 188 [.ip N (cs,ns,os,fs,ls,ks)],.fn 190 []] [] ⟨True,.dat (.sl Fa) (bG 2 6 (os) (bX os)),[]⟩:=oE hvc
theorem aAw(cs:LC)(ns os:LB)(fs:Lo)(ls:Ll)(ks:Lk)(hvc:
 let c11:=Df (aD fs);let c1:=(cs,ns,os,fs,ls,ks);let c2:=cV c1;let c3:=Df fs;let c4:=Eu c3 12;let c5:=Ei c3 12;let c6:=[((3:Int),(12:Int),(2:Int))];let c7:=bG 3 12 (aD fs) c2;true/\(True->1=1/\0=0/\(∃x,let c8:=aT 3 (aD fs) c2 x;cX x c11 12/\(3:Int)=(3:Int)/\(12:Int)=(12:Int)/\fs=fs/\Value.slice none 0 0=Value.slice none 0 0/\1=1/\0=0/\0=0/\Dj c8=0/\c8=Dt (Int×Int×Int)/\c4=c4/\0=x/\c1=c1/\c1=c1/\c1=c1/\fs=fs/\c8=Dt (Int×Int×Int)/\True)/\∀(x:Int),let c9:=aT 3 (aD fs) c2 x;let c10:=Dj c9;let c12:=x+1;let c13:=c10+Dj c6;let c14:=Ef c9 c6;cX x c11 12->(Dp x c4->1=1/\0=0/\(∃x_3,ca (aD fs) c2 x x_3/\(3:Int)=(3:Int)/\(12:Int)=(12:Int)/\fs=fs/\Value.slice none 0 0=Value.slice none 0 0/\1=1/\0=0/\0=0/\c10=c10/\x=x/\c4=c4/\x=x/\c1=c1/\c1=c1/\c1=c1/\fs=fs/\0=x_3/\c1=c1/\c1=c1/\c1=c1/\fs=fs/\c9=c9/\True)/\∀(x_3:Int),let c15:=Dp x_3 3;let c16:=Du [bI (aD fs) x,rule2 (aD fs) x,bS c2 x] (Dc x_3) 0;let c17:=Ec c16 0;let c18:=[((3:Int),x,c16)];let c19:=c10+Dj c18;let c20:=x_3+1;ca (aD fs) c2 x x_3->(c15->0<=x_3/\x_3<Dx 3/\(Dc x_3=0->idx x c3)/\(Dc x_3=1->qT x c3)/\(Dc x_3=2->idx x c3/\fs=fs)/\(c17->c10=c10/\(c19*24)<=140737488355328/\c19<=9223372036854775807/\inR .i64 c12/\∃y,let c21:=aT 3 (aD fs) c2 y;
 cX y c11 12/\((3:Int)=(3:Int)/\(12:Int)=(12:Int)/\fs=fs/\Value.slice none 0 0=Value.slice none 0 0/\1=1/\0=0/\0=0/\c19=Dj c21/\c4=c4/\c12=y/\c1=c1/\c1=c1/\c1=c1/\fs=fs/\Ef c9 c18=c21/\True)/\Dc (12-y)<Dc (12-x))/\(c17=false->inR .i64 c20/\∃y,ca (aD fs) c2 x y/\((3:Int)=(3:Int)/\(12:Int)=(12:Int)/\fs=fs/\Value.slice none 0 0=Value.slice none 0 0/\1=1/\0=0/\0=0/\c10=c10/\x=x/\c4=c4/\x=x/\c1=c1/\c1=c1/\c1=c1/\fs=fs/\c20=y/\c1=c1/\c1=c1/\c1=c1/\fs=fs/\c9=c9/\True)/\Dc (3-y)<Dc (3-x_3)))/\(c15=false->inR .i64 c12/\∃y,let c22:=aT 3 (aD fs) c2 y;cX y c11 12/\((3:Int)=(3:Int)/\(12:Int)=(12:Int)/\fs=fs/\Value.slice none 0 0=Value.slice none 0 0/\1=1/\0=0/\0=0/\c10=Dj c22/\c4=c4/\c12=y/\c1=c1/\c1=c1/\c1=c1/\fs=fs/\c9=c22/\True)/\Dc (12-y)<Dc (12-x)))/\(Dp x c4=false->(c5->c10=c10/\(c13*24)<=140737488355328/\c13<=9223372036854775807/\Dj c14=c13/\c14=c7/\True)/\(c5=false->c10=c10/\c9=c7/\True)))):
  evF (mkc K6) (lvA [(4,[0,1,7,10,11,12,13,15,16,24,25,28,29]),(7,[0,1,7,10,11,12,13,15,16,24,25,28,29])] (CN 3 12 (aD fs) (cV (cs,ns,os,fs,ls,ks)))) 192 [.dat I 3,.dat I 12,.dat (.sl Of) fs,.fn 191 [.ip N (cs,ns,os,fs,ls,ks)],.fn 193 [.ip N (cs,ns,os,fs,ls,ks)]] [] ⟨True,.dat (.sl Fa) (bG 3 12 (aD fs) (cV (cs,ns,os,fs,ls,ks))),[]⟩:=oE hvc
theorem aAv(cs:LC)(ns os:LB)(fs:Lo)(ls:Ll)(ks:Lk)(hvc:
 let c11:=Df (aE ls);let c1:=(cs,ns,os,fs,ls,ks);let c2:=cM c1;let c3:=Df ls;let c4:=Eu c3 40;let c5:=Ei c3 40;let c6:=[((4:Int),(40:Int),(2:Int))];let c7:=bG 4 40 (aE ls) c2;true/\(True->1=1/\0=0/\(∃x,let c8:=aT 4 (aE ls) c2 x;cX x c11 40/\(4:Int)=(4:Int)/\(40:Int)=(40:Int)/\ls=ls/\Value.slice none 0 0=Value.slice none 0 0/\1=1/\0=0/\0=0/\Dj c8=0/\c8=Dt (Int×Int×Int)/\c4=c4/\0=x/\c1=c1/\c1=c1/\c1=c1/\ls=ls/\c8=Dt (Int×Int×Int)/\True)/\∀(x:Int),let c9:=aT 4 (aE ls) c2 x;let c10:=Dj c9;let c12:=x+1;let c13:=c10+Dj c6;let c14:=Ef c9 c6;cX x c11 40->(Dp x c4->1=1/\0=0/\(∃x_3,ca (aE ls) c2 x x_3/\(4:Int)=(4:Int)/\(40:Int)=(40:Int)/\ls=ls/\Value.slice none 0 0=Value.slice none 0 0/\1=1/\0=0/\0=0/\c10=c10/\x=x/\c4=c4/\x=x/\c1=c1/\c1=c1/\c1=c1/\ls=ls/\0=x_3/\c1=c1/\c1=c1/\c1=c1/\ls=ls/\c9=c9/\True)/\∀(x_3:Int),let c15:=Dp x_3 3;let c16:=Du [bI (aE ls) x,rule2 (aE ls) x,bS c2 x] (Dc x_3) 0;let c17:=Ec c16 0;let c18:=[((4:Int),x,c16)];let c19:=c10+Dj c18;let c20:=x_3+1;ca (aE ls) c2 x x_3->(c15->0<=x_3/\x_3<Dx 3/\(Dc x_3=0->idx x c3)/\(Dc x_3=1->qT x c3)/\(Dc x_3=2->idx x c3/\ls=ls)/\(c17->c10=c10/\(c19*24)<=140737488355328/\c19<=9223372036854775807/\inR .i64 c12/\∃y,let c21:=aT 4 (aE ls) c2 y;
 cX y c11 40/\((4:Int)=(4:Int)/\(40:Int)=(40:Int)/\ls=ls/\Value.slice none 0 0=Value.slice none 0 0/\1=1/\0=0/\0=0/\c19=Dj c21/\c4=c4/\c12=y/\c1=c1/\c1=c1/\c1=c1/\ls=ls/\Ef c9 c18=c21/\True)/\Dc (40-y)<Dc (40-x))/\(c17=false->inR .i64 c20/\∃y,ca (aE ls) c2 x y/\((4:Int)=(4:Int)/\(40:Int)=(40:Int)/\ls=ls/\Value.slice none 0 0=Value.slice none 0 0/\1=1/\0=0/\0=0/\c10=c10/\x=x/\c4=c4/\x=x/\c1=c1/\c1=c1/\c1=c1/\ls=ls/\c20=y/\c1=c1/\c1=c1/\c1=c1/\ls=ls/\c9=c9/\True)/\Dc (3-y)<Dc (3-x_3)))/\(c15=false->inR .i64 c12/\∃y,let c22:=aT 4 (aE ls) c2 y;cX y c11 40/\((4:Int)=(4:Int)/\(40:Int)=(40:Int)/\ls=ls/\Value.slice none 0 0=Value.slice none 0 0/\1=1/\0=0/\0=0/\c10=Dj c22/\c4=c4/\c12=y/\c1=c1/\c1=c1/\c1=c1/\ls=ls/\c9=c22/\True)/\Dc (40-y)<Dc (40-x)))/\(Dp x c4=false->(c5->c10=c10/\(c13*24)<=140737488355328/\c13<=9223372036854775807/\Dj c14=c13/\c14=c7/\True)/\(c5=false->c10=c10/\c9=c7/\True)))):
  evF (mkc K6) (lvA [(4,[0,1,7,10,11,12,13,15,16,24,25,28,29]),(7,[0,1,7,10,11,12,13,15,16,24,25,28,29])] (CN 4 40 (aE ls) (cM (cs,ns,os,fs,ls,ks)))) 196 [.dat I 4,.dat I 40,.dat (.sl Ln) ls,.fn 195 [.ip N (cs,ns,os,fs,ls,ks)],.fn 197 [.ip N (cs,ns,os,fs,ls,ks)]] [] ⟨True,.dat (.sl Fa) (bG 4 40 (aE ls) (cM (cs,ns,os,fs,ls,ks))),[]⟩:=oE hvc
theorem aAu(cs:LC)(ns os:LB)(fs:Lo)(ls:Ll)(ks:Lk)(hvc:
 let c10:=Df (aF ks);let c1:=Df ks;let c2:=Eu c1 4;let c3:=(cs,ns,os,fs,ls,ks);let c4:=Ei c1 4;let c5:=[((5:Int),(4:Int),(2:Int))];let c6:=bG 5 4 (aF ks) (bz ks);true/\(True->1=1/\0=0/\(∃x,let c7:=aT 5 (aF ks) (bz ks) x;cX x c10 4/\(5:Int)=(5:Int)/\(4:Int)=(4:Int)/\ks=ks/\Value.slice none 0 0=Value.slice none 0 0/\1=1/\0=0/\0=0/\Dj c7=0/\c7=Dt (Int×Int×Int)/\c2=c2/\0=x/\c3=c3/\c3=c3/\ks=ks/\c7=Dt (Int×Int×Int)/\True)/\∀(x:Int),let c8:=aT 5 (aF ks) (bz ks) x;let c9:=Dj c8;let c11:=x+1;let c12:=c9+Dj c5;let c13:=Ef c8 c5;cX x c10 4->(Dp x c2->1=1/\0=0/\(∃x_3,ca (aF ks) (bz ks) x x_3/\(5:Int)=(5:Int)/\(4:Int)=(4:Int)/\ks=ks/\Value.slice none 0 0=Value.slice none 0 0/\1=1/\0=0/\0=0/\c9=c9/\x=x/\c2=c2/\x=x/\c3=c3/\c3=c3/\ks=ks/\0=x_3/\c3=c3/\c3=c3/\ks=ks/\c8=c8/\True)/\∀(x_3:Int),let c14:=Dp x_3 3;let c15:=Du [bI (aF ks) x,rule2 (aF ks) x,bS (bz ks) x] (Dc x_3) 0;let c16:=Ec c15 0;let c17:=[((5:Int),x,c15)];let c18:=c9+Dj c17;let c19:=x_3+1;ca (aF ks) (bz ks) x x_3->(c14->0<=x_3/\x_3<Dx 3/\(Dc x_3=0->idx x c1)/\(Dc x_3=1->qT x c1)/\(Dc x_3=2->idx x c1)/\(c16->c9=c9/\(c18*24)<=140737488355328/\c18<=9223372036854775807/\inR .i64 c11/\∃y,let c20:=aT 5 (aF ks) (bz ks) y;
 cX y c10 4/\((5:Int)=(5:Int)/\(4:Int)=(4:Int)/\ks=ks/\Value.slice none 0 0=Value.slice none 0 0/\1=1/\0=0/\0=0/\c18=Dj c20/\c2=c2/\c11=y/\c3=c3/\c3=c3/\ks=ks/\Ef c8 c17=c20/\True)/\Dc (4-y)<Dc (4-x))/\(c16=false->inR .i64 c19/\∃y,ca (aF ks) (bz ks) x y/\((5:Int)=(5:Int)/\(4:Int)=(4:Int)/\ks=ks/\Value.slice none 0 0=Value.slice none 0 0/\1=1/\0=0/\0=0/\c9=c9/\x=x/\c2=c2/\x=x/\c3=c3/\c3=c3/\ks=ks/\c19=y/\c3=c3/\c3=c3/\ks=ks/\c8=c8/\True)/\Dc (3-y)<Dc (3-x_3)))/\(c14=false->inR .i64 c11/\∃y,let c21:=aT 5 (aF ks) (bz ks) y;cX y c10 4/\((5:Int)=(5:Int)/\(4:Int)=(4:Int)/\ks=ks/\Value.slice none 0 0=Value.slice none 0 0/\1=1/\0=0/\0=0/\c9=Dj c21/\c2=c2/\c11=y/\c3=c3/\c3=c3/\ks=ks/\c8=c21/\True)/\Dc (4-y)<Dc (4-x)))/\(Dp x c2=false->(c4->c9=c9/\(c12*24)<=140737488355328/\c12<=9223372036854775807/\Dj c13=c12/\c13=c6/\True)/\(c4=false->c9=c9/\c8=c6/\True)))):
  evF (mkc K6) (lvA [(4,[0,1,7,10,11,12,13,15,16,24,25,28,29]),(7,[0,1,7,10,11,12,13,15,16,24,25,28,29])] (CN 5 4 (aF ks) (bz ks))) 200 [.dat I 5,.dat I 4,.dat (.sl Kl) ks,.fn 199 [.ip N (cs,ns,os,fs,ls,ks)],.fn 201 []] [] ⟨True,.dat (.sl Fa) (bG 5 4 (aF ks) (bz ks)),[]⟩:=oE hvc
def K7: Kt:=
 kOr 187 (az [.val I,.val I,.val (.sl C),.fn 186 N,.fn0 161] (λ(k,m,xs,(cs,ns,os,fs,ls,ks),_,_)=>k=1/\m=6/\xs=cs) λ(_,_,_,(cs,ns,os,fs,ls,ks),_,_)=>.dat (.sl Fa) (bG 1 6 (aC cs ns) (br cs))) <|
 kOr 189 (az [.val I,.val I,.val (.sl S),.fn 188 N,.fn0 190] (λ(k,m,xs,(cs,ns,os,fs,ls,ks),_,_)=>k=2/\m=6/\xs=os) λ(_,_,_,(cs,ns,os,fs,ls,ks),_,_)=>.dat (.sl Fa) (bG 2 6 (os) (bX os))) <|
 kOr 192 (az [.val I,.val I,.val (.sl Of),.fn 191 N,.fn 193 N] (λ(k,m,xs,(cs,ns,os,fs,ls,ks),n2,_)=>k=3/\m=12/\xs=fs/\n2=(cs,ns,os,fs,ls,ks)) λ(_,_,_,(cs,ns,os,fs,ls,ks),_,_)=>.dat (.sl Fa) (bG 3 12 (aD fs) (cV (cs,ns,os,fs,ls,ks)))) <|
 kOr 196 (az [.val I,.val I,.val (.sl Ln),.fn 195 N,.fn 197 N] (λ(k,m,xs,(cs,ns,os,fs,ls,ks),n2,_)=>k=4/\m=40/\xs=ls/\n2=(cs,ns,os,fs,ls,ks)) λ(_,_,_,(cs,ns,os,fs,ls,ks),_,_)=>.dat (.sl Fa) (bG 4 40 (aE ls) (cM (cs,ns,os,fs,ls,ks)))) <|
 kOr 200 (az [.val I,.val I,.val (.sl Kl),.fn 199 N,.fn0 201] (λ(k,m,xs,(cs,ns,os,fs,ls,ks),_,_)=>k=5/\m=4/\xs=ks) λ(_,_,_,(cs,ns,os,fs,ls,ks),_,_)=>.dat (.sl Fa) (bG 5 4 (aF ks) (bz ks))) <|
 K6
theorem Ly(cs:LC)(ns os:LB)(fs:Lo)(ls:Ll)(ks:Lk)(hvc:
 let c37:=(5:Int)=(5:Int)/\(4:Int)=(4:Int)/\ks=ks;let c36:=(2:Int)=(2:Int)/\(6:Int)=(6:Int)/\os=os;let c35:=(1:Int)=(1:Int)/\(6:Int)=(6:Int)/\cs=cs;let c1:=Ec (Df ns) (Df cs);let c2:=[((1:Int),(-1:Int),(1:Int))];let c3:=Dj c2;let c4:=bG 1 6 (aC cs ns) (br cs);let c5:=Dj c4;let c6:=c3+c5;let c7:=Ef c2 c4;let c8:=bG 2 6 os (bX os);let c9:=Dj c8;let c10:=c6+c9;let c11:=(cs,ns,os,fs,ls,ks);let c34:=(4:Int)=(4:Int)/\(40:Int)=(40:Int)/\ls=ls/\c11=c11;let c33:=(3:Int)=(3:Int)/\(12:Int)=(12:Int)/\fs=fs/\c11=c11;let c12:=Ef c7 c8;let c13:=bG 3 12 (aD fs) (cV c11);let c14:=Dj c13;let c15:=c10+c14;let c16:=Ef c12 c13;let c17:=bG 4 40 (aE ls) (cM c11);let c18:=Dj c17;let c19:=c15+c18;let c20:=Ef c16 c17;let c21:=bG 5 4 (aF ks) (bz ks);let c22:=Dj c21;let c23:=c19+c22;let c24:=fm c11;let c25:=Dj c24;let c26:=c5+c9;let c27:=Ef c4 c8;let c28:=c26+c14;let c29:=Ef c27 c13;let c30:=c28+c18;let c31:=Ef c29 c17;let c32:=c30+c22;
 true/\(True->(c1->(c3*24)<=140737488355328/\c3<=9223372036854775807/\c35/\c3=c3/\(c6*24)<=140737488355328/\c6<=9223372036854775807/\c36/\Dj c7=c6/\(c10*24)<=140737488355328/\c10<=9223372036854775807/\c33/\Dj c12=c10/\(c15*24)<=140737488355328/\c15<=9223372036854775807/\c34/\Dj c16=c15/\(c19*24)<=140737488355328/\c19<=9223372036854775807/\c37/\Dj c20=c19/\(c23*24)<=140737488355328/\c23<=9223372036854775807/\c23=c25/\Ef c20 c21=c24/\True)/\(c1=false->c35/\(c5*24)<=140737488355328/\c5<=9223372036854775807/\c36/\c5=c5/\(c26*24)<=140737488355328/\c26<=9223372036854775807/\c33/\Dj c27=c26/\(c28*24)<=140737488355328/\c28<=9223372036854775807/\c34/\Dj c29=c28/\(c30*24)<=140737488355328/\c30<=9223372036854775807/\c37/\Dj c31=c30/\(c32*24)<=140737488355328/\c32<=9223372036854775807/\c32=c25/\Ef c31 c21=c24/\True))):
  evF (mkc K7) aA 129 [net cs ns os fs ls ks] [] ⟨True,.buf 0 (Dj (fm (cs,ns,os,fs,ls,ks))),[(0,.buf 177 Fa (fm (cs,ns,os,fs,ls,ks)) [])]⟩:=oE hvc
theorem X0(i:Int)(xs:List Of.den): af Tryz.prog G0 252 [.dat I i,.dat (.sl Of) xs] [] ⟨True,.dat .bool (bP i (Df xs)),[]⟩:=by
 refine ae (c:=mkc K2) KS2 aJ hm (Ri i xs ⟨rfl,λ_=>?_⟩);simp only[qc,Dk,bP,Ed,Dp,md,kQ]
theorem aA2(i:Int)(xs:List S.den): af Tryz.prog G0 245 [.dat I i,.dat (.sl S) xs] [] ⟨True,.dat .bool (bP i (Df xs)),[]⟩:=by
 refine ae (c:=mkc K2) KS2 aJ hm (W9 i xs ⟨rfl,λ_=>?_⟩);simp only[qc,Dk,bP,Ed,Dp,md,kQ]
theorem aA3(i:Int)(xs:List C.den): af Tryz.prog G0 246 [.dat I i,.dat (.sl C) xs] [] ⟨True,.dat .bool (bP i (Df xs)),[]⟩:=by
 refine ae (c:=mkc K2) KS2 aJ hm (Xa i xs ⟨rfl,λ_=>?_⟩);simp only[qc,Dk,bP,Ed,Dp,md,kQ]
theorem KS3: ak Tryz.prog G0 K3:=
 ai (ag λ(i,xs,_)=>X0 i xs)<|ai (ag λ(i,xs,_)=>aA2 i xs)<|ai (ag λ(i,xs,_)=>aA3 i xs) KS2
theorem CG(l:List ByteArray): kt l 0:=⟨qL _,qZ _,by simp⟩
theorem CH{l:List ByteArray}{x:Int}(h:kt l x)(hx:x<l.length)(hp:dj (l.getD x.toNat ⟨#[]⟩)=true): kt l (x+1):=by
 obtain⟨h0,h1,h2⟩:=h;refine⟨by omega,by omega,?_⟩;rw[show(x+1).toNat=x.toNat+1 by omega];exact fB (d:=⟨#[]⟩) h2 (by omega) hp
theorem O5{l:List ByteArray}{x:Int}(h:kt l x)(hx:x<l.length)(hp:dj (l.getD x.toNat ⟨#[]⟩)=false): l.all dj=false:=
 me (d:=⟨#[]⟩) (k:=x.toNat) (by have:=h.1;omega) hp
theorem F6{l:List ByteArray}{x:Int}(h:kt l x)(hx:¬x<l.length): l.all dj=true:=by
 obtain⟨h0,h1,h2⟩:=h
 rwa [qO (by omega)]at h2
theorem Au(cs:LC)(ns os:LB)(fs:Lo)(ls:Ll)(ks:Lk)(e1:ByteArray)(e2 e3 e4 e5 e6:Int)(e7:List ByteArray): af Tryz.prog G0 194 [net cs ns os fs ls ks,.agg [.dat .str e1,.dat (.int .i64) e2,.dat (.int .i64) e3,.dat (.int .i64) e4,.dat (.int .i64) e5,.dat (.int .i64) e6,.dat (.sl .str) e7]] [] ⟨True,.dat .bool (dt (cs,ns,os,fs,ls,ks) (e1,e2,e3,e4,e5,e6,e7)),[]⟩:=by
 refine ae (c:=mkc K3) KS3 aJ hm (xe cs ns os fs ls ks e1 e2 e3 e4 e5 e6 e7 ⟨rfl,λ_=>?_⟩);simp only[qc,Dk,Di,qd,Dp,Ei,Df,Dc,Du];refine⟨λh=>?_,λ⟨⟨h1,h2⟩,h3⟩=>⟨CG e7,λx hx=>⟨λhlt=>⟨hx.1,hlt,λhb=>?_,λhg=>⟨⟨by have:=hx.1;omega,by omega⟩,x+1,CH hx hlt hg,rfl,by have:=hx.1;omega⟩⟩,λhge=>?_⟩⟩⟩
 .unfold dt;rcases h with(h | h) | h
  .rw[show bP _ _=false from h];rfl
  .rw[show bP e3 _=false from h];simp
  .have:decide (e7.length<=20)=false:=vH (by omega);simp[this]
 .have:=O5 hx hlt hb;simp[dt,this]
 .have h4:=F6 hx hge;have h5:decide (e7.length<=20)=true:=qV (by omega);have h1':bP e2 (os.length:Int)=true:=h1;have h2':bP e3 (cs.length:Int)=true:=h2;simp only[dt,h1',h2',h4,h5,zQ]
theorem I7(cs:LC)(ns os:LB)(fs:Lo)(ls:Ll)(ks:Lk)(e1:ByteArray)(e2 e3 e4 e5 e6:Int): af Tryz.prog G0 198 [net cs ns os fs ls ks,.agg [.dat .str e1,.dat (.int .i64) e2,.dat (.int .i64) e3,.dat (.int .i64) e4,.dat (.int .i64) e5,.dat (.int .i64) e6]] [] ⟨True,.dat .bool (du (cs,ns,os,fs,ls,ks) (e1,e2,e3,e4,e5,e6)),[]⟩:=by
 refine ae (c:=mkc K3) KS3 aJ hm (DO cs ns os fs ls ks e1 e2 e3 e4 e5 e6 ⟨rfl,λ_=>?_⟩);simp only[qc,Dk,Di,qd,Ea,Df];refine⟨λh=>?_,λ⟨⟨h1,h2⟩,h3⟩=>?_⟩
 .unfold du;rcases h with(h | h) | h
  .rw[show bP _ _=false from h];rfl
  .rw[show bP e3 _=false from h];simp
  .simp[h]
 .have h1':bP e2 (fs.length:Int)=true:=h1;have h2':bP e3 (fs.length:Int)=true:=h2;have h3':decide (e2≠e3)=true:=qV h3;simp only[du,h1',h2',h3',zQ]
theorem KS4: ak Tryz.prog G0 K4:=
 ai (ag λ((cs,ns,os,fs,ls,ks),(e1,e2,e3,e4,e5,e6,e7),_)=>Au cs ns os fs ls ks e1 e2 e3 e4 e5 e6 e7)<|ai (ag λ((cs,ns,os,fs,ls,ks),(e1,e2,e3,e4,e5,e6),_)=>I7 cs ns os fs ls ks e1 e2 e3 e4 e5 e6) KS3
theorem mB{α β:Type}(f:α->β)(l:List α)(i:Nat)(d:α)(e:β)(hi:i<l.length): (l.map f).getD i e=f (l.getD i d):=by
 simp only[qA,qP,qB hi,zL,qQ]
theorem uq{cs:List (Int×List Bool×Li)}{ns:List ByteArray}{i:Int}(h0:0<=i)(h1:i<cs.length): gC (aC cs ns) i=ns.getD i.toNat ⟨#[]⟩:=by
 unfold gC aC;rw[mB (λi=>ns.getD i ⟨#[]⟩) _ _ 0 _ (by rw[wC];omega)];show ns.getD ((List.range cs.length).getD i.toNat 0) _=_;rw[show(List.range cs.length).getD i.toNat 0=i.toNat by rw[qA,vV (by omega)];rfl]
theorem Jo{α:Type}{f:α->ByteArray}{l:List α}{i:Int}(d:α)(h0:0<=i)(h1:i<l.length): gC (l.map f) i=f (l.getD i.toNat d):=mB _ _ _ _ _ (by omega)
theorem aDZ(i:Int)(cs:LC)(ns os:LB)(fs:Lo)(ls:Ll)(ks:Lk): af Tryz.prog G0 186 [.dat I i,.ip N (cs,ns,os,fs,ls,ks)] [] ⟨idx i (Df cs),.dat S (gC (aC cs ns) i),[]⟩:=by
 refine ae (c:=mkc K4) KS4 aJ hm (aAf i cs ns os fs ls ks ⟨rfl,λ⟨h0,h1⟩=>?_⟩);have h0:0<=i:=h0;have h1:i<(cs.length:Int):=h1;simp only[qc,qd,Dp,Df,Dc,Du,uq h0 h1];refine⟨λh=>⟨h0,h⟩,λh=>?_⟩;rw[qA,zF (by omega)];rfl
theorem aDY(i:Int)(cs:LC)(ns os:LB)(fs:Lo)(ls:Ll)(ks:Lk): af Tryz.prog G0 188 [.dat I i,.ip N (cs,ns,os,fs,ls,ks)] [] ⟨idx i (Df os),.dat S (gC os i),[]⟩:=by
 refine ae (c:=mkc K4) KS4 aJ hm (aAe i cs ns os fs ls ks ⟨rfl,λ⟨h0,h1⟩=>?_⟩);simp only[qc,Df,Dc,Du];exact⟨h0,h1,rfl⟩
theorem aEa(e1:ByteArray): af Tryz.prog G0 190 [.agg [.dat .str e1]] [] ⟨True,.dat .bool true,[]⟩:=
 ae (c:=mkc K4) KS4 aJ hm (aAr e1 ⟨rfl,λ_=>⟨rfl,trivial⟩⟩)
theorem aDX(i:Int)(cs:LC)(ns os:LB)(fs:Lo)(ls:Ll)(ks:Lk): af Tryz.prog G0 191 [.dat I i,.ip N (cs,ns,os,fs,ls,ks)] [] ⟨idx i (Df fs),.dat S (gC (aD fs) i),[]⟩:=by
 refine ae (c:=mkc K4) KS4 aJ hm (aAd i cs ns os fs ls ks ⟨rfl,λ⟨h0,h1⟩=>?_⟩);simp only[qc,Dt,Df,Dc,Du];exact⟨h0,h1,(Jo _ h0 h1).symm⟩
theorem aD9(cs:LC)(ns os:LB)(fs:Lo)(ls:Ll)(ks:Lk)(e1:ByteArray)(e2 e3 e4 e5 e6:Int)(e7:List ByteArray): af Tryz.prog G0 193 [.agg [.dat .str e1,.dat (.int .i64) e2,.dat (.int .i64) e3,.dat (.int .i64) e4,.dat (.int .i64) e5,.dat (.int .i64) e6,.dat (.sl .str) e7],.ip N (cs,ns,os,fs,ls,ks)] [] ⟨True,.dat .bool (dt (cs,ns,os,fs,ls,ks) (e1,e2,e3,e4,e5,e6,e7)),[]⟩:=
 ae (c:=mkc K4) KS4 aJ hm (aAq cs ns os fs ls ks e1 e2 e3 e4 e5 e6 e7 ⟨rfl,λ_=>by simp only[qc]⟩)
theorem aDW(i:Int)(cs:LC)(ns os:LB)(fs:Lo)(ls:Ll)(ks:Lk): af Tryz.prog G0 195 [.dat I i,.ip N (cs,ns,os,fs,ls,ks)] [] ⟨idx i (Df ls),.dat S (gC (aE ls) i),[]⟩:=by
 refine ae (c:=mkc K4) KS4 aJ hm (aAc i cs ns os fs ls ks ⟨rfl,λ⟨h0,h1⟩=>?_⟩);simp only[qc,Df,Dc,Du];exact⟨h0,h1,(Jo _ h0 h1).symm⟩
theorem aD8(cs:LC)(ns os:LB)(fs:Lo)(ls:Ll)(ks:Lk)(e1:ByteArray)(e2 e3 e4 e5 e6:Int): af Tryz.prog G0 197 [.agg [.dat .str e1,.dat (.int .i64) e2,.dat (.int .i64) e3,.dat (.int .i64) e4,.dat (.int .i64) e5,.dat (.int .i64) e6],.ip N (cs,ns,os,fs,ls,ks)] [] ⟨True,.dat .bool (du (cs,ns,os,fs,ls,ks) (e1,e2,e3,e4,e5,e6)),[]⟩:=
 ae (c:=mkc K4) KS4 aJ hm (aAp cs ns os fs ls ks e1 e2 e3 e4 e5 e6 ⟨rfl,λ_=>by simp only[qc]⟩)
theorem aDV(i:Int)(cs:LC)(ns os:LB)(fs:Lo)(ls:Ll)(ks:Lk): af Tryz.prog G0 199 [.dat I i,.ip N (cs,ns,os,fs,ls,ks)] [] ⟨idx i (Df ks),.dat S (gC (aF ks) i),[]⟩:=by
 refine ae (c:=mkc K4) KS4 aJ hm (aAb i cs ns os fs ls ks ⟨rfl,λ⟨h0,h1⟩=>?_⟩);simp only[qc,Df,Dc,Du];exact⟨h0,h1,(Jo _ h0 h1).symm⟩
theorem aD7(e1:ByteArray)(e2 e3:Int): af Tryz.prog G0 201 [.agg [.dat .str e1,.dat (.int .i64) e2,.dat (.int .i64) e3]] [] ⟨True,.dat .bool (iM (e1,e2,e3)),[]⟩:=
 ae (c:=mkc K4) KS4 aJ hm (aAo e1 e2 e3 ⟨rfl,λ_=>by simp only[qc,Dk,iM]⟩)
theorem KS5: ak Tryz.prog G0 K5:=
 ai (ag λ(i,(cs,ns,os,fs,ls,ks),_)=>aDZ i cs ns os fs ls ks)<|ai (ag λ(i,(cs,ns,os,fs,ls,ks),_)=>aDY i cs ns os fs ls ks)<|ai (ag λ(e1,_)=>aEa e1)<|ai (ag λ(i,(cs,ns,os,fs,ls,ks),_)=>aDX i cs ns os fs ls ks) <|
 ai (ag λ((e1,e2,e3,e4,e5,e6,e7),(cs,ns,os,fs,ls,ks),_)=>aD9 cs ns os fs ls ks e1 e2 e3 e4 e5 e6 e7)<|ai (ag λ(i,(cs,ns,os,fs,ls,ks),_)=>aDW i cs ns os fs ls ks)<|ai (ag λ((e1,e2,e3,e4,e5,e6),(cs,ns,os,fs,ls,ks),_)=>aD8 cs ns os fs ls ks e1 e2 e3 e4 e5 e6) <|
 ai (ag λ(i,(cs,ns,os,fs,ls,ks),_)=>aDV i cs ns os fs ls ks)<|ai (ag λ((e1,e2,e3),_)=>aD7 e1 e2 e3) KS4
theorem lx{l:List ByteArray}{i:Int}(h:0<=i): uI l i 0:=⟨qL _,h,by simp⟩
theorem ly{l:List ByteArray}{i x:Int}(h:uI l i x)(hx:x<i)(hi:i<l.length)(hp:(gC l x).toList≠(gC l i).toList): uI l i (x+1):=by
 obtain⟨h0,h1,h2⟩:=h;refine⟨by omega,by omega,?_⟩;rw[show(x+1).toNat=x.toNat+1 by omega];exact wT (d:=⟨#[]⟩) h2 (by omega) (by simpa[gC]using hp)
theorem LQ{l:List ByteArray}{i x:Int}(h:uI l i x)(hx:x<i)(hi:i<l.length)(hp:(gC l x).toList=(gC l i).toList): 4=rule2 l i:=by
 unfold rule2;have hx0:=h.1;rw[if_pos];have hlt:x.toNat<(l.take i.toNat).length:=by rw[qI];omega
 refine Wg (d:=⟨#[]⟩) (k:=x.toNat) hlt ?_;have:(l.take i.toNat).getD x.toNat ⟨#[]⟩=gC l x:=by
  unfold gC;simp only[qA];rw[vM,if_pos (by omega)]
 rw[this];simpa using hp
theorem nP{l:List ByteArray}{i x:Int}(h:uI l i x)(hx:¬x<i): 0=rule2 l i:=by
 obtain⟨h0,h1,h2⟩:=h;have:x=i:=by omega
 subst this;unfold rule2;rw[h2];rfl
theorem og{α:Type}{g:α->Bool}{l:List α}{i:Int}(d:α)(h0:0<=i)(h1:i<l.length): bS (l.map g) i=if g (l.getD i.toNat d)then 0 else 1:=by
 unfold bS;rw[mB g l _ d _ (by omega)]
theorem fR(cs:List (Int×List Bool×Li))(ns:List ByteArray): (aC cs ns).length=cs.length:=by simp[aC]
theorem map_length{α β:Type}(f:α->β)(l:List α): (l.map f).length=l.length:=vW f
theorem aDS(i:Int)(cs:LC)(ns os:LB)(fs:Lo)(ls:Ll)(ks:Lk): af Tryz.prog G0 235 [.dat I i,.ipv (.fn 186 [.ip N (cs,ns,os,fs,ls,ks)])] [] ⟨idx i (Df cs),.dat I (bI (aC cs ns) i),[]⟩:=by
 refine ae (c:=mkc K5) KS5 aJ hm (xS i cs ns os fs ls ks ⟨rfl,λhp=>?_⟩);simp only[qc,Di,Df];exact⟨hp,λh=>by simp[bI,h],λh=>by simp[bI,h]⟩
theorem aDN(i:Int)(cs:LC)(ns os:LB)(fs:Lo)(ls:Ll)(ks:Lk): af Tryz.prog G0 237 [.dat I i,.ipv (.fn 186 [.ip N (cs,ns,os,fs,ls,ks)])] [] ⟨qT i (Df cs),.dat I (rule2 (aC cs ns) i),[]⟩:=by
 refine ae (c:=mkc K5) KS5 aJ hm (tE i cs ns os fs ls ks ⟨rfl,λhp=>?_⟩);have h0:0<=i:=hp.1;have h1:i<(cs.length:Int):=hp.2.1;have h2:i<=1000:=hp.2.2;have hl:((aC cs ns).length:Int)=cs.length:=yA _ (fR cs ns);simp only[qc,qd,Dp,Df,Dc]
 exact⟨lx h0,λx hx=>⟨λhlt=>⟨⟨hx.1,by omega⟩,⟨h0,h1⟩,λhe=>LQ hx hlt (by omega) he,λhne=>⟨⟨by have:=hx.1;omega,by omega⟩,x+1,ly hx hlt (by omega) hne,rfl,by have:=hx.1;omega⟩⟩,λhge=>nP hx hge⟩⟩
theorem aDI(i:Int)(cs:LC)(ns os:LB)(fs:Lo)(ls:Ll)(ks:Lk): af Tryz.prog G0 238 [.dat I i,.ipv (.fn 161 []),.ip (.sl C) cs] [] ⟨idx i (Df cs),.dat I (bS (br cs) i),[]⟩:=by
 refine ae (c:=mkc K5) KS5 aJ hm (oB i cs ns os fs ls ks ⟨rfl,λhp=>?_⟩);have h0:0<=i:=hp.1;have h1:i<(cs.length:Int):=hp.2;simp only[qc,Di,Dt,Df,Dc,Du];rw[show bS (br cs) i=_ from og _ h0 h1];exact⟨h0,h1,λh=>by rw[if_neg (by intro g;rw[show _=false from h]at g;cases g)],λh=>by rw[if_pos h]⟩
theorem aDR(i:Int)(cs:LC)(ns os:LB)(fs:Lo)(ls:Ll)(ks:Lk): af Tryz.prog G0 239 [.dat I i,.ipv (.fn 188 [.ip N (cs,ns,os,fs,ls,ks)])] [] ⟨idx i (Df os),.dat I (bI (os) i),[]⟩:=by
 refine ae (c:=mkc K5) KS5 aJ hm (xD i cs ns os fs ls ks ⟨rfl,λhp=>?_⟩);simp only[qc,Di,Df];exact⟨hp,λh=>by simp[bI,h],λh=>by simp[bI,h]⟩
theorem aDM(i:Int)(cs:LC)(ns os:LB)(fs:Lo)(ls:Ll)(ks:Lk): af Tryz.prog G0 240 [.dat I i,.ipv (.fn 188 [.ip N (cs,ns,os,fs,ls,ks)])] [] ⟨qT i (Df os),.dat I (rule2 (os) i),[]⟩:=by
 refine ae (c:=mkc K5) KS5 aJ hm (sI i cs ns os fs ls ks ⟨rfl,λhp=>?_⟩);have h0:0<=i:=hp.1;have h1:i<(os.length:Int):=hp.2.1;have h2:i<=1000:=hp.2.2;have hl:((os).length:Int)=os.length:=yA _ (rfl);simp only[qc,qd,Dp,Df,Dc]
 exact⟨lx h0,λx hx=>⟨λhlt=>⟨⟨hx.1,by omega⟩,⟨h0,h1⟩,λhe=>LQ hx hlt (by omega) he,λhne=>⟨⟨by have:=hx.1;omega,by omega⟩,x+1,ly hx hlt (by omega) hne,rfl,by have:=hx.1;omega⟩⟩,λhge=>nP hx hge⟩⟩
theorem aDH(i:Int)(cs:LC)(ns os:LB)(fs:Lo)(ls:Ll)(ks:Lk): af Tryz.prog G0 241 [.dat I i,.ipv (.fn 190 []),.ip (.sl S) os] [] ⟨idx i (Df os),.dat I (bS (bX os) i),[]⟩:=by
 refine ae (c:=mkc K5) KS5 aJ hm (oA i cs ns os fs ls ks ⟨rfl,λhp=>?_⟩);have h0:0<=i:=hp.1;have h1:i<(os.length:Int):=hp.2;simp only[qc,Di,Df];rw[show bS (bX os) i=_ from og ⟨#[]⟩ h0 h1];exact⟨h0,h1,(λh=>by cases h),rfl⟩
theorem aDQ(i:Int)(cs:LC)(ns os:LB)(fs:Lo)(ls:Ll)(ks:Lk): af Tryz.prog G0 242 [.dat I i,.ipv (.fn 191 [.ip N (cs,ns,os,fs,ls,ks)])] [] ⟨idx i (Df fs),.dat I (bI (aD fs) i),[]⟩:=by
 refine ae (c:=mkc K5) KS5 aJ hm (wD i cs ns os fs ls ks ⟨rfl,λhp=>?_⟩);simp only[qc,Di,Df];exact⟨hp,λh=>by simp[bI,h],λh=>by simp[bI,h]⟩
theorem aDL(i:Int)(cs:LC)(ns os:LB)(fs:Lo)(ls:Ll)(ks:Lk): af Tryz.prog G0 243 [.dat I i,.ipv (.fn 191 [.ip N (cs,ns,os,fs,ls,ks)])] [] ⟨qT i (Df fs),.dat I (rule2 (aD fs) i),[]⟩:=by
 refine ae (c:=mkc K5) KS5 aJ hm (oX i cs ns os fs ls ks ⟨rfl,λhp=>?_⟩);have h0:0<=i:=hp.1;have h1:i<(fs.length:Int):=hp.2.1;have h2:i<=1000:=hp.2.2;have hl:((aD fs).length:Int)=fs.length:=yA _ (map_length _ fs);simp only[qc,qd,Dp,Df,Dc]
 exact⟨lx h0,λx hx=>⟨λhlt=>⟨⟨hx.1,by omega⟩,⟨h0,h1⟩,λhe=>LQ hx hlt (by omega) he,λhne=>⟨⟨by have:=hx.1;omega,by omega⟩,x+1,ly hx hlt (by omega) hne,rfl,by have:=hx.1;omega⟩⟩,λhge=>nP hx hge⟩⟩
theorem aDG(i:Int)(cs:LC)(ns os:LB)(fs:Lo)(ls:Ll)(ks:Lk): af Tryz.prog G0 244 [.dat I i,.ipv (.fn 193 [.ip N (cs,ns,os,fs,ls,ks)]),.ip (.sl Of) fs] [] ⟨idx i (Df fs),.dat I (bS (cV (cs,ns,os,fs,ls,ks)) i),[]⟩:=by
 refine ae (c:=mkc K5) KS5 aJ hm (kI i cs ns os fs ls ks ⟨rfl,λhp=>?_⟩);have h0:0<=i:=hp.1;have h1:i<(fs.length:Int):=hp.2;simp only[qc,Di,Dt,Df,Dc,Du];rw[show bS (cV (cs,ns,os,fs,ls,ks)) i=_ from og _ h0 h1]
 exact⟨h0,h1,λh=>by rw[if_neg (by intro g;rw[show _=false from h]at g;cases g)],λh=>by rw[if_pos h]⟩
theorem aDP(i:Int)(cs:LC)(ns os:LB)(fs:Lo)(ls:Ll)(ks:Lk): af Tryz.prog G0 249 [.dat I i,.ipv (.fn 195 [.ip N (cs,ns,os,fs,ls,ks)])] [] ⟨idx i (Df ls),.dat I (bI (aE ls) i),[]⟩:=by
 refine ae (c:=mkc K5) KS5 aJ hm (tT i cs ns os fs ls ks ⟨rfl,λhp=>?_⟩);simp only[qc,Di,Df];exact⟨hp,λh=>by simp[bI,h],λh=>by simp[bI,h]⟩
theorem aDK(i:Int)(cs:LC)(ns os:LB)(fs:Lo)(ls:Ll)(ks:Lk): af Tryz.prog G0 250 [.dat I i,.ipv (.fn 195 [.ip N (cs,ns,os,fs,ls,ks)])] [] ⟨qT i (Df ls),.dat I (rule2 (aE ls) i),[]⟩:=by
 refine ae (c:=mkc K5) KS5 aJ hm (oT i cs ns os fs ls ks ⟨rfl,λhp=>?_⟩);have h0:0<=i:=hp.1;have h1:i<(ls.length:Int):=hp.2.1;have h2:i<=1000:=hp.2.2;have hl:((aE ls).length:Int)=ls.length:=yA _ (map_length _ ls);simp only[qc,qd,Dp,Df,Dc]
 exact⟨lx h0,λx hx=>⟨λhlt=>⟨⟨hx.1,by omega⟩,⟨h0,h1⟩,λhe=>LQ hx hlt (by omega) he,λhne=>⟨⟨by have:=hx.1;omega,by omega⟩,x+1,ly hx hlt (by omega) hne,rfl,by have:=hx.1;omega⟩⟩,λhge=>nP hx hge⟩⟩
theorem aDF(i:Int)(cs:LC)(ns os:LB)(fs:Lo)(ls:Ll)(ks:Lk): af Tryz.prog G0 251 [.dat I i,.ipv (.fn 197 [.ip N (cs,ns,os,fs,ls,ks)]),.ip (.sl Ln) ls] [] ⟨idx i (Df ls),.dat I (bS (cM (cs,ns,os,fs,ls,ks)) i),[]⟩:=by
 refine ae (c:=mkc K5) KS5 aJ hm (iB i cs ns os fs ls ks ⟨rfl,λhp=>?_⟩);have h0:0<=i:=hp.1;have h1:i<(ls.length:Int):=hp.2;simp only[qc,Di,Df,Dc,Du];rw[show bS (cM (cs,ns,os,fs,ls,ks)) i=_ from og _ h0 h1]
 exact⟨h0,h1,λh=>by rw[if_neg (by intro g;rw[show _=false from h]at g;cases g)],λh=>by rw[if_pos h]⟩
theorem aDO(i:Int)(cs:LC)(ns os:LB)(fs:Lo)(ls:Ll)(ks:Lk): af Tryz.prog G0 253 [.dat I i,.ipv (.fn 199 [.ip N (cs,ns,os,fs,ls,ks)])] [] ⟨idx i (Df ks),.dat I (bI (aF ks) i),[]⟩:=by
 refine ae (c:=mkc K5) KS5 aJ hm (tF i cs ns os fs ls ks ⟨rfl,λhp=>?_⟩);simp only[qc,Di,Df];exact⟨hp,λh=>by simp[bI,h],λh=>by simp[bI,h]⟩
theorem aDJ(i:Int)(cs:LC)(ns os:LB)(fs:Lo)(ls:Ll)(ks:Lk): af Tryz.prog G0 254 [.dat I i,.ipv (.fn 199 [.ip N (cs,ns,os,fs,ls,ks)])] [] ⟨qT i (Df ks),.dat I (rule2 (aF ks) i),[]⟩:=by
 refine ae (c:=mkc K5) KS5 aJ hm (oF i cs ns os fs ls ks ⟨rfl,λhp=>?_⟩);have h0:0<=i:=hp.1;have h1:i<(ks.length:Int):=hp.2.1;have h2:i<=1000:=hp.2.2;have hl:((aF ks).length:Int)=ks.length:=yA _ (map_length _ ks);simp only[qc,qd,Dp,Df,Dc]
 exact⟨lx h0,λx hx=>⟨λhlt=>⟨⟨hx.1,by omega⟩,⟨h0,h1⟩,λhe=>LQ hx hlt (by omega) he,λhne=>⟨⟨by have:=hx.1;omega,by omega⟩,x+1,ly hx hlt (by omega) hne,rfl,by have:=hx.1;omega⟩⟩,λhge=>nP hx hge⟩⟩
theorem aDE(i:Int)(cs:LC)(ns os:LB)(fs:Lo)(ls:Ll)(ks:Lk): af Tryz.prog G0 255 [.dat I i,.ipv (.fn 201 []),.ip (.sl Kl) ks] [] ⟨idx i (Df ks),.dat I (bS (bz ks) i),[]⟩:=by
 refine ae (c:=mkc K5) KS5 aJ hm (iA i cs ns os fs ls ks ⟨rfl,λhp=>?_⟩);have h0:0<=i:=hp.1;have h1:i<(ks.length:Int):=hp.2;simp only[qc,Di,Df,Dc,Du];rw[show bS (bz ks) i=_ from og _ h0 h1];exact⟨h0,h1,λh=>by rw[if_neg (by intro g;rw[show _=false from h]at g;cases g)],λh=>by rw[if_pos h]⟩
theorem pH(kind:Int)(l:List ByteArray)(g:List Bool)(k:Int): (aT kind l g k).length<=k.toNat:=by
 unfold aT;exact wE (qDd _ _) (by rw[wC];exact qJ _)
theorem wh{kind:Int}{l:List ByteArray}{g:List Bool}{k:Int}(h0:0<=k)(he:H9 l g k≠0): aT kind l g (k+1)=aT kind l g k++[(kind,k,H9 l g k)]:=by
 unfold aT;rw[show(k+1).toNat=k.toNat+1 by omega,zW,qAu];simp[qU h0,he]
theorem BQ{kind:Int}{l:List ByteArray}{g:List Bool}{k:Int}(h0:0<=k)(he:H9 l g k=0): aT kind l g (k+1)=aT kind l g k:=by
 unfold aT;rw[show(k+1).toNat=k.toNat+1 by omega,zW,qAu];simp[qU h0,he]
theorem Td{l:List ByteArray}{g:List Bool}{i j:Int}(h:ca l g i j)(hj:j<3)(he:[bI l i,rule2 l i,bS g i].getD j.toNat 0≠0): [bI l i,rule2 l i,bS g i].getD j.toNat 0=H9 l g i:=by
 obtain⟨h0,_,h1,h2,_⟩:=h;have hc:j=0\/j=1\/j=2:=by omega
 unfold H9;rcases hc with rfl | rfl | rfl
 .have he:bI l i≠0:=he;rw[if_pos he];rfl
 .have he:rule2 l i≠0:=he;rw[if_neg (by simp[h1]),if_pos he];rfl
 .rw[if_neg (by simp[h1]),if_neg (by simp[h2])];rfl
theorem Jc{l:List ByteArray}{g:List Bool}{i j:Int}(h:ca l g i j)(hj:j<3)(he:[bI l i,rule2 l i,bS g i].getD j.toNat 0=0): ca l g i (j+1):=by
 obtain⟨h0,_,h1,h2,h3⟩:=h;have hc:j=0\/j=1\/j=2:=by omega
 rcases hc with rfl | rfl | rfl
 .exact⟨by omega,by omega,λ_=>he,λh=>by omega,λh=>by omega⟩
 .exact⟨by omega,by omega,λ_=>h1 (by omega),λ_=>he,λh=>by omega⟩
 .exact⟨by omega,by omega,λ_=>h1 (by omega),λ_=>h2 (by omega),λ_=>he⟩
theorem Nh{l:List ByteArray}{g:List Bool}{i j:Int}(h:ca l g i j)(hj:¬j<3): H9 l g i=0:=by
 obtain⟨h0,_,h1,h2,h3⟩:=h;unfold H9;rw[if_neg (by simp[h1 (by omega)]),if_neg (by simp[h2 (by omega)]),h3 (by omega)]
theorem CM{kind lim:Int}{l:List ByteArray}{g:List Bool}{m:Nat}(hm:l.length=m)(h1:0<=lim)(h2:lim<=100):
  (∃x,cX x (l.length:Int) lim/\(aT kind l g x).length=0/\aT kind l g x=[]/\0=x/\aT kind l g x=[])/\
  ∀(x:Int),cX x (l.length:Int) lim->
    (x<min (m:Int) lim->
      ca l g x 0/\∀(z:Int),ca l g x z->
         (z<3->0<=z/\z<(3:Nat)/\(z.toNat=0->idx x m)/\(z.toNat=1->qT x m)/\(z.toNat=2->idx x m)/\
                ([bI l x,rule2 l x,bS g x].getD z.toNat 0≠0->
                  ((aT kind l g x).length+[(kind,x,[bI l x,rule2 l x,bS g x].getD z.toNat 0)].length)*24<=140737488355328/\
                   (aT kind l g x).length+[(kind,x,[bI l x,rule2 l x,bS g x].getD z.toNat 0)].length<=9223372036854775807/\
                    inR .i64 (x+1)/\
                     ∃y,cX y (l.length:Int) lim/\
                       ((aT kind l g x).length+[(kind,x,[bI l x,rule2 l x,bS g x].getD z.toNat 0)].length=(aT kind l g y).length/\
                         x+1=y/\aT kind l g x++[(kind,x,[bI l x,rule2 l x,bS g x].getD z.toNat 0)]=aT kind l g y)/\
                        (lim-y).toNat<(lim-x).toNat)/\
                 ([bI l x,rule2 l x,bS g x].getD z.toNat 0=0->inR .i64 (z+1)/\∃y,ca l g x y/\z+1=y/\(3-y).toNat<(3-z).toNat))/\
          (¬z<3->inR .i64 (x+1)/\∃y,cX y (l.length:Int) lim/\((aT kind l g x).length=(aT kind l g y).length/\x+1=y/\aT kind l g x=aT kind l g y)/\(lim-y).toNat<(lim-x).toNat))/\
     (¬x<min (m:Int) lim->
      ((m:Int)>lim->((aT kind l g x).length+[(kind,lim,(2:Int))].length)*24<=140737488355328/\
         (aT kind l g x).length+[(kind,lim,(2:Int))].length<=9223372036854775807/\
          (aT kind l g x++[(kind,lim,2)]).length=(aT kind l g x).length+[(kind,lim,(2:Int))].length/\
           aT kind l g x++[(kind,lim,2)]=bG kind lim l g)/\
       (¬(m:Int)>lim->aT kind l g x=bG kind lim l g)):=by
 subst hm;refine⟨⟨0,⟨qL _,qZ _,h1⟩,rfl,rfl,rfl,rfl⟩,λx ⟨x0,x1,x2⟩=>⟨λhlt=>⟨⟨qL _,by decide,λh=>by omega,λh=>by omega,λh=>by omega⟩,λz hz=>⟨λhz3=>?_,λhz3=>?_⟩⟩,λhge=>?_⟩⟩
 .have hk:=pH kind l g x;refine⟨hz.1,by omega,λ_=>⟨x0,by omega⟩,λ_=>⟨x0,by omega,by omega⟩,λ_=>⟨x0,by omega⟩,λhe=>?_,λhe=>⟨⟨by have:=hz.1;omega,by omega⟩,z+1,Jc hz hz3 he,rfl,by have:=hz.1;omega⟩⟩;have e:=Td hz hz3 he;rw[e]at he ⊢;refine⟨by simp only[vX];omega,by simp only[vX];omega,⟨by omega,by omega⟩,x+1,⟨by omega,by omega,by omega⟩,⟨?_,rfl,(wh x0 he).symm⟩,by omega⟩;rw[wh x0 he,qG]
 .have e:=Nh hz hz3;exact⟨⟨by omega,by omega⟩,x+1,⟨by omega,by omega,by omega⟩,⟨by rw[BQ x0 e],rfl,(BQ x0 e).symm⟩,by omega⟩
 .have hk:=pH kind l g x;have ex:x=min (l.length:Int) lim:=by omega
  refine⟨λh=>⟨by simp only[vX];omega,by simp only[vX];omega,qG,?_⟩,λh=>?_⟩
  .unfold bG Jn;rw[if_pos (by omega),<- ex]
  .unfold bG Jn;rw[if_neg (by omega),<- ex,wH]
theorem KS6: ak Tryz.prog G0 K6:=
 ai (ag λ(i,(cs,ns,os,fs,ls,ks),_)=>aDS i cs ns os fs ls ks)<|ai (ag λ(i,(cs,ns,os,fs,ls,ks),_)=>aDN i cs ns os fs ls ks)<|ai (ag λ(i,_,cs,_)=>aDI i cs [] [] [] [] []) <|
 ai (ag λ(i,(cs,ns,os,fs,ls,ks),_)=>aDR i cs ns os fs ls ks)<|ai (ag λ(i,(cs,ns,os,fs,ls,ks),_)=>aDM i cs ns os fs ls ks)<|ai (ag λ(i,_,os,_)=>aDH i [] [] os [] [] []) <|
 ai (ag λ(i,(cs,ns,os,fs,ls,ks),_)=>aDQ i cs ns os fs ls ks)<|ai (ag λ(i,(cs,ns,os,fs,ls,ks),_)=>aDL i cs ns os fs ls ks)<|ai (ag λ(i,(cs,ns,os,fs,ls,ks),xs,_)=>af.of_pre λ(h:idx i (Df fs)/\xs=fs)=>by obtain⟨h,rfl⟩:=h;exact(aDG i cs ns os xs ls ks).weaken λ_=>h) <|
 ai (ag λ(i,(cs,ns,os,fs,ls,ks),_)=>aDP i cs ns os fs ls ks)<|ai (ag λ(i,(cs,ns,os,fs,ls,ks),_)=>aDK i cs ns os fs ls ks)<|ai (ag λ(i,(cs,ns,os,fs,ls,ks),xs,_)=>af.of_pre λ(h:idx i (Df ls)/\xs=ls)=>by obtain⟨h,rfl⟩:=h;exact(aDF i cs ns os fs xs ks).weaken λ_=>h) <|
 ai (ag λ(i,(cs,ns,os,fs,ls,ks),_)=>aDO i cs ns os fs ls ks)<|ai (ag λ(i,(cs,ns,os,fs,ls,ks),_)=>aDJ i cs ns os fs ls ks)<|ai (ag λ(i,_,ks,_)=>aDE i [] [] [] [] [] ks)<|KS5
theorem aEh(cs:LC)(ns os:LB)(fs:Lo)(ls:Ll)(ks:Lk): af Tryz.prog G0 187 [.dat I 1,.dat I 6,.dat (.sl C) cs,.fn 186 [.ip N (cs,ns,os,fs,ls,ks)],.fn 161 []] [] ⟨True,.dat (.sl Fa) (bG 1 6 (aC cs ns) (br cs)),[]⟩:=by
 refine ae (c:=mkc K6) KS6 aJ hm (aAy cs ns os fs ls ks ⟨rfl,λ_=>?_⟩);have hm:(aC cs ns).length=cs.length:=fR cs ns;simp only[qc,qd,Dt,Ec,Dp,Ei,Df,Dc,Dx,Dj,Du,Eu,Ef];exact CM hm (by decide) (by decide)
theorem aEg(cs:LC)(ns os:LB)(fs:Lo)(ls:Ll)(ks:Lk): af Tryz.prog G0 189 [.dat I 2,.dat I 6,.dat (.sl S) os,.fn 188 [.ip N (cs,ns,os,fs,ls,ks)],.fn 190 []] [] ⟨True,.dat (.sl Fa) (bG 2 6 (os) (bX os)),[]⟩:=by
 refine ae (c:=mkc K6) KS6 aJ hm (aAx cs ns os fs ls ks ⟨rfl,λ_=>?_⟩);have hm:(os).length=os.length:=rfl;simp only[qc,qd,Dt,Ec,Dp,Ei,Df,Dc,Dx,Dj,Du,Eu,Ef];exact CM hm (by decide) (by decide)
theorem aEf(cs:LC)(ns os:LB)(fs:Lo)(ls:Ll)(ks:Lk): af Tryz.prog G0 192 [.dat I 3,.dat I 12,.dat (.sl Of) fs,.fn 191 [.ip N (cs,ns,os,fs,ls,ks)],.fn 193 [.ip N (cs,ns,os,fs,ls,ks)]] [] ⟨True,.dat (.sl Fa) (bG 3 12 (aD fs) (cV (cs,ns,os,fs,ls,ks))),[]⟩:=by
 refine ae (c:=mkc K6) KS6 aJ hm (aAw cs ns os fs ls ks ⟨rfl,λ_=>?_⟩);have hm:(aD fs).length=fs.length:=map_length _ fs;simp only[qc,qd,Dt,Ec,Dp,Ei,Df,Dc,Dx,Dj,Du,Eu,Ef];exact CM hm (by decide) (by decide)
theorem aEe(cs:LC)(ns os:LB)(fs:Lo)(ls:Ll)(ks:Lk): af Tryz.prog G0 196 [.dat I 4,.dat I 40,.dat (.sl Ln) ls,.fn 195 [.ip N (cs,ns,os,fs,ls,ks)],.fn 197 [.ip N (cs,ns,os,fs,ls,ks)]] [] ⟨True,.dat (.sl Fa) (bG 4 40 (aE ls) (cM (cs,ns,os,fs,ls,ks))),[]⟩:=by
 refine ae (c:=mkc K6) KS6 aJ hm (aAv cs ns os fs ls ks ⟨rfl,λ_=>?_⟩);have hm:(aE ls).length=ls.length:=map_length _ ls;simp only[qc,qd,Dt,Ec,Dp,Ei,Df,Dc,Dx,Dj,Du,Eu,Ef];exact CM hm (by decide) (by decide)
theorem aEd(cs:LC)(ns os:LB)(fs:Lo)(ls:Ll)(ks:Lk): af Tryz.prog G0 200 [.dat I 5,.dat I 4,.dat (.sl Kl) ks,.fn 199 [.ip N (cs,ns,os,fs,ls,ks)],.fn 201 []] [] ⟨True,.dat (.sl Fa) (bG 5 4 (aF ks) (bz ks)),[]⟩:=by
 refine ae (c:=mkc K6) KS6 aJ hm (aAu cs ns os fs ls ks ⟨rfl,λ_=>?_⟩);have hm:(aF ks).length=ks.length:=map_length _ ks;simp only[qc,qd,Dt,Ec,Dp,Ei,Df,Dc,Dx,Dj,Du,Eu,Ef];exact CM hm (by decide) (by decide)
theorem KS7: ak Tryz.prog G0 K7:=
 ai (ag λ(k,m,xs,(cs,ns,os,fs,ls,ks),_,_)=>af.of_pre λ(h:k=1/\m=6/\xs=cs)=>by obtain⟨rfl,rfl,rfl⟩:=h;exact((aEh xs ns os fs ls ks).weaken λ_=>trivial)) <|
 ai (ag λ(k,m,xs,(cs,ns,os,fs,ls,ks),_,_)=>af.of_pre λ(h:k=2/\m=6/\xs=os)=>by obtain⟨rfl,rfl,rfl⟩:=h;exact((aEg cs ns xs fs ls ks).weaken λ_=>trivial)) <|
 ai (ag λ(k,m,xs,(cs,ns,os,fs,ls,ks),n2,_)=>af.of_pre λ(h:k=3/\m=12/\xs=fs/\n2=(cs,ns,os,fs,ls,ks))=>by obtain⟨rfl,rfl,rfl,rfl⟩:=h;exact((aEf cs ns os xs ls ks).weaken λ_=>trivial)) <|
 ai (ag λ(k,m,xs,(cs,ns,os,fs,ls,ks),n2,_)=>af.of_pre λ(h:k=4/\m=40/\xs=ls/\n2=(cs,ns,os,fs,ls,ks))=>by obtain⟨rfl,rfl,rfl,rfl⟩:=h;exact((aEe cs ns os fs xs ks).weaken λ_=>trivial)) <|
 ai (ag λ(k,m,xs,(cs,ns,os,fs,ls,ks),_,_)=>af.of_pre λ(h:k=5/\m=4/\xs=ks)=>by obtain⟨rfl,rfl,rfl⟩:=h;exact((aEd cs ns os fs ls xs).weaken λ_=>trivial))<|KS6
theorem jE(kind lim:Int)(l:List ByteArray)(g:List Bool)(h:0<=lim): (bG kind lim l g).length<=lim.toNat+1:=by
 unfold bG Jn;have:=pH kind l g (min l.length lim);rw[qG];split<;>simp only[vX,yO]<;>omega
theorem wq(cs:LC)(ns os:LB)(fs:Lo)(ls:Ll)(ks:Lk): fm (cs,ns,os,fs,ls,ks)=FQ (cs,ns,os,fs,ls,ks)++(bG 1 6 (aC cs ns) (br cs)++(bG 2 6 os (bX os)++(bG 3 12 (aD fs) (cV (cs,ns,os,fs,ls,ks))++(bG 4 40 (aE ls) (cM (cs,ns,os,fs,ls,ks))++bG 5 4 (aF ks) (bz ks))))):=by
 unfold fm jk;rw[show(Int.toNat 6-1)=5 from rfl,show List.range 5=[0,1,2,3,4]from rfl];simp only[gJ,qDe,wH];rfl
theorem Sl(cs:LC)(ns os:LB)(fs:Lo)(ls:Ll)(ks:Lk): af Tryz.prog G0 129 [net cs ns os fs ls ks] [] ⟨True,.buf 0 (Dj (fm (cs,ns,os,fs,ls,ks))),[(0,.buf 177 Fa (fm (cs,ns,os,fs,ls,ks)) [])]⟩:=by
 refine ae (c:=mkc K7) KS7 aJ hm (Ly cs ns os fs ls ks ⟨rfl,λ_=>?_⟩);have h1:=jE 1 6 (aC cs ns) (br cs) (by decide);have h2:=jE 2 6 os (bX os) (by decide);have h3:=jE 3 12 (aD fs) (cV (cs,ns,os,fs,ls,ks)) (by decide);have h4:=jE 4 40 (aE ls) (cM (cs,ns,os,fs,ls,ks)) (by decide);have h5:=jE 5 4 (aF ks) (bz ks) (by decide);rw[wq]
 simp only[qc,qd,Ec,Df,Dj,Ef];refine⟨λhne=>?_,λhe=>?_⟩
 .rw[show FQ (cs,ns,os,fs,ls,ks)=[(1,-1,1)]from if_neg λe=>hne (yA Int.ofNat e)];generalize bG 1 6 _ _=a1 at *;generalize bG 2 6 _ _=a2 at *;generalize bG 3 12 _ _=a3 at *;generalize bG 4 40 _ _=a4 at *;generalize bG 5 4 _ _=a5 at *;simp only[qG,vX,wG]
  and_intros<;>first | omega | rfl
 .rw[show FQ (cs,ns,os,fs,ls,ks)=[]from if_pos (Int.ofNat.inj he)];generalize bG 1 6 _ _=a1 at *;generalize bG 2 6 _ _=a2 at *;generalize bG 3 12 _ _=a3 at *;generalize bG 4 40 _ _=a4 at *;generalize bG 5 4 _ _=a5 at *;simp only[qG,xM,wG]
  and_intros<;>first | omega | rfl
end Go.Eng.Sv
set_option maxRecDepth 100000
noncomputable section
namespace Go.Eng.Sv
open Go.Proofs
abbrev M: Ty:=.sl R
def upN(k n:Int): Prop:=0<=k/\k<=n
def aZ(n:Net)(k i:Int): List ByteArray:=(aR n k).take i.toNat
def Io(cs:List (Int×List Bool×Li))(k:Int): Prop:=0<=k/\k<=cs.length/\(cs.take k.toNat).all (λc=>gU c.2.1 c.2.2)=true
def HD(fs:Lo)(k:Int): Prop:=0<=k/\k<=fs.length/\(fs.take k.toNat).all (λo=>decide (o.2.2.2.2.2.2.length<=30))=true
def mU(l:List ByteArray): Bool:=l.all λs=>decide (s.size<=40)
def yz(n:Net)(k:Int): Prop:=1<=k/\k<=6/\∀j:Int,1<=j->j<k->mU (aR n j)=true
def TV(l:List ByteArray)(i:Int): Prop:=0<=i/\i<=l.length/\mU (l.take i.toNat)=true
def KF(n:Net): Bool:=m6 n&&(n.1.all λc=>gU c.2.1 c.2.2)&&(n.2.2.2.1.all λo=>decide (o.2.2.2.2.2.2.length<=30))&&mU (aR n 1)&&mU (aR n 2)&&mU (aR n 3)&&mU (aR n 4)&&mU (aR n 5)
def nY(a b:Lj): Bool:=a==b
def xx(a b:Lj)(k:Int): Prop:=0<=k/\k<=a.length/\a.length=b.length/\a.length<=1000000/\a.take k.toNat=b.take k.toNat
def xF(a b:Lj)(i k:Int): Prop:=0<=k/\k<=(a.getD i.toNat []).length/\(a.getD i.toNat []).length=(b.getD i.toNat []).length/\(a.getD i.toNat []).length<=1000000/\(a.getD i.toNat []).take k.toNat=(b.getD i.toNat []).take k.toNat
def mild(a:Lj): Prop:=a.length<=1000000/\∀r∈a,r.length<=1000000
def noF(n:Net): Bool:=(fm n).isEmpty
def K8: Kt:=kOr 129 (OH [.row N] (λ_=>True) (λ(n,_)=>.buf 0 (Dj (fm n))) λ(n,_)=>.buf 177 Fa (fm n) []) K7
def NQ(n:Net)(k:Int)(loop slot:Nat)(st:St)(xs:List ByteArray): Option Spec:=some {α:=Int,inv:=λi=>upN i (Df (aR n k)),st:=λi=>iE (put st [(slot,.dat I i),(5,.buf 100 (Dj (aZ n k i)))]) 100 (.buf 9 S (aZ n k i) []),μ:=λi=>Dc (Dh (Df (aR n k)) i)}
def aBO(n:Net): Ann:=⟨λid st=>match id with
 | 5=>NQ n 1 5 6 st []
 | 12=>NQ n 2 12 7 st []
 | 17=>NQ n 3 17 8 st []
 | 22=>NQ n 4 22 9 st []
 | 27=>NQ n 5 27 10 st []
 | _=>none,λ_ _=>none,λ_ _=>none⟩
def aBj(a b:Lj): Ann:=⟨λid st=>match id with
 | 4=>some {α:=Int,inv:=λk=>xx a b k,st:=λk=>put st [(5,.dat I k)],μ:=λk=>Dc (Dh (Df a) k)}
 | 9=>match st.sig.T 5 with
  | .dat (.int .i64) i=>some {α:=Int,inv:=λk=>xF a b i k,st:=λk=>put st [(6,.dat I k)],μ:=λk=>Dc (Dh (Df (Du a (Dc i) [])) k)}
  | _=>none
 | _=>none,λ_ _=>none,λ_ _=>none⟩
def aGc(n:Net): Ann:=⟨λid st=>match id with
 | 4=>some {α:=Int,inv:=λk=>Io n.1 k,st:=λk=>put st [(3,.dat I k)],μ:=λk=>Dc (Dh (Df n.1) k)}
 | 9=>some {α:=Int,inv:=λk=>HD n.2.2.2.1 k,st:=λk=>put st [(4,.dat I k)],μ:=λk=>Dc (Dh (Df n.2.2.2.1) k)}
 | 14=>some {α:=Int,inv:=λk=>yz n k,st:=λk=>put st [(5,.dat I k)],μ:=λk=>Dc (Dh 6 k)}
 | 18=>match st.sig.T 5 with
  | .dat (.int .i64) k=>some {α:=Int,inv:=λi=>TV (aR n k) i,st:=λi=>put st [(7,.dat I i)],μ:=λi=>Dc (Dh (Df (aR n k)) i)}
  | _=>none
 | _=>none,λ_ _=>none,λ_ _=>none⟩
def K12: Kt:=K8
theorem KS8: ak Tryz.prog G0 K8:=ai (OG λ((cs,ns,os,fs,ls,ks),_)=>Sl cs ns os fs ls ks) KS7
theorem ES{n:Net}{k i:Int}(h0:0<=i)(h1:i<=(aR n k).length): (aZ n k i).length=i.toNat:=by
 unfold aZ;rw[qI];omega
theorem BE{n:Net}{k i:Int}(h0:0<=i)(h1:i<(aR n k).length): aZ n k (i+1)=aZ n k i++[(aR n k).getD i.toNat ⟨#[]⟩]:=by
 unfold aZ;rw[show(i+1).toNat=i.toNat+1 by omega,wW,qA,qB (show i.toNat<(aR n k).length by omega)];rfl
theorem ET{n:Net}{k i:Int}(h1:i<=(aR n k).length)(h2:¬i<(aR n k).length): aZ n k i=aR n k:=by
 unfold aZ;exact qO (by omega)
theorem Bz{n:Net}{k:Int}{m:Nat}{el:Int->ByteArray}(hl:(aR n k).length=m)(hm:m<=100)(he:∀x,0<=x->x<(m:Int)->(aR n k).getD x.toNat ⟨#[]⟩=el x){R:List ByteArray}(hR:R=aR n k):
  (∃x,upN x (aR n k).length/\(aZ n k x).length=0/\aZ n k x=[]/\0=x/\aZ n k x=[])/\
   ∀(x:Int),upN x (aR n k).length->
    (x<(m:Int)->0<=x/\x<(m:Int)/\((aZ n k x).length+[el x].length)*16<=140737488355328/\(aZ n k x).length+[el x].length<=9223372036854775807/\inR .i64 (x+1)/\
     ∃y,upN y (aR n k).length/\((aZ n k x).length+[el x].length=(aZ n k y).length/\x+1=y/\aZ n k x++[el x]=aZ n k y)/\(((aR n k).length:Int)-y).toNat<(((aR n k).length:Int)-x).toNat)/\
    (¬x<(m:Int)->aZ n k x=R):=by
 refine⟨⟨0,⟨qL _,qZ _⟩,rfl,rfl,rfl,rfl⟩,λx ⟨h0,h1⟩=>⟨λhlt=>?_,λhge=>by rw[hR];exact ET h1 (by omega)⟩⟩;have e1:=ES h0 h1;have e2:=BE h0 (show x<((aR n k).length:Int) by omega);rw[he x h0 hlt]at e2;refine⟨h0,hlt,by simp only[vX];omega,by simp only[vX];omega,⟨by omega,by omega⟩,x+1,⟨by omega,by omega⟩,⟨by rw[e2,qG],rfl,e2.symm⟩,by omega⟩
theorem zg(cs:LC)(ns os:LB)(fs:Lo)(ls:Ll)(ks:Lk)(hp:m6 (cs,ns,os,fs,ls,ks)=true): cs.length<=10/\ns.length<=10/\os.length<=10/\fs.length<=16/\ls.length<=50/\ks.length<=8:=wF hp
theorem getD_mem{α:Type}{l:List α}{i:Nat}{d:α}(h:i<l.length): l.getD i d∈l:=by
 rw[qA,qB h];exact wM h
theorem iZ{α:Type}{a b:List α}{k:Nat}{d:α}(h:a.take k=b.take k)(ha:k<a.length)(hb:k<b.length)(he:a.getD k d=b.getD k d): a.take (k+1)=b.take (k+1):=by
 rw[qA,qA,qB ha,qB hb]at he;have he':a[k]=b[k]:=he;rw[wW,wW,qB ha,qB hb,h,he']
theorem xw{a b:Lj}(h:a≠b): false=nY a b:=by unfold nY;exact(qAe.2 h).symm
theorem H8{n:Net}(h:KF n=true->False): false=KF n:=by
 cases e:KF n with
 | false=>rfl
 | true=>exact(h e).elim
theorem oO{n:Net}: KF n=true↔m6 n=true/\(n.1.all λc=>gU c.2.1 c.2.2)=true/\(n.2.2.2.1.all λo=>decide (o.2.2.2.2.2.2.length<=30))=true/\∀j:Int,1<=j->j<6->mU (aR n j)=true:=by
 unfold KF;simp only[qC,qDi];constructor
 .rintro⟨h1,h2,h3,h4,h5,h6,h7,h8⟩;refine⟨h1,h2,h3,λj j1 j2=>?_⟩;have hc:j=1\/j=2\/j=3\/j=4\/j=5:=by omega
  rcases hc with rfl | rfl | rfl | rfl | rfl<;>assumption
 .rintro⟨h1,h2,h3,h4⟩;exact⟨h1,h2,h3,h4 1 (by decide) (by decide),h4 2 (by decide) (by decide),h4 3 (by decide) (by decide),h4 4 (by decide) (by decide),h4 5 (by decide) (by decide)⟩
theorem BM(k:Int): 4<=jf k/\jf k<=40:=by unfold jf;split<;>(try split)<;>(try split)<;>omega
theorem zh{n:Net}{k:Int}(h:1<=k): jk n (k+1)=jk n k++bG k (jf k) (aR n k) (OB n k):=by
 unfold jk;rw[show(k+1).toNat-1=(k.toNat-1)+1 by omega,zW,qAf,<- wG]
 congr 1
 simp only[gJ,qDe,wH];rw[show((k.toNat-1:Nat):Int)+1=k by omega]
theorem Cb(n:Net): ∀(j:Nat),(jk n (j+1)).length<=1+41*j
 | 0=>by
  have e:jk n ((0:Nat)+1)=FQ n:=by unfold jk;simp
  rw[e];unfold FQ;split<;>simp
 | j+1=>by
  have ih:=Cb n j;have e:=zh (n:=n) (k:=(j:Int)+1) (by omega);have h1:=(BM ((j:Int)+1)).1;have h2:=(BM ((j:Int)+1)).2;have:=jE ((j:Int)+1) (jf ((j:Int)+1)) (aR n ((j:Int)+1)) (OB n ((j:Int)+1)) (by omega);rw[show(((j+1:Nat):Int)+1)=(j:Int)+1+1 by omega,e,qG];omega
theorem aFR: ak Tryz.prog G0 K12:=KS8
end Go.Eng.Sv
set_option maxRecDepth 100000
noncomputable section
namespace Go.Eng.Sv
open Go.Proofs
def ZS(a b:Int)(xs:Li): Prop:=0<=a/\a<12/\0<=b/\b<12/\xs.length=144
def jb(xs:Li)(a b len:Int): Li:=eJ xs a b len
def gu(k:Int): Li:=(List.range 144).map λi=>if i<k.toNat then(if i/12=i%12 then 0 else -1)else 0
def iJ(ls:Ll)(k:Int): Li:=(ls.take k.toNat).foldl (λxs l=>eJ xs (bg l) (lTo l) (bf l)) FM
def fwD(ls:Ll)(o a b:Int): Li:=fwN ls (o*144+a*12+b).toNat
def bK(ls:Ll): Li:=yb ls
def noP(n:Net): Prop:=noF n=true
def vz(m:Nat)(ls:Ll)(b:Nat): Bool:=(List.range m).any λa=>decide (cell (yb ls) a b=-1)
def bJ(m:Int)(ls:Ll)(k:Int): List (Int×Int×Int):=(List.range k.toNat).filterMap λb:Nat=>if vz m.toNat ls b then some (3,(b:Int),111)else none
def fA(n:Net): List (Int×Int×Int):=if noF n then bJ n.2.2.2.1.length n.2.2.2.2.1 n.2.2.2.1.length else fm n
def tr(m:Int)(ls:Ll)(b k:Int): Prop:=0<=k/\k<=m/\(List.range k.toNat).all (λa=>decide (cell (yb ls) a b.toNat≠-1))=true
def aO(n:Net): Bool:=(fA n).isEmpty
abbrev cx: List (Int×List Bool×Li):=[(0,[true,true,true,true,true,false,false],[])]
abbrev nx: List ByteArray:=[⟨#[99]⟩]
abbrev ox: List ByteArray:=[⟨#[112]⟩,⟨#[113]⟩]
theorem QP(a b len:Int)(xs:Li)(hvc:
 let c9:=Ej 0 12 a;let c8:=Dx 12;let c1:=jb xs a b len;let c2:=Ej c9 1 b;let c3:=Du xs c2 0;let c4:=Ea c3 (-1);let c5:=Di c4;let c10:=c5->Dj xs=144;let c7:=c5->c5->c5;let c6:=Dz c4 true (Dp len c3);true/\(ZS a b xs->Dj xs<=Dj c1/\Dj xs=144/\0<=a/\a<Dx 12/\Ej 0 12 c8<=144/\Dj xs=144/\0<=b/\b<Dx 12/\Ej c9 1 c8<=144/\Dj xs=144/\c7/\c10/\(c5->0<=a)/\(c5->a<Dx 12)/\(c5->Ej 0 12 c8<=144)/\c7/\c7/\c10/\(c5->0<=b)/\(c5->b<Dx 12)/\(c5->Ej c9 1 c8<=144)/\c7/\c10/\c7/\c7/\(Dk true c5->c5)/\(c6->Dj xs=144/\0<=a/\a<Dx 12/\Ej 0 12 c8<=144/\Dj xs=144/\0<=b/\b<Dx 12/\Ej c9 1 c8<=144/\Dj xs=144/\En xs c2 len=c1/\Dj xs=Dj xs/\True)/\(c6=false->xs=c1/\Dj xs=Dj xs/\True))):
  evF (mkc K12) aA 203 [.dat I a,.dat I b,.dat I len,.ptr 1 144 0 0] [(1,.buf 174 I xs [])] ⟨ZS a b xs,.tup [],[(1,.buf 174 I (jb xs a b len) [])]⟩:=oE hvc
def Og(args:List AV)(m:Mem): Option jP:=match args,m with
 | [.dat (.int .i64) a,.dat (.int .i64) b,.dat (.int .i64) len,.ptr 1 g 0 0],[(1,.buf el (.int .i64) xs [])]=>if g=144/\el=174 then some ⟨ZS a b xs,.tup [],[(1,.buf 174 I (jb xs a b len) [])]⟩else none
 | _,_=>none
def K13: Kt:=kOr 203 Og K12
def Tm(ls:Ll): Ann:=⟨λid s=>match id with
 | 3=>some {α:=Int,inv:=λk=>upN k 12,st:=λk=>iE (put s [(12,.dat I k)]) 1 (.buf 174 I (gu (Ee 12 k)) []),μ:=λk=>Dc (Dh 12 k)}
 | 6=>match s.sig.T 12 with
  | .dat (.int .i64) a=>some {α:=Int,inv:=λk=>upN k 12,st:=λk=>iE (put s [(15,.dat I k)]) 1 (.buf 174 I (gu (Dq (Ee 12 a) k)) []),μ:=λk=>Dc (Dh 12 k)}
  | _=>none
 | 14=>some {α:=Int,inv:=λk=>upN k (Df ls),st:=λk=>iE (put s [(31,.dat I k)]) 1 (.buf 174 I (iJ ls k) []),μ:=λk=>Dc (Dh (Df ls) k)}
 | 19=>some {α:=Int,inv:=λk=>upN k 12,st:=λk=>iE (put s [(44,.dat I k)]) 1 (.buf 174 I (fwD ls k 0 0) []),μ:=λk=>Dc (Dh 12 k)}
 | 22=>match s.sig.T 44 with
  | .dat (.int .i64) o=>some {α:=Int,inv:=λk=>upN k 12,st:=λk=>iE (put s [(47,.dat I k)]) 1 (.buf 174 I (fwD ls o k 0) []),μ:=λk=>Dc (Dh 12 k)}
  | _=>none
 | 25=>match s.sig.T 44,s.sig.T 47 with
  | .dat (.int .i64) o,.dat (.int .i64) a=>some {α:=Int,inv:=λk=>upN k 12,st:=λk=>iE (put s [(50,.dat I k)]) 1 (.buf 174 I (fwD ls o a k) []),μ:=λk=>Dc (Dh 12 k)}
  | _,_=>none
 | _=>none,λ_ _=>none,λ_ _=>none⟩
theorem IG(cs:LC)(ns os:LB)(fs:Lo)(ls:Ll)(ks:Lk)(hvc:
 let c4:=Dx 12;let c1:=(cs,ns,os,fs,ls,ks);let c2:=Fz 144 0;let c3:=Df ls;true/\(noP c1->(∃x,upN x 12/\c1=c1/\144=144/\0=0/\0=0/\144=144/\0=0/\0=0/\0=x/\c2=c2/\c2=gu (12*x)/\True)/\∀(x:Int),let c5:=Dp x 12;let c6:=12*x;let c7:=gu c6;let c8:=x+1;upN x 12->(c5->(∃x_3,upN x_3 12/\c1=c1/\144=144/\0=0/\0=0/\144=144/\0=0/\0=0/\x=x/\x=x/\0=x_3/\c2=c2/\c7=gu (c6+x_3)/\True)/\∀(x_3:Int),let c9:=Dp x_3 12;let c10:=x_3+1;upN x_3 12->(c9->(Ec x x_3->Dj (gu (c6+x_3))=144/\0<=x/\x<Dx 12/\Ej 0 12 c4<=144/\Dj (gu (c6+x_3))=144/\0<=x_3/\x_3<Dx 12/\Ej (Ej 0 12 x) 1 c4<=144/\Dj (gu (c6+x_3))=144/\inR .i64 c10/\∃y,upN y 12/\(c1=c1/\144=144/\0=0/\0=0/\144=144/\0=0/\0=0/\x=x/\x=x/\c10=y/\c2=c2/\En (gu (c6+x_3)) (Ej (Ej 0 12 x) 1 x_3) (-1)=gu (c6+y)/\True)/\Dc (12-y)<Dc (12-x_3))/\(Ec x x_3=false->inR .i64 c10/\∃y,upN y 12/\(c1=c1/\144=144/\0=0/\0=0/\144=144/\0=0/\0=0/\x=x/\x=x/\c10=y/\c2=c2/\gu (c6+x_3)=gu (c6+y)/\True)/\Dc (12-y)<Dc (12-x_3)))/\(c9=false->inR .i64 c8/\∃y,upN y 12/\(c1=c1/\144=144/\0=0/\0=0/\144=144/\0=0/\0=0/\c8=y/\c2=c2/\gu (c6+x_3)=gu (12*y)/\True)/\Dc (12-y)<Dc (12-x)))/\(c5=false->(∃x,upN x c3/\144=144/\0=0/\0=0/\144=144/\0=0/\0=0/\144=144/\0=0/\0=0/\ls=ls/\c3=c3/\0=x/\c2=c2/\c7=iJ ls x/\True)/\∀(x:Int),let c11:=(Du ls (Dc x) (ByteArray.mk #[],(0:Int),(0:Int),(0:Int),(0:Int),(0:Int))).2;let c15:=jb (iJ ls x) c11.1 c11.2.1 c11.2.2.2.1;let c16:=x+1;
 upN x c3->(Dp x c3->0<=x/\x<c3/\1=1/\0=0/\1=1/\1=1/\0=0/\1=1/\1=1/\0=0/\1=1/\1=1/\0=0/\ZS c11.1 c11.2.1 (iJ ls x)/\Dj (iJ ls x)<=Dj c15/\inR .i64 c16/\∃y,upN y c3/\(144=144/\0=0/\0=0/\144=144/\0=0/\0=0/\144=144/\0=0/\0=0/\ls=ls/\c3=c3/\c16=y/\c2=c2/\c15=iJ ls y/\True)/\Dc (c3-y)<Dc (c3-x))/\(Dp x c3=false->(∃x_4,upN x_4 12/\144=144/\0=0/\0=0/\144=144/\0=0/\0=0/\144=144/\0=0/\0=0/\0=x_4/\c2=c2/\iJ ls x=fwD ls x_4 0 0/\True)/\∀(x:Int),let c17:=Dp x 12;let c18:=fwD ls x 0 0;let c19:=x+1;upN x 12->(c17->(∃x_6,upN x_6 12/\144=144/\0=0/\0=0/\144=144/\0=0/\0=0/\144=144/\0=0/\0=0/\x=x/\x=x/\0=x_6/\c2=c2/\c18=fwD ls x x_6 0/\True)/\∀(x_6:Int),let c20:=Dp x_6 12;let c21:=fwD ls x x_6 0;let c23:=x_6+1;upN x_6 12->(c20->(∃x_9,upN x_9 12/\144=144/\0=0/\0=0/\144=144/\0=0/\0=0/\144=144/\0=0/\0=0/\x=x/\x_6=x_6/\x=x/\x_6=x_6/\0=x_9/\c2=c2/\c21=fwD ls x x_6 x_9/\True)/\∀(x_9:Int),let c24:=Dp x_9 12;let c25:=fwD ls x x_6 x_9;let c26:=Dj c25;let c27:=Du c25 (Ej (Ej 0 12 x_6) 1 x) 0;let c28:=Ec c27 (-1);let c13:=c28->c26=144;let c12:=c28->c28->c28;let c29:=Du c25 (Ej (Ej 0 12 x) 1 x_9) 0;let c30:=Dz c28 (Ec c29 (-1)) false;let c31:=c27+c29;let c32:=jb c25 x_6 x_9 c31;let c33:=x_9+1;
 upN x_9 12->(c24->c26=144/\0<=x_6/\x_6<Dx 12/\Ej 0 12 c4<=144/\c26=144/\0<=x/\x<Dx 12/\Ej (Ej 0 12 x_6) 1 c4<=144/\c26=144/\c12/\c13/\(c28->0<=x)/\(c28->x<Dx 12)/\(c28->Ej 0 12 c4<=144)/\c12/\c12/\c13/\(c28->0<=x_9)/\(c28->x_9<Dx 12)/\(c28->Ej (Ej 0 12 x) 1 c4<=144)/\c12/\c13/\c12/\(Dk true c28->c28)/\(c30->c26=144/\0<=x_6/\x_6<Dx 12/\Ej 0 12 c4<=144/\c26=144/\0<=x/\x<Dx 12/\Ej (Ej 0 12 x_6) 1 c4<=144/\c26=144/\c26=144/\0<=x/\x<Dx 12/\Ej 0 12 c4<=144/\c26=144/\0<=x_9/\x_9<Dx 12/\Ej (Ej 0 12 x) 1 c4<=144/\c26=144/\inR .i64 c31/\ZS x_6 x_9 c25/\c26<=Dj c32/\inR .i64 c33/\∃y,upN y 12/\(144=144/\0=0/\0=0/\144=144/\0=0/\0=0/\144=144/\0=0/\0=0/\x=x/\x_6=x_6/\x=x/\x_6=x_6/\c33=y/\c2=c2/\c32=fwD ls x x_6 y/\True)/\Dc (12-y)<Dc (12-x_9))/\(c30=false->inR .i64 c33/\∃y,upN y 12/\(144=144/\0=0/\0=0/\144=144/\0=0/\0=0/\144=144/\0=0/\0=0/\x=x/\x_6=x_6/\x=x/\x_6=x_6/\c33=y/\c2=c2/\c25=fwD ls x x_6 y/\True)/\Dc (12-y)<Dc (12-x_9)))/\(c24=false->inR IntKind.i64 c23/\∃y,upN y 12/\(144=144/\0=0/\0=0/\144=144/\0=0/\0=0/\144=144/\0=0/\0=0/\x=x/\x=x/\c23=y/\c2=c2/\c25=fwD ls x y 0/\True)/\Dc (12-y)<Dc (12-x_6)))/\(c20=false->inR .i64 c19/\∃y,upN y 12/\(144=144/\0=0/\0=0/\144=144/\0=0/\0=0/\144=144/\0=0/\0=0/\c19=y/\c2=c2/\c21=fwD ls y 0 0/\True)/\Dc (12-y)<Dc (12-x)))/\(c17=false->Dj c18=144/\0=0/\Dj c18=144/\Dj c2=144/\0=0/\Dj c2=144/\Dj c18=144/\Dj c18=144/\0=0/\Dj c18=144/\c18=bK ls/\True))))):
  evF (mkc K13) (lvA [(3,[1,2,3,4,5,6,8,9,10,11,12,15,29,30,31,44,47,50]),(6,[1,2,3,4,5,6,8,9,10,11,12,15,29,30,31,44,47,50]),(14,[2,3,6,8,9,10,11,29,30,31,44,47,50]),(19,[2,3,6,9,10,11,44,47,50]),(22,[2,3,6,9,10,11,44,47,50]),(25,[2,3,6,9,10,11,44,47,50])] (Tm ls)) 130 [net cs ns os fs ls ks] [] ⟨noP (cs,ns,os,fs,ls,ks),.av I (bK ls),[]⟩:=oE hvc
def K14: Kt:=kOr 130 (az [.row N] (λ(n,_)=>noP n) λ(n,_)=>.av I (bK n.2.2.2.2.1)) K13
def Zn(fs:Lo)(ls:Ll): Ann:=⟨λid s=>match id with
 | 6=>some {α:=Int,inv:=λk=>upN k (Df fs),st:=λk=>iE (put s [(18,.dat I k),(3,.buf 0 (Dj (bJ (Df fs) ls k)))]) 0 (.buf 177 Fa (bJ (Df fs) ls k) []),μ:=λk=>Dc (Dh (Df fs) k)}
 | 9=>match s.sig.T 18 with
  | .dat (.int .i64) b=>some {α:=Int,inv:=λk=>tr (Df fs) ls b k,st:=λk=>put s [(24,.dat I k),(3,.buf 0 (Dj (bJ (Df fs) ls b)))],μ:=λk=>Dc (Dh (Df fs) k)}
  | _=>none
 | _=>none,λ_ _=>none,λ_ _=>none⟩
theorem Rr(cs:LC)(ns os:LB)(fs:Lo)(ls:Ll)(ks:Lk)(hvc:
 let c1:=(cs,ns,os,fs,ls,ks);let c2:=fm c1;let c3:=Dj c2;let c4:=Ei (Int.ofNat c3) 0;let c5:=fA c1;let c6:=Df fs;true/\(True->True/\c3=c3/\(c4->c3=c3/\c2=c5/\True)/\(c4=false->noP c1/\Dj (Fz 144 0)=144/\0=0/\Dj (Fz 144 0)=144/\Dj (bK ls)=144/\(∃x,upN x c6/\c1=c1/\Value.slice none 0 0=Value.slice none 0 0/\c3=Dj (bJ c6 ls x)/\144=144/\0=0/\0=0/\c6=c6/\0=x/\c2=bJ c6 ls x/\bK ls=bK ls/\True)/\∀(x:Int),let c7:=Dj (bJ c6 ls x);let c8:=[((3:Int),x,(111:Int))];let c9:=c7+Dj c8;let c10:=x+1;upN x c6->(Dp x c6->(∃x_3,tr c6 ls x x_3/\c1=c1/\Value.slice none 0 0=Value.slice none 0 0/\c7=c7/\144=144/\0=0/\0=0/\x=x/\c6=c6/\x=x/\c6=c6/\0=x_3/\bJ c6 ls x=bJ c6 ls x/\bK ls=bK ls/\True)/\∀(x_3:Int),let c11:=Ea (Du (bK ls) (Ej (Ej 0 12 x_3) 1 x) 0) (-1);let c12:=x_3+1;
 tr c6 ls x x_3->(Dp x_3 c6->Dj (bK ls)=144/\0<=x_3/\x_3<Dx 12/\Ej 0 12 (Dx 12)<=144/\Dj (bK ls)=144/\0<=x/\x<Dx 12/\Ej (Ej 0 12 x_3) 1 (Dx 12)<=144/\Dj (bK ls)=144/\(c11->c7=c7/\(c9*24)<=140737488355328/\c9<=9223372036854775807/\inR .i64 c10/\∃y,upN y c6/\(c1=c1/\Value.slice none 0 0=Value.slice none 0 0/\c9=Dj (bJ c6 ls y)/\144=144/\0=0/\0=0/\c6=c6/\c10=y/\Ef (bJ c6 ls x) c8=bJ c6 ls y/\bK ls=bK ls/\True)/\Dc (c6-y)<Dc (c6-x))/\(c11=false->inR IntKind.i64 c12/\∃y,tr c6 ls x y/\(c1=c1/\Value.slice none 0 0=Value.slice none 0 0/\c7=c7/\144=144/\0=0/\0=0/\x=x/\c6=c6/\x=x/\c6=c6/\c12=y/\bJ c6 ls x=bJ c6 ls x/\bK ls=bK ls/\True)/\Dc (c6-y)<Dc (c6-x_3)))/\(Dp x_3 c6=false->inR .i64 c10/\∃y,upN y c6/\(c1=c1/\Value.slice none 0 0=Value.slice none 0 0/\c7=Dj (bJ c6 ls y)/\144=144/\0=0/\0=0/\c6=c6/\c10=y/\bJ c6 ls x=bJ c6 ls y/\bK ls=bK ls/\True)/\Dc (c6-y)<Dc (c6-x)))/\(Dp x c6=false->c7=c7/\bJ c6 ls x=c5/\True)))):
  evF (mkc K14) (lvA [(6,[1,2,3,4,5,6,17,18,23,24]),(9,[1,2,3,4,5,6,17,18,23,24])] (Zn fs ls)) 64 [net cs ns os fs ls ks] [] ⟨True,.dat (.sl Fa) (fA (cs,ns,os,fs,ls,ks)),[]⟩:=oE hvc
def K15: Kt:=kOr 64 (az [.row N] (λ_=>True) λ(n,_)=>.dat (.sl Fa) (fA n)) K14
def K16: Kt:=K15
theorem tn{n:Net}: noF n=true↔fm n=[]:=by unfold noF;rw[wO]
theorem tM{kind lim:Int}{l:List ByteArray}{g:List Bool}(h0:0<=lim)(h:bG kind lim l g=[]): (l.length:Int)<=lim/\∀i:Int,0<=i->i<l.length->H9 l g i=0:=by
 unfold bG at h;obtain⟨h1,h2⟩:=qCa.1 h;have hl:(l.length:Int)<=lim:=by
  unfold Jn at h2;split at h2
  .cases h2
  .omega
 refine⟨hl,λi i0 i1=>?_⟩;unfold aT at h1;rw[qDa]at h1;have:=h1 i.toNat (qX.2 (by omega));rw[qU i0]at this;split at this
 .assumption
 .cases this
theorem oP{l:List ByteArray}{g:List Bool}{i:Int}(h:H9 l g i=0): bI l i=0/\rule2 l i=0/\bS g i=0:=by
 unfold H9 at h;by_cases h1:bI l i=0
 .rw[if_neg (by simp[h1])]at h;by_cases h2:rule2 l i=0
  .rw[if_neg (by simp[h2])]at h;exact⟨h1,h2,h⟩
  .rw[if_pos h2]at h;exact(h2 h).elim
 .rw[if_pos h1]at h;exact(h1 h).elim
theorem vr{g:List Bool}{i:Int}(h:bS g i=0): g.getD i.toNat false=true:=by
 unfold bS at h;cases hg:g.getD i.toNat false with
 | true=>rfl
 | false=>rw[hg]at h;cases h
theorem je(cs:LC)(ns os:LB)(fs:Lo)(ls:Ll)(ks:Lk)(h:noF (cs,ns,os,fs,ls,ks)=true): ns.length=cs.length/\bG 1 6 (aC cs ns) (br cs)=[]/\bG 2 6 os (bX os)=[]/\bG 3 12 (aD fs) (cV (cs,ns,os,fs,ls,ks))=[]/\bG 4 40 (aE ls) (cM (cs,ns,os,fs,ls,ks))=[]/\bG 5 4 (aF ks) (bz ks)=[]:=by
 have:=tn.1 h;rw[wq]at this;simp only[qCa]at this;obtain⟨h0,h1,h2,h3,h4,h5⟩:=this;refine⟨?_,h1,h2,h3,h4,h5⟩;unfold FQ at h0;split at h0
 .assumption
 .cases h0
theorem ji{n:Net}{l:Line}(h:du n l=true): 0<=bg l/\bg l<n.2.2.2.1.length/\0<=lTo l/\lTo l<n.2.2.2.1.length/\bg l≠lTo l/\(0<=lAt l/\lAt l<=1439)/\1<=bf l/\bf l<=5000:=by
 unfold du bP dW at h;simp only[qC,qE]at h;obtain⟨⟨⟨⟨⟨h1,h2⟩,h3⟩,h4⟩,h5⟩,h6⟩:=h;exact⟨h1.1,h1.2,h2.1,h2.2,h3,h4,h5.1,h5.2⟩
theorem oC(cs:LC)(ns os:LB)(fs:Lo)(ls:Ll)(ks:Lk)(h:noF (cs,ns,os,fs,ls,ks)=true): cI fs.length ls/\ls.length<=40:=by
 obtain⟨_,_,_,h3,h4,_⟩:=je cs ns os fs ls ks h;obtain⟨l3,e3⟩:=tM (by decide) h3;obtain⟨l4,e4⟩:=tM (by decide) h4;have n3:(aD fs).length=fs.length:=map_length _ fs;have n4:(aE ls).length=ls.length:=map_length _ ls;refine⟨⟨by omega,λl hl=>?_⟩,by omega⟩;obtain⟨i,hi⟩:=kF.1 hl;have hlt:i<ls.length:=(qF.1 hi).1;have:=vr (oP (e4 i (by omega) (by omega))).2.2
 rw[show(cM (cs,ns,os,fs,ls,ks))=ls.map (du (cs,ns,os,fs,ls,ks))from rfl,mB (du (cs,ns,os,fs,ls,ks)) ls (i:Int).toNat l false (by omega),qA,show(i:Int).toNat=i by omega,hi]at this;obtain⟨g1,g2,g3,g4,g5,_,g6,g7⟩:=ji this;exact⟨g1,g2,g3,g4,g5,g6,g7⟩
theorem jW(xs:Li)(a b len:Int): (jb xs a b len).length=xs.length:=g9 xs a b len
theorem Jh{xs:Li}{a b len:Int}(h:xs.getD (a.toNat*12+b.toNat) 0=-1\/len<xs.getD (a.toNat*12+b.toNat) 0): xs.set (a.toNat*12+b.toNat) len=jb xs a b len:=by
 unfold jb eJ cell;rw[show(decide (xs.getD (a.toNat*12+b.toNat) 0=-1)||decide (len<xs.getD (a.toNat*12+b.toNat) 0))=true by simpa using h];rfl
theorem Ji{xs:Li}{a b len:Int}(h1:xs.getD (a.toNat*12+b.toNat) 0≠-1)(h2:¬len<xs.getD (a.toNat*12+b.toNat) 0): xs=jb xs a b len:=by
 unfold jb eJ cell;rw[show(decide (xs.getD (a.toNat*12+b.toNat) 0=-1)||decide (len<xs.getD (a.toNat*12+b.toNat) 0))=false by rw[qBe];exact⟨vH h1,vH h2⟩];rfl
theorem XJ(a b len:Int)(xs:Li): af Tryz.prog G0 203 [.dat I a,.dat I b,.dat I len,.ptr 1 144 0 0] [(1,.buf 174 I xs [])] ⟨ZS a b xs,.tup [],[(1,.buf 174 I (jb xs a b len) [])]⟩:=by
 refine ae (c:=mkc K12) aFR aJ hm (QP a b len xs ⟨rfl,λ⟨a0,a1,b0,b1,hl⟩=>?_⟩);have e:=jW xs a b len;simp only[qc,Dk,Di,qd,Ea,Dp,Dx,Dj,Du,En,Ej]
 and_intros
 all_goals try (intros;omega)
 .intro h
  and_intros
  all_goals try omega
  exact Jh h
 .rintro⟨h1,h2⟩;exact Ji h1 h2
theorem Oe: ∀args m c,Og args m=some c->af Tryz.prog G0 203 args m c:=by
 intro args m c h;unfold Og at h;split at h
 .split at h
  .rename_i e;obtain⟨rfl,rfl⟩:=e;cases h;exact XJ _ _ _ _
  .cases h
 .cases h
theorem aFQ: ak Tryz.prog G0 K13:=ai Oe aFR
theorem qS(k:Int): (gu k).length=144:=by unfold gu;rw[vW,wC]
theorem JI: List.replicate 144 0=gu 0:=by
 unfold gu;apply xK;intro i;rw[wQ,qP];by_cases h:i<144
 .rw[if_pos h,vV h];simp
 .rw[if_neg h,zF (by rw[wC];omega)];rfl
theorem On{x y:Int}(hx:0<=x)(hx1:x<12)(hy:0<=y)(hy1:y<12)(hne:x≠y): (gu (12*x+y)).set (x.toNat*12+y.toNat) (-1)=gu (12*x+(y+1)):=by
 apply xK;intro i;rw[yX,qS];unfold gu;rw[qP,qP];by_cases h:i<144
 .rw[vV h];simp only[zL];by_cases e:x.toNat*12+y.toNat=i
  .subst e;rw[if_pos rfl,if_pos h,if_pos (by omega),if_neg (by omega)]
  .rw[if_neg e]
   congr 1
   by_cases g:i<(12*x+y).toNat
   .have g':i<(12*x+(y+1)).toNat:=by omega
    rw[if_pos g,if_pos g']
   .have g':¬i<(12*x+(y+1)).toNat:=by omega
    rw[if_neg g,if_neg g']
 .rw[if_neg (by omega),zF (by rw[wC];omega)];rfl
theorem JJ{x:Int}(hx:0<=x)(hx1:x<12): gu (12*x+x)=gu (12*x+(x+1)):=by
 unfold gu;apply zY;intro i hi;have:=qX.1 hi;by_cases g:i<(12*x+x).toNat
 .have g':i<(12*x+(x+1)).toNat:=by omega
  rw[if_pos g,if_pos g']
 .rw[if_neg g];split
  .rw[if_pos (by omega)]
  .rfl
theorem Oo(ls:Ll): gu (12*12)=iJ ls 0:=by
 unfold iJ gu FM;rw[show(Int.toNat 0)=0 from rfl,qCk,List.foldl_nil];apply zY;intro i hi;rw[if_pos (by have:=qX.1 hi;omega)]
theorem yq(ls:Ll)(k:Int): (iJ ls k).length=144:=oD _
theorem FA{ls:Ll}{k:Int}(h0:0<=k)(h1:k<ls.length)(d:Line): jb (iJ ls k) (ls.getD k.toNat d).2.1 (ls.getD k.toNat d).2.2.1 (ls.getD k.toNat d).2.2.2.2.1=iJ ls (k+1):=by
 unfold iJ;rw[show(k+1).toNat=k.toNat+1 by omega,wW,qA,qB (show k.toNat<ls.length by omega),qBu];rfl
theorem Jw(ls:Ll){k:Int}(h:¬k<ls.length): iJ ls k=fwD ls 0 0 0:=by
 unfold iJ;rw[qO (by omega)];rfl
theorem wo(ls:Ll)(o a b:Int): (fwD ls o a b).length=144:=pK ls _
theorem Y5{ls:Ll}{o a:Int}: fwD ls o a 12=fwD ls o (a+1) 0:=by
 unfold fwD;congr 2;omega
theorem Y6{ls:Ll}{o:Int}: fwD ls o 12 0=fwD ls (o+1) 0 0:=by
 unfold fwD;congr 2;omega
theorem HW{ls:Ll}{o a b:Int}(o0:0<=o)(o1:o<12)(a0:0<=a)(a1:a<12)(b0:0<=b)(b1:b<12): fwD ls o a (b+1)=xk (fwD ls o a b) (o.toNat*144+a.toNat*12+b.toNat):=by
 unfold fwD;rw[show(o*144+a*12+(b+1)).toNat=(o.toNat*144+a.toNat*12+b.toNat)+1 by omega,show(o*144+a*12+b).toNat=o.toNat*144+a.toNat*12+b.toNat by omega,y8]
theorem Y4{ls:Ll}{o a b:Int}(o0:0<=o)(o1:o<12)(a0:0<=a)(a1:a<12)(b0:0<=b)(b1:b<12)
  (h1:(fwD ls o a b).getD (a.toNat*12+o.toNat) 0≠-1) (h2:(fwD ls o a b).getD (o.toNat*12+b.toNat) 0≠-1):
  jb (fwD ls o a b) a b ((fwD ls o a b).getD (a.toNat*12+o.toNat) 0+(fwD ls o a b).getD (o.toNat*12+b.toNat) 0)=fwD ls o a (b+1):=by
 rw[HW o0 o1 a0 a1 b0 b1];unfold xk;rw[show(o.toNat*144+a.toNat*12+b.toNat)/12%12=a.toNat by omega,show(o.toNat*144+a.toNat*12+b.toNat)/144=o.toNat by omega,show(o.toNat*144+a.toNat*12+b.toNat)%12=b.toNat by omega];unfold cell;rw[show((fwD ls o a b).getD (a.toNat*12+o.toNat) 0 != -1&&(fwD ls o a b).getD (o.toNat*12+b.toNat) 0 != -1)=true by simp only[qC,qCz];exact⟨h1,h2⟩,qAm];unfold jb
 rw[qU a0,qU b0]
theorem aB0{ls:Ll}{o a b:Int}(o0:0<=o)(o1:o<12)(a0:0<=a)(a1:a<12)(b0:0<=b)(b1:b<12)
  (h:(fwD ls o a b).getD (a.toNat*12+o.toNat) 0≠-1->(fwD ls o a b).getD (o.toNat*12+b.toNat) 0=-1):fwD ls o a b=fwD ls o a (b+1):=by
 rw[HW o0 o1 a0 a1 b0 b1];unfold xk;rw[show(o.toNat*144+a.toNat*12+b.toNat)/12%12=a.toNat by omega,show(o.toNat*144+a.toNat*12+b.toNat)/144=o.toNat by omega,show(o.toNat*144+a.toNat*12+b.toNat)%12=b.toNat by omega];unfold cell;rw[show((fwD ls o a b).getD (a.toNat*12+o.toNat) 0 != -1&&(fwD ls o a b).getD (o.toNat*12+b.toNat) 0 != -1)=false by
  rw[Bool.and_eq_false_imp];intro g;rw[qCz]at g;rw[h g];rfl,qAn]
theorem Mc(cs:LC)(ns os:LB)(fs:Lo)(ls:Ll)(ks:Lk): af Tryz.prog G0 130 [net cs ns os fs ls ks] [] ⟨noP (cs,ns,os,fs,ls,ks),.av I (bK ls),[]⟩:=by
 refine ae (c:=mkc K13) aFQ aJ hm (IG cs ns os fs ls ks ⟨rfl,λhp=>?_⟩);obtain⟨ok,hls⟩:=oC cs ns os fs ls ks hp;simp only[qc,Dk,qd,Ec,Dp,Df,Dc,Dx,Dj,Du,En,Ej];have z12:upN 0 12:=⟨by decide,by decide⟩
 refine⟨⟨0,z12,rfl,JI⟩,λx ⟨x0,x1⟩=>⟨λhx=>⟨⟨0,z12,rfl,by rw[Int.add_zero]⟩,λy ⟨y0,y1⟩=>⟨λhy=>⟨λhne=>?_,λhe=>?_⟩,λhy=>?_⟩⟩,λhx=>?_⟩⟩
 .have:=qS (12*x+y)
  and_intros
  all_goals try omega
  exact⟨y+1,⟨by omega,by omega⟩,⟨rfl,On x0 hx y0 hy hne⟩,by omega⟩
 .subst he;exact⟨⟨by omega,by omega⟩,x+1,⟨by omega,by omega⟩,⟨rfl,JJ x0 hx⟩,by omega⟩
 .have:y=12:=by omega
  subst this;exact⟨⟨by omega,by omega⟩,x+1,⟨by omega,by omega⟩,⟨rfl,by congr 1;omega⟩,by omega⟩
 have ex:x=12:=by omega
 subst ex;refine⟨⟨0,⟨qL _,qZ _⟩,rfl,Oo ls⟩,λk ⟨k0,k1⟩=>⟨λhk=>?_,λhk=>?_⟩⟩
 .have ho:=ok.at_ _ (getD_mem (l:=ls) (i:=k.toNat) (d:=(⟨#[]⟩,0,0,0,0,0)) (by omega));have hn:=ok.n12;unfold bg lTo at ho;have e1:=yq ls k;refine⟨k0,hk,⟨by omega,by omega,by omega,by omega,e1⟩,by rw[jW]<;>exact qJ _,⟨by omega,by omega⟩,k+1,⟨by omega,by omega⟩,⟨rfl,FA k0 hk _⟩,by omega⟩
 refine⟨⟨0,z12,rfl,Jw ls hk⟩,λo ⟨o0,o1⟩=>⟨λho=>⟨⟨0,z12,rfl,rfl⟩,λa ⟨a0,a1⟩=>⟨λha=>⟨⟨0,z12,rfl,rfl⟩,λb ⟨b0,b1⟩=>⟨λhb=>?_,λhb=>?_⟩⟩,λha=>?_⟩⟩,λho=>?_⟩⟩
 .have e1:=wo ls o a b;have bd1:=B6 ok (k:=(o*144+a*12+b).toNat) (by omega) (a:=a.toNat) (b:=o.toNat) (by omega) (by omega);have bd2:=B6 ok (k:=(o*144+a*12+b).toNat) (by omega) (a:=o.toNat) (b:=b.toNat) (by omega) (by omega);have bd1:-1<=(fwD ls o a b).getD (a.toNat*12+o.toNat) 0/\(fwD ls o a b).getD (a.toNat*12+o.toNat) 0<=20480000:=bd1
  have bd2:-1<=(fwD ls o a b).getD (o.toNat*12+b.toNat) 0/\(fwD ls o a b).getD (o.toNat*12+b.toNat) 0<=20480000:=bd2
  and_intros
  all_goals try (intros;omega)
  .rintro⟨h1,h2⟩;have e2:=jW (fwD ls o a b) a b ((fwD ls o a b).getD (a.toNat*12+o.toNat) 0+(fwD ls o a b).getD (o.toNat*12+b.toNat) 0);have e3:=Y4 o0 ho a0 ha b0 hb h1 h2
   and_intros
   all_goals try omega
   exact⟨b+1,⟨by omega,by omega⟩,⟨rfl,e3⟩,by omega⟩
  .intro h;exact⟨⟨by omega,by omega⟩,b+1,⟨by omega,by omega⟩,⟨rfl,aB0 o0 ho a0 ha b0 hb h⟩,by omega⟩
 .have:b=12:=by omega
  subst this;exact⟨⟨by omega,by omega⟩,a+1,⟨by omega,by omega⟩,⟨rfl,Y5⟩,by omega⟩
 .have:a=12:=by omega
  subst this;exact⟨⟨by omega,by omega⟩,o+1,⟨by omega,by omega⟩,⟨rfl,Y6⟩,by omega⟩
 .have:o=12:=by omega
  subst this;have e1:=wo ls 12 0 0;have e2:(Fz 144 (0:Int)).length=144:=wJ
  and_intros
  all_goals try omega
  rfl
theorem aFP: ak Tryz.prog G0 K14:=ai (ag λ((cs,ns,os,fs,ls,ks),_)=>Mc cs ns os fs ls ks) aFQ
end Go.Eng.Sv
set_option maxRecDepth 100000
namespace Go.Eng.Sv
open Go.Proofs
theorem TN{n:Net}(h:¬(((fm n).length:Nat):Int)>0): noF n=true:=tn.2 (vO (by omega))
theorem NP{n:Net}(h:(((fm n).length:Nat):Int)>0): noF n=false:=by
 cases e:noF n with
 | false=>rfl
 | true=>rw[tn.1 e]at h;simp at h
theorem Hq: (Fz 144 (0:Int)).length=144:=wJ
theorem A7(ls:Ll): (bK ls).length=144:=pK ls _
theorem qn(m:Int)(ls:Ll): bJ m ls 0=[]:=rfl
theorem EF(m:Int)(ls:Ll)(k:Int): (bJ m ls k).length<=k.toNat:=by
 unfold bJ;exact wE (qDd _ _) (by rw[wC];exact qJ _)
theorem EE{m:Int}{ls:Ll}{k:Int}(h0:0<=k)(h:vz m.toNat ls k.toNat=true): bJ m ls (k+1)=bJ m ls k++[(3,k,111)]:=by
 unfold bJ;rw[show(k+1).toNat=k.toNat+1 by omega,zW,qAu];simp[qU h0,h]
theorem Jk{m:Int}{ls:Ll}{k:Int}(h:vz m.toNat ls k.toNat=false)(h0:0<=k): bJ m ls (k+1)=bJ m ls k:=by
 unfold bJ;rw[show(k+1).toNat=k.toNat+1 by omega,zW,qAu];simp[h]
theorem Jl{m:Int}{ls:Ll}{a b:Int}(a0:0<=a)(a1:a<m)(h:(bK ls).getD (a.toNat*12+b.toNat) 0=-1): vz m.toNat ls b.toNat=true:=
 xZ.2 ⟨a.toNat,qX.2 (by omega),qV h⟩
theorem EZ{m:Int}{ls:Ll}{a b:Int}(hm:tr m ls b a)(a1:a<m)(h:(bK ls).getD (a.toNat*12+b.toNat) 0≠-1): tr m ls b (a+1):=by
 obtain⟨h0,h1,h2⟩:=hm;refine⟨by omega,by omega,?_⟩;rw[show(a+1).toNat=a.toNat+1 by omega,zW,kX,h2];simp only[qAj,List.all_nil,gB,zQ];exact qV h
theorem Js{m:Int}{ls:Ll}{a b:Int}(hm:tr m ls b a)(a1:¬a<m): vz m.toNat ls b.toNat=false:=by
 obtain⟨h0,h1,h2⟩:=hm;have:a=m:=by omega
 subst this;unfold vz;rw[qAa];intro x hx;have:=qM.1 h2 x hx;simpa using this
theorem X5(cs:LC)(ns os:LB)(fs:Lo)(ls:Ll)(ks:Lk): af Tryz.prog G0 64 [net cs ns os fs ls ks] [] ⟨True,.dat (.sl Fa) (fA (cs,ns,os,fs,ls,ks)),[]⟩:=by
 refine ae (c:=mkc K14) aFP aJ hm (Rr cs ns os fs ls ks ⟨rfl,λ_=>?_⟩);simp only[qc,qd,Ea,Dp,Ei,Df,Dc,Dx,Dj,Du,Ef,Ej];refine⟨λh=>by unfold fA;rw[NP h];rfl,λh=>?_⟩;have hno:=TN h;have hf:=tn.1 hno;obtain⟨ok,hls⟩:=oC cs ns os fs ls ks hno;have hn:=ok.n12;have e1:=A7 ls
 refine⟨hno,Hq,Hq,e1,⟨0,⟨qL _,qZ _⟩,by rw[hf,qn],rfl,by rw[hf,qn]⟩,λb ⟨b0,b1⟩=>⟨λhb=>⟨⟨qL _,qZ _,by simp⟩,λa ha=>⟨λhlt=>?_,λhge=>?_⟩⟩,λhb=>?_⟩⟩
 .have a0:=ha.1;have hl:=EF (fs.length:Int) ls b
  and_intros
  all_goals try (intros;omega)
  .intro he;have e2:=EE b0 (Jl a0 hlt he);exact⟨by simp only[vX];omega,by simp only[vX];omega,⟨by omega,by omega⟩,b+1,⟨by omega,by omega⟩,⟨by rw[e2,qG],rfl,e2.symm⟩,by omega⟩
  .intro hne;exact⟨⟨by omega,by omega⟩,a+1,EZ ha hlt hne,rfl,by omega⟩
 .have e2:=Jk (Js ha hge) b0;exact⟨⟨by omega,by omega⟩,b+1,⟨by omega,by omega⟩,⟨by rw[e2],rfl,e2.symm⟩,by omega⟩
 .have:b=fs.length:=by omega
  subst this;unfold fA;rw[hno];rfl
theorem pd: ∀(rs:Ll) (row:Li),(rs.foldl gW row).length=row.length
 | [],_=>rfl
 | l::rs,row=>by rw[xQ,pd rs,kz]
theorem wA(ls:Ll)(m a:Nat): ∀r,(bfN ls m a r).length=m
 | 0=>by show(o9 m a).length=m;simp[o9]
 | r+1=>by rw[Ae];unfold Ad;rw[pd,wA ls m a r]
theorem PE{m:Nat}{ls:Ll}(ok:cI m ls){row:Li}(hr:row.length=m){l:Line}(hl:l∈ls){K:Int}(h:∀b,at1 row b<=K): ∀b,at1 (gW row l) b<=K+5000:=by
 intro b;have o:=ok.at_ l hl;rw[o8 (by rw[hr];omega)];have h1:=h b;have h2:=h (bg l).toNat;split<;>omega
theorem CX{m:Nat}{ls:Ll}(ok:cI m ls): ∀(rs:Ll) (row:Li) (K:Int),(∀l∈rs,l∈ls)->row.length=m->(∀b,at1 row b<=K)->∀b,at1 (rs.foldl gW row) b<=K+5000*rs.length
 | [],_,_,_,_,h=>λb=>by have:=h b;simpa using this
 | l::rs,row,K,hs,hr,h=>λb=>by
  have:=CX ok rs (gW row l) (K+5000) (λx hx=>hs x (by simp[hx])) (by rw[kz];exact hr) (PE ok hr (hs l (by simp)) h) b;rw[xQ,wV];omega
theorem aCp{m:Nat}{ls:Ll}(ok:cI m ls)(hls:ls.length<=40)(a:Nat): ∀(r:Nat) b,at1 (bfN ls m a r) b<=200000*r
 | 0,b=>by
  show at1 (o9 m a) b<=_;unfold at1 o9;rw[qA,qP];by_cases h:b<m
  .rw[vV h];simp only[zL,qQ];split<;>omega
  .rw[zF (by rw[wC];omega)];simp
 | r+1,b=>by
  rw[Ae];have:=CX ok ls (bfN ls m a r) (200000*r) (λ_ h=>h) (wA ls m a r) (aCp ok hls a r) b;unfold Ad;omega
theorem aGq: ak Tryz.prog G0 K15:=
 ai (ag λ((cs,ns,os,fs,ls,ks),_)=>X5 cs ns os fs ls ks) aFP
theorem any_congr{α:Type}{p q:α->Bool}: ∀{l:List α},(∀x∈l,p x=q x)->l.any p=l.any q
 | [],_=>rfl
 | a::l,h=>by rw[qDv,qDv,h a (by simp),any_congr λx hx=>h x (by simp[hx])]
theorem aGp: ak Tryz.prog G0 K16:=aGq
end Go.Eng.Sv
set_option maxRecDepth 100000
namespace Go.Eng.Sv
open Go.Proofs
theorem VH{l:List ByteArray}: (∀i:Int,0<=i->i<l.length->rule2 l i=0)↔l.Pairwise (λa b=>a.toList≠b.toList):=by
 have key:∀i:Nat,∀h:i<l.length,rule2 l (i:Int)=0↔∀j,∀hj:j<i,(l[j]'(by omega)).toList≠l[i].toList:=by
  intro i hi;unfold rule2 gC;rw[vC,qA,qB hi,qQ];constructor
  .intro h j hj e;split at h
   .cases h
   .rename_i hn;refine hn (xZ.2 ⟨l[j]'(by omega),wX.2 ⟨j,by rw[qI];omega,by rw[qCw]⟩,?_⟩);rw[e];exact yH _
  .intro h;rw[if_neg];intro hn;obtain⟨w,hw,he⟩:=xZ.1 hn;obtain⟨j,hj,rfl⟩:=wX.1 hw;rw[qI]at hj;rw[qCw]at he;exact h j (by omega) (xH.1 he)
 rw[List.pairwise_iff_getElem];constructor
 .intro h i j hi hj hij;exact(key j hj).1 (h j (by omega) (by omega)) i hij
 .intro h i i0 i1;have:=(key i.toNat (by omega)).2 λj hj=>h j i.toNat (by omega) (by omega) hj
  rwa [qU i0]at this
theorem rL{kind lim:Int}{l:List ByteArray}{g:List Bool}(h0:0<=lim): bG kind lim l g=[]↔(l.length:Int)<=lim/\(∀x∈l,cy x=true)/\l.Pairwise (λa b=>a.toList≠b.toList)/\∀i,i<l.length->g.getD i false=true:=by
 have nm:∀i:Nat,∀h:i<l.length,gC l (i:Int)=l[i]:=λi hi=>by
  unfold gC;rw[vC,qA,qB hi,qQ]
 constructor
 .intro h;obtain⟨h1,h2⟩:=tM h0 h;refine⟨h1,λx hx=>?_,VH.1 λi i0 i1=>(oP (h2 i i0 i1)).2.1,λi hi=>?_⟩
  .obtain⟨i,hi,rfl⟩:=wX.1 hx;have:=(oP (h2 i (by omega) (by omega))).1;unfold bI at this;rw[nm i hi]at this;split at this
   .assumption
   .cases this
  .have:=vr (oP (h2 i (by omega) (by omega))).2.2
   rwa [vC]at this
 .rintro⟨h1,h2,h3,h4⟩;unfold bG aT Jn;rw[if_neg (by omega),wH,qDa];intro i hi;have hi:=qX.1 hi;have hlt:i<l.length:=by omega
  have e1:bI l (i:Int)=0:=by unfold bI;rw[nm i hlt,if_pos (h2 _ (wM hlt))]
  have e2:=VH.2 h3 (i:Int) (by omega) (by omega);have e3:bS g (i:Int)=0:=by unfold bS;rw[vC,if_pos (h4 i hlt)]
  have:H9 l g (i:Int)=0:=by unfold H9;rw[e1,e2,e3];rfl
  rw[if_pos this]
theorem kj{α:Type}{kind lim:Int}(h0:0<=lim)(nm:α->ByteArray)(good:α->Bool)(xs:List α): bG kind lim (xs.map nm) (xs.map good)=[] ↔
  (xs.length:Int)<=lim/\(∀x∈xs,cy (nm x)=true)/\xs.Pairwise (λa b=>(nm a).toList≠(nm b).toList)/\∀x∈xs,good x=true:=by
 rw[rL h0,vW,List.pairwise_map];constructor
 .rintro⟨h1,h2,h3,h4⟩;refine⟨h1,λx hx=>h2 _ (qCi hx),h3,λx hx=>?_⟩;obtain⟨i,hi,rfl⟩:=wX.1 hx;have:=h4 i hi
  rwa [qA,qP,qB hi,zL,qQ]at this
 .rintro⟨h1,h2,h3,h4⟩;refine⟨h1,λx hx=>?_,h3,λi hi=>?_⟩
  .obtain⟨y,hy,rfl⟩:=wZ.1 hx;exact h2 y hy
  .rw[qA,qP,qB hi,zL,qQ];exact h4 _ (wM hi)
theorem lN(cs:LC)(ns os:LB)(fs:Lo)(ls:Ll)(ks:Lk)(h:noF (cs,ns,os,fs,ls,ks)=true): (ls.length:Int)<=40/\(∀x∈ls,cy x.1=true)/\ls.Pairwise (λa b=>a.1.toList≠b.1.toList)/\∀x∈ls,du (cs,ns,os,fs,ls,ks) x=true:=
 (kj (by decide) (λl:Line=>l.1) (du (cs,ns,os,fs,ls,ks)) ls).1 (je cs ns os fs ls ks h).2.2.2.2.1
theorem Walk.map {ls rs:Ll} (h:∀l∈ls,∃r∈rs,bg r=bg l/\lTo r=lTo l/\bf r<=bf l) {a b:Nat} {n:Int} (w:Walk ls a b n):∃m,m<=n/\Walk rs a b m:=by
 induction w with
 | nil=>exact⟨0,qL _,.nil _⟩
 | snoc l hl _ ih=>
  obtain⟨m,hm,g⟩:=ih;obtain⟨r,hr,e1,e2,e3⟩:=h l hl;rw[<- e1]at g;exact⟨m+bf r,by omega,e2▸.snoc r hr g⟩
theorem Walk.ends {ls rs:Ll} (h:∀l∈ls,∃r∈rs,bg r=bg l/\lTo r=lTo l) {a b:Nat} {n:Int} (w:Walk ls a b n):∃m,Walk rs a b m:=by
 induction w with
 | nil=>exact⟨0,.nil _⟩
 | snoc l hl _ ih=>
  obtain⟨m,g⟩:=ih;obtain⟨r,hr,e1,e2⟩:=h l hl;rw[<- e1]at g;exact⟨m+bf r,e2▸.snoc r hr g⟩
end Go.Eng.Sv
set_option maxRecDepth 100000
namespace Go.Eng.Sv
open Go.Proofs
noncomputable def K18: Kt:=K16
noncomputable def K19: Kt:=K18
theorem aFb: ak Tryz.prog G0 K18:=aGp
theorem bD{x:Int}(h:-1000000000<=x/\x<=1000000000): inR .i64 x:=by unfold inR;simp only;omega
theorem fK(cs:LC)(ns os:LB)(fs:Lo)(ls:Ll)(ks:Lk)(h:noF (cs,ns,os,fs,ls,ks)=true): (fs.length:Int)<=12/\(∀x∈fs,cy x.1=true)/\fs.Pairwise (λa b=>a.1.toList≠b.1.toList)/\∀x∈fs,dt (cs,ns,os,fs,ls,ks) x=true:=
 (kj (by decide) (λl:Off=>l.1) (dt (cs,ns,os,fs,ls,ks)) fs).1 (je cs ns os fs ls ks h).2.2.2.1
theorem aFa: ak Tryz.prog G0 K19:=aFb
theorem wx(cs:LC)(ns os:LB)(fs:Lo)(ls:Ll)(ks:Lk): fA (cs,ns,os,fs,ls,ks)=[]↔noF (cs,ns,os,fs,ls,ks)=true/\bJ fs.length ls fs.length=[]:=by
 unfold fA;cases h:noF (cs,ns,os,fs,ls,ks)with
 | true=>exact⟨λg=>⟨rfl,g⟩,λg=>g.2⟩
 | false=>
  constructor
  .intro g;have:noF (cs,ns,os,fs,ls,ks)=true:=tn.2 g;rw[h]at this;cases this
  .intro g;cases g.1
end Go.Eng.Sv
set_option maxRecDepth 100000
noncomputable section
namespace Go.Eng.Sv
open Go.Proofs
def P9(a b:Int): Int:=a%b
def bM(d:Int): Bool:=decide (-1000000<=d/\d<=1000000)
def oj(d:Int): Prop:=-1000000000000<=d/\d<=1000000000000
def EN(b:Int): Prop:=0<b/\b<=1000000
def ga(z:Int)(w:List Bool)(h:Li)(t:Int): Prop:=ax z w h=true/\-2000000000<=t/\t<=2000000000
def k7(z:Int)(w:List Bool)(h:Li)(d m:Int): Prop:=ax z w h=true/\bM d=true/\0<=m/\m<1440
def fC(z t:Int): Int:=(t+z)/1440
def KC(z t:Int): Int:=(t+z)%1440
def cL(z d m:Int): Int:=d*1440+m-z
theorem gT(a b:Int)(hvc:
 let c1:=Dp (Fp a b) 0;let c2:=Fp a b+b;true/\(oj a/\EN b->b≠0/\(c1->inR .i64 c2/\c2=P9 a b/\True)/\(c1=false->Fp a b=P9 a b/\True))):
  evF (mkc K19) aA 162 [.dat I a,.dat I b] [] ⟨oj a/\EN b,.dat I (P9 a b),[]⟩:=oE hvc
theorem IT(a:Int)(hvc:
 let c1:=Ed a (-1000000);true/\(True->(c1->c1->c1)/\(Dk true c1->c1)/\Dz c1 (Eh a 1000000) false=bM a/\True)):
  evF (mkc K19) aA 163 [.dat I a] [] ⟨True,.dat .bool (bM a),[]⟩:=oE hvc
def KT1: Kt:=kOr 162 (az [.val I,.val I] (λ(a,b,_)=>oj a/\EN b) λ(a,b,_)=>.dat I (P9 a b)) <|
 kOr 163 (az [.val I] (λ_=>True) λ(a,_)=>.dat .bool (bM a)) K19
theorem Q8(z:Int)(w:List Bool)(h:Li)(t:Int)(hvc:
 let c1:=Di (ax z w h);let c2:=Di c1;let c3:=Dz c1 true (Dp t (-2000000000));let c4:=Di c3;let c5:=Dz c3 true (Ei t 2000000000);let c6:=P9 (t+z) 1440;let c7:=(t+z)-c6;let c8:=Gg c7 1440;true/\(ga z w h t->True/\(c2->c2->c2)/\(Dk true c2->c2)/\(c4->c4->c4)/\(Dk true c4->c4)/\(c5->0=fC z t/\0=KC z t/\True)/\(c5=false->inR .i64 (t+z)/\(oj (t+z)/\EN 1440)/\inR .i64 c7/\Eo 1440 0/\inR .i64 c8/\c8=fC z t/\c6=KC z t/\True))):
  evF (mkc KT1) aA 98 [cal z w h,.dat I t] [] ⟨ga z w h t,.tup [.dat I (fC z t),.dat I (KC z t)],[]⟩:=oE hvc
theorem WL(z:Int)(w:List Bool)(h:Li)(d m:Int)(hvc:
 let c1:=Di (ax z w h);let c2:=Di c1;let c3:=Dz c1 true (Di (bM d));let c4:=Di c3;let c5:=Dz c3 true (Dp m 0);let c6:=Di c5;let c7:=Dz c5 true (Ed m 1440);let c8:=d*1440;let c9:=c8+m;let c10:=c9-z;true/\(k7 z w h d m->True/\(c2->c2->c2)/\(c2->True)/\(c2->c2->c2)/\(Dk true c2->c2)/\(c4->c4->c4)/\(Dk true c4->c4)/\(c6->c6->c6)/\(Dk true c6->c6)/\(c7->0=cL z d m/\True)/\(c7=false->inR .i64 c8/\inR .i64 c9/\inR .i64 c10/\c10=cL z d m/\True))):
  evF (mkc KT1) aA 99 [cal z w h,.dat I d,.dat I m] [] ⟨k7 z w h d m,.dat I (cL z d m),[]⟩:=oE hvc
def KT2: Kt:=kOr 98 (az [.row C,.val I] (λ(c,t,_)=>ga c.1 c.2.1 c.2.2 t) λ(c,t,_)=>.tup [.dat I (fC c.1 t),.dat I (KC c.1 t)]) <|
 kOr 99 (az [.row C,.val I,.val I] (λ(c,d,m,_)=>k7 c.1 c.2.1 c.2.2 d m) λ(c,d,m,_)=>.dat I (cL c.1 d m)) KT1
theorem aEn(a b:Int): af Tryz.prog G0 162 [.dat I a,.dat I b] [] ⟨oj a/\EN b,.dat I (P9 a b),[]⟩:=by
 refine ae (c:=mkc K19) aFa aJ hm (gT a b ⟨rfl,λ⟨⟨h1,h2⟩,h3,h4⟩=>?_⟩);have e:=qBd (a:=a) (b:=b);have e1:=kY a (show b≠0 by omega);have e2:=kH a h3;have e3:(b.natAbs:Int)=b:=Int.natAbs_of_nonneg (by omega);simp only[Dp,Fp,P9,inR,qE,vN];by_cases hc:0<=a\/b ∣ a
 .rw[if_pos hc]at e;refine⟨by omega,λh=>by omega,λh=>⟨by omega,trivial⟩⟩
 .rw[if_neg hc,e3]at e;have hz:a%b≠0:=λh0=>hc (.inr (Int.dvd_of_emod_eq_zero h0))
  refine⟨by omega,λh=>⟨by omega,by omega,trivial⟩,λh=>by omega⟩
theorem M4(a:Int): af Tryz.prog G0 163 [.dat I a] [] ⟨True,.dat .bool (bM a),[]⟩:=by
 refine ae (c:=mkc K19) aFa aJ hm (IT a ⟨rfl,λ_=>⟨λh _=>h,λh=>by simpa[Dk]using h,?_,trivial⟩⟩);rw[jt];simp[bM,Ed,Eh]
theorem aE0: ak Tryz.prog G0 KT1:=ai (ag λ(a,b,_)=>aEn a b)<|ai (ag λ(a,_)=>M4 a) aFa
theorem Yr(z:Int)(w:List Bool)(h:Li)(t:Int): af Tryz.prog G0 98 [cal z w h,.dat I t] [] ⟨ga z w h t,.tup [.dat I (fC z t),.dat I (KC z t)],[]⟩:=by
 refine ae (c:=mkc KT1) aE0 aJ hm (Q8 z w h t ⟨rfl,λ⟨hv,h1,h2⟩=>?_⟩);obtain⟨⟨v1,v2,v3,v4⟩,_⟩:=cA.1 hv;have a1:¬t < -2000000000:=by omega
 have a2:¬t>2000000000:=by omega
 simp only[hv,a1,a2,jt,Dk,Di,zS,vP,qBk,zZ,yC,Dp,Ei,kL,vT,gB,qAk,qAi,kK,Eo,Gg,inR,P9,fC,KC,oj,EN];have e0:=kY (t+z) (show(1440:Int)≠0 by omega);have e1:=kH (t+z) (show(0:Int)<1440 by omega);have e3:t+z-(t+z)%1440=1440*((t+z)/1440):=by omega
 rw[e3,qDh _ (by omega)];omega
theorem aBl(z:Int)(w:List Bool)(h:Li)(d m:Int): af Tryz.prog G0 99 [cal z w h,.dat I d,.dat I m] [] ⟨k7 z w h d m,.dat I (cL z d m),[]⟩:=by
 refine ae (c:=mkc KT1) aE0 aJ hm (WL z w h d m ⟨rfl,λ⟨hv,hd,h1,h2⟩=>?_⟩);obtain⟨⟨v1,v2,v3,v4⟩,_⟩:=cA.1 hv;have a1:¬m<0:=by omega
 have a2:¬m≥1440:=by omega
 simp only[hv,hd,a1,a2,jt,Dk,Di,zS,vP,qBk,zZ,yC,Dp,Ed,kL,vT,gB,qAk,qAi,kK,inR,cL];unfold bM at hd;have:=wF hd;omega
theorem aEX: ak Tryz.prog G0 KT2:=ai (ag λ((z,w,h),t,_)=>Yr z w h t)<|ai (ag λ((z,w,h),d,m,_)=>aBl z w h d m) aE0
end Go.Eng.Sv
set_option maxRecDepth 100000
noncomputable section
namespace Go.Eng.Sv
open Go.Proofs
def B5(h:Li)(d i:Int): Bool:=decide (h.getD i.toNat 0≥d)
def Qd(h:Li)(i:Int): Prop:=0<=i/\i<h.length
def iC(g:Int->Bool)(n:Int): Int:=(((List.range n.toNat).filter λ(i:Nat)=>!g (i:Int)).length:Int)
def jU(g:Int->Bool)(pre:Int->Prop)(n:Int): Prop:=0<=n/\n<=1000000/\(∀i,0<=i->i<n->pre i)/\∀i j,0<=i->i<=j->j<n->g i=true->g j=true
def mj(g:Int->Bool)(n i j:Int): Prop:=0<=i/\i<=j/\j<=n/\(0<i->g (i-1)=false)/\(j<n->g j=true)
def atS(h:Li)(d:Int): Int:=iC (B5 h d) h.length
def bF(w:List Bool)(h:Li)(d:Int): Bool:=w.getD (d%7).toNat false&&!h.contains d
def p1(x:Int×Int): Int:=x.1
def p2(x:Int×Int): Int:=x.2
def uU(w:List Bool)(h:Li): Prop:=w.length=7/\h.length<=40/\∀i:Nat,i+1<h.length->h.getD i 0<h.getD (i+1) 0
theorem aDt(i d z:Int)(w:List Bool)(h:Li)(hvc:
 true/\(Qd h i->0<=i/\i<Df h/\Ed (Du h (Dc i) 0) d=B5 h d i/\True)):
  evF (mkc KT2) aA 267 [.dat I i,.ip C (z,w,h),.ip I d] [] ⟨Qd h i,.dat .bool (B5 h d i),[]⟩:=oE hvc
def Yi(g:Int->Bool)(n:Int): Ann:=⟨λid s=>match id with
 | 2=>some {α:=Int×Int,inv:=λx=>mj g n (p1 x) (p2 x),st:=λx=>put s [(5,.dat I (p1 x)),(6,.dat I (p2 x))],μ:=λx=>Dc (Dh (p2 x) (p1 x))}
 | _=>none,λ_ _=>none,λ_ _=>none⟩
theorem Lc(n:Int)(pre:Int->Prop)(g:Int->Bool)(hvc:
 let c6:=Ty.int .i64;true/\(jU g pre n->(∃x,mj g n (p1 x) (p2 x)/\AV.clo1 c6 Ty.bool pre g=AV.clo1 c6 Ty.bool pre g/\(0:Int)=(0:Int)/\0=p1 x/\n=p2 x/\True)/\∀(x:Int×Int),let c1:=Dp (p1 x) (p2 x);let c2:=p1 x+p2 x;let c3:=Gi c2 1;let c4:=Di (g c3);let c5:=c3+1;mj g n (p1 x) (p2 x)->(c1->inR .i64 c2/\inR IntKind.u64 c2/\Dl 0 1/\Dc 1<=64/\inR .i64 c3/\pre c3/\(c4->inR .i64 c5/\∃y,mj g n (p1 y) (p2 y)/\(AV.clo1 c6 Ty.bool pre g=AV.clo1 c6 Ty.bool pre g/\(0:Int)=(0:Int)/\c5=p1 y/\p2 x=p2 y/\True)/\Dc (p2 y-p1 y)<Dc (p2 x-p1 x))/\(c4=false->∃y,mj g n (p1 y) (p2 y)/\(AV.clo1 c6 Ty.bool pre g=AV.clo1 c6 Ty.bool pre g/\(0:Int)=(0:Int)/\p1 x=p1 y/\c3=p2 y/\True)/\Dc (p2 y-p1 y)<Dc (p2 x-p1 x)))/\(c1=false->p1 x=iC g n/\True))):
  evF (mkc KT2) (lvA [(2,[1,4,5,6,7])] (Yi g n)) 266 [.dat I n,.clo1 I .bool pre g] [] ⟨jU g pre n,.dat I (iC g n),[]⟩:=oE hvc
def KT3: Kt:=λf args m=>match f,args,m with
 | 267,[.dat (.int .i64) i,.ip (.pair (.int .i64) (.pair (.sl .bool) (.sl (.int .i64)))) c,.ip (.int .i64) d],[]=>some ⟨Qd c.2.2 i,.dat .bool (B5 c.2.2 d i),[]⟩
 | 266,[.dat (.int .i64) n,.fn 267 [.ip (.pair (.int .i64) (.pair (.sl .bool) (.sl (.int .i64)))) c,.ip (.int .i64) d]],[]=>some ⟨jU (B5 c.2.2 d) (Qd c.2.2) n,.dat I (iC (B5 c.2.2 d) n),[]⟩
 | _,_,_=>KT2 f args m
def aDl: Ann:=⟨λ_ _=>none,λid s=>match id with
 | 3=>some (frz (allNames s) s)
 | _=>none,λ_ _=>none⟩
theorem Qy(d z:Int)(w wk:List Bool)(h:Li)(hvc:
 let c9:=Df h;let c1:=P9 d 7;let c2:=Du wk (Dc c1) false;let c3:=Di c2;let c4:=(z,w,h);let c5:=iC (B5 h d) c9;let c6:=Ea c5 c9;let c7:=Di c6;let c8:=c7->c7->c7;true/\(uU wk h/\oj d->(oj d/\EN 7)/\Dj wk=7/\0<=c1/\c1<Dx 7/\(c3->false=bF wk h d/\True)/\(c3=false->d=d/\wk=wk/\c4=c4/\d=d/\false=false/\d=d/\c1=c1/\c2=c2/\c2=c2/\c3=c3/\jU (B5 h d) (Qd h) c9/\c8/\c8/\c8/\(c7->0<=c5)/\(c7->c5<Df h)/\c8/\c8/\c8/\(Dk true c7->c7)/\Dz c6 true (Ec (Du h (Dc c5) 0) d)=bF wk h d/\True))):
  evF (mkc KT3) aDl 265 [.dat I d,.ia .bool wk,.ip C (z,w,h)] [] ⟨uU wk h/\oj d,.dat .bool (bF wk h d),[]⟩:=oE hvc
theorem KY(z:Int)(w:List Bool)(h:Li)(hvc:
 let c3:=Fz 7 false;let c1:=Gl c3 w;let c2:=(z,w,h);true/\(Dj w=7->0=0/\7=7/\Dj c3=7/\Dj c3=7/\Dj c1=7/\0=0/\c1=w/\c2=c2/\True)):
  evF (mkc KT3) aA 221 [cal z w h] [] ⟨Dj w=7,.fn 265 [.ia .bool w,.ip C (z,w,h)],[]⟩:=oE hvc
def KT4: Kt:=λf args m=>match f,args,m with
 | 265,[.dat (.int .i64) d,.ia .bool w,.ip (.pair (.int .i64) (.pair (.sl .bool) (.sl (.int .i64)))) c],[]=>some ⟨uU w c.2.2/\oj d,.dat .bool (bF w c.2.2 d),[]⟩
 | 221,[.agg [.dat (.int .i64) z,.dat (.sl .bool) w,.dat (.sl (.int .i64)) h]],[]=>some ⟨Dj w=7,.fn 265 [.ia .bool w,.ip C (z,w,h)],[]⟩
 | _,_,_=>KT3 f args m
theorem Xp(z:Int)(w:List Bool)(h:Li)(d:Int)(hvc:
 let c1:=Dz (ax z w h) (bM d) false;let c2:=c1->c1->c1;true/\(ax z w h/\bM d->True/\(ax z w h->ax z w h->ax z w h)/\(ax z w h->True)/\(Dk true (ax z w h)->ax z w h)/\c2/\(c1->Dj w=7)/\c2/\c2/\(c1->uU w h/\oj d)/\(Dk true c1->c1)/\Dz c1 (bF w h d) false=bF w h d/\True)):
  evF (mkc KT4) aA 286 [cal z w h,.dat I d] [] ⟨ax z w h=true/\bM d=true,.dat .bool (bF w h d),[]⟩:=oE hvc
theorem VR{h:Li}(hi:∀i:Nat,i+1<h.length->h.getD i 0<h.getD (i+1) 0): ∀(k i:Nat),i+k+1<h.length->h.getD i 0<h.getD (i+k+1) 0
 | 0,i,hl=>hi i hl
 | k+1,i,hl=>by
  have h1:=VR hi k i (by omega);have h2:=hi (i+k+1) (by omega);have e:i+(k+1)+1=i+k+1+1:=by omega
  rw[e];omega
theorem FO{h:Li}(hi:∀i:Nat,i+1<h.length->h.getD i 0<h.getD (i+1) 0){i j:Nat}(hij:i<j)(hj:j<h.length): h.getD i 0<h.getD j 0:=by
 have:=VR hi (j-i-1) i (by omega)
 rwa [show i+(j-i-1)+1=j by omega]at this
theorem nF{g:Int->Bool}{i:Nat}: ∀N:Nat,(∀x:Nat,x<N->g (x:Int)=decide (i<=x))->((List.range N).filter λ(x:Nat)=>!g (x:Int)).length=min i N
 | 0,_=>by simp
 | N+1,h=>by
  rw[zW,yP,qG,nF N λx hx=>h x (by omega)];by_cases hN:i<=N
  .have e:g (N:Int)=true:=by rw[h N (by omega)];simpa using hN
   simp only[xE,e,zZ,qBj,vT,yQ,yO];omega
  .have e:g (N:Int)=false:=by rw[h N (by omega)];simpa using hN
   simp only[xE,e,yC,qBj,xU,wV,yO];omega
theorem search_end{g:Int->Bool}{pre:Int->Prop}{n i j:Int}(hp:jU g pre n)(ht:mj g n i j)(he:¬i<j): i=iC g n:=by
 obtain⟨p0,_,_,p3⟩:=hp;obtain⟨t0,t1,t2,t3,t4⟩:=ht;have hij:i=j:=by omega
 subst hij;have key:∀x:Nat,x<n.toNat->g (x:Int)=decide (i.toNat<=x):=λx hx=>by
  by_cases hxi:i.toNat<=x
  .rw[qV hxi];exact p3 i x t0 (by omega) (by omega) (t4 (by omega))
  .rw[vH hxi];cases hg:g (x:Int)with
   | false=>rfl
   | true=>
    have:=p3 x (i-1) (by omega) (by omega) (by omega) hg;rw[t3 (by omega)]at this;cases this
 unfold iC;rw[nF _ key];omega
theorem SV(n:Int)(pre:Int->Prop)(g:Int->Bool): af Tryz.prog G0 266 [.dat I n,.clo1 I .bool pre g] [] ⟨jU g pre n,.dat I (iC g n),[]⟩:=by
 refine ae (c:=mkc KT2) aEX aJ hm (Lc n pre g ⟨rfl,λhp=>?_⟩);have hp0:=hp.1;have hp1:=hp.2.1;have hsh:∀x:Int,0<=x->Gi x 1=x/2:=λx hx=>by
  simp only[Gi];rw[show(2:Int) ^ (1:Int).toNat=2 by decide,qCt _ (by omega)]
 simp only[Di,zS,vP,zK,kJ,Dp,Dl,Dc,qE,vN];refine⟨⟨(0,n),⟨qL _,hp0,qL _,λh=>absurd h (by simp only[p1];omega),λh=>absurd h (by simp only[p2];omega)⟩,rfl,rfl⟩,λx hx=>⟨λhlt=>?_,λhge=>search_end hp hx hge⟩⟩;obtain⟨i,j⟩:=x;obtain⟨t0,t1,t2,t3,t4⟩:=hx;simp only[p1,p2]at t0 t1 t2 t3 t4 hlt ⊢;rw[hsh (i+j) (by omega)];simp only[inR]
 refine⟨by omega,by omega,by omega,by decide,by omega,hp.2.2.1 _ (by omega) (by omega),λhg=>⟨by omega,((i+j)/2+1,j),⟨by simp only;omega,by simp only;omega,t2,λ_=>?_,t4⟩,⟨rfl,rfl⟩,by simp only;omega⟩,
  λhg=>⟨(i,(i+j)/2),⟨t0,by simp only;omega,by simp only;omega,t3,λ_=>hg⟩,⟨rfl,rfl⟩,by simp only;omega⟩⟩
 simp only[Int.add_sub_cancel];exact hg
theorem aFl(i d:Int)(c:C.den): af Tryz.prog G0 267 [.dat I i,.ip C c,.ip I d] [] ⟨Qd c.2.2 i,.dat .bool (B5 c.2.2 d i),[]⟩:=
 ae (c:=mkc KT2) aEX aJ hm (aDt i d c.1 c.2.1 c.2.2 ⟨rfl,λh=>⟨h.1,h.2,rfl,trivial⟩⟩)
theorem MZ(n d:Int)(c:C.den): af Tryz.prog G0 266 [.dat I n,.fn 267 [.ip C c,.ip I d]] [] ⟨jU (B5 c.2.2 d) (Qd c.2.2) n,.dat I (iC (B5 c.2.2 d) n),[]⟩:=
 (SV n (Qd c.2.2) (B5 c.2.2 d)).args λC us hG hr=>by
  obtain⟨u,us',e,g1,u2,us2,e2,g3,g4⟩:=hr;exact⟨u,us',e,g1,u2,us2,e2,jM (by kernel_rfl) rfl (λx=>aFl x d c) hG g3,g4⟩
theorem aEW: ak Tryz.prog G0 KT3:=by
 intro f args m c h;unfold KT3 at h;split at h
 .cases h;exact aFl _ _ _
 .cases h;exact MZ _ _ _
 .exact aEX _ _ _ _ h
theorem Ir{h:Li}(hi:∀i:Nat,i+1<h.length->h.getD i 0<h.getD (i+1) 0)(d:Int):
  0<=atS h d/\atS h d<=h.length/\(∀i:Nat,(i:Int)<atS h d->h.getD i 0<d)/\∀i:Nat,atS h d<=i->i<h.length->d<=h.getD i 0:=by
 have hex:∃k:Nat,k<=h.length/\(∀i:Nat,i<k->h.getD i 0<d)/\∀i:Nat,k<=i->i<h.length->d<=h.getD i 0:=by
  have:∀N:Nat,N<=h.length->∃k:Nat,k<=N/\(∀i:Nat,i<k->h.getD i 0<d)/\∀i:Nat,k<=i->i<N->d<=h.getD i 0:=by
   intro N;induction N with
   | zero=>intro _;exact⟨0,qJ _,λi hi=>by omega,λi _ hi=>by omega⟩
   | succ N ih=>
    intro hN;obtain⟨k,k1,k2,k3⟩:=ih (by omega);by_cases hk:k<N
    .refine⟨k,by omega,k2,λi h1 h2=>?_⟩;rcases zC i N with h3 | h3
     .exact k3 i h1 h3
     .have hin:i=N:=by omega
      have:=k3 k (qJ _) hk;have:=FO hi hk (show N<h.length by omega);rw[hin];omega
    .have ek:k=N:=by omega
     subst ek;by_cases hd:h.getD k 0<d
     .refine⟨k+1,qJ _,λi hi2=>?_,λi h1 h2=>by omega⟩;rcases zC i k with h3 | h3
      .exact k2 i h3
      .rw[show i=k by omega];exact hd
     .exact⟨k,by omega,k2,λi h1 h2=>by rw[show i=k by omega];omega⟩
  exact this h.length (qJ _)
 obtain⟨k,k1,k2,k3⟩:=hex;have e:atS h d=k:=by
  unfold atS iC;rw[nF (i:=k) _ (λx hx=>?_)]
  .omega
  .unfold B5;simp only[vC];by_cases hx2:k<=x
   .rw[qV hx2];exact qV (k3 x hx2 (by omega))
   .have:=k2 x (by omega);rw[vH hx2];exact vH (by omega)
 rw[e];exact⟨by omega,by omega,λi hi=>k2 i (by omega),λi h1 h2=>k3 i (by omega) h2⟩
theorem OC{w:List Bool}{h:Li}(hc:uU w h)(d:Int): jU (B5 h d) (Qd h) h.length:=by
 refine⟨by omega,by have:=hc.2.1;omega,λi h0 h1=>⟨h0,h1⟩,λi j h0 hij hj hg=>?_⟩;unfold B5 at hg ⊢;simp only[qE]at hg ⊢;rcases Int.lt_or_le i j with hlt | hge
 .have:=FO hc.2.2 (show i.toNat<j.toNat by omega) (by omega);omega
 .rw[show j=i by omega];exact hg
theorem WA{w:List Bool}{h:Li}(hc:uU w h)(d:Int): (decide (atS h d=h.length)||(h.getD (atS h d).toNat 0 != d))=!h.contains d:=by
 obtain⟨g0,g1,g2,g3⟩:=Ir hc.2.2 d;obtain⟨k,hk⟩:∃k,k=atS h d:=⟨_,rfl⟩;rw[<- hk]at g0 g1 g2 g3 ⊢;have hmem:d∈h↔k<h.length/\h.getD k.toNat 0=d:=by
  constructor
  .intro hm;obtain⟨i,hi⟩:=kF.1 hm;have hil:=(qF.1 hi).1;have e:h.getD i 0=d:=by rw[qA,hi];rfl
   have h1:k<=i:=by
    rcases Int.lt_or_le (i:Int) k with hlt | hge
    .have:=g2 i hlt;omega
    .exact hge
   have h2:k.toNat=i:=by
    rcases zC k.toNat i with hlt | hge
    .have:=FO hc.2.2 hlt hil;have:=g3 k.toNat (by omega) (by omega);omega
    .omega
   exact⟨by omega,by rw[h2];exact e⟩
  .rintro⟨h1,h2⟩;have hlt:k.toNat<h.length:=by omega
   rw[qA,qB hlt]at h2;simp only[qQ]at h2;rw[<- h2];exact wM _
 by_cases hd:d∈h
 .obtain⟨h1,h2⟩:=hmem.1 hd;have:h.contains d=true:=by simpa using hd
  rw[this,h2];have:¬k=h.length:=by omega
  simp[this]
 .have:h.contains d=false:=by simpa using hd
  rw[this];by_cases hk2:k=h.length
  .simp[hk2]
  .have:h.getD k.toNat 0≠d:=λe=>hd (hmem.2 ⟨by omega,e⟩)
   simp only[hk2,kL,xX,yC,qCz,ne_eq];exact this
theorem Ym(d:Int)(wk:List Bool)(c:C.den): af Tryz.prog G0 265 [.dat I d,.ia .bool wk,.ip C c] [] ⟨uU wk c.2.2/\oj d,.dat .bool (bF wk c.2.2 d),[]⟩:=by
 obtain⟨z,w,h⟩:=c;refine ae (c:=mkc KT3) aEW aJ hm (Qy d z w wk h ⟨rfl,λ⟨hc,hd⟩=>?_⟩);have hs:=OC hc d;obtain⟨g0,g1,g2,g3⟩:=Ir hc.2.2 d;have e0:=kY d (show(7:Int)≠0 by omega);have e1:=kH d (show(0:Int)<7 by omega);have ea:iC (B5 h d) (Df h)=atS h d:=rfl;have hs':jU (B5 h d) (Qd h) (Df h):=hs;simp only[ea,hs',rk,Dk,Di,zQ,zS,vP,qBk,kV,zK,kJ,P9,Du,Dc,Ea,Ec,Df,Dx,Dj,qAe]
 refine⟨⟨hd,by omega,by omega⟩,hc.1,e0,by exact_mod_cast e1,λhw=>?_,λhw=>⟨λ_=>g0,λhne=>by omega,?_⟩⟩
 .unfold bF;rw[hw];rfl
 .unfold bF;rw[hw,zQ,<- WA hc d]
  congr 1
theorem SU(z:Int)(w:List Bool)(h:Li): af Tryz.prog G0 221 [cal z w h] [] ⟨Dj w=7,.fn 265 [.ia .bool w,.ip C (z,w,h)],[]⟩:=by
 refine ae (c:=mkc KT3) aEW aJ hm (KY z w h ⟨rfl,λhw=>?_⟩);have hw:w.length=7:=hw;have e:Gl (Fz 7 false) w=w:=by
  simp only[Gl,Fz,wJ,<- hw,xC];rw[zN (by simp),wH]
 refine⟨rfl,rfl,by simp[Dj,Fz],by simp[Dj,Fz],by rw[e];exact hw,rfl,e,rfl,trivial⟩
theorem aCu: ak Tryz.prog G0 KT4:=by
 intro f args m c h;unfold KT4 at h;split at h
 .cases h;exact Ym _ _ _
 .cases h;exact SU _ _ _
 .exact aEW _ _ _ _ h
theorem rS{z:Int}{w:List Bool}{h:Li}(hv:ax z w h=true): uU w h:=by
 obtain⟨⟨_,_,v3,v4⟩,v5⟩:=cA.1 hv;exact⟨v3,v4,v5⟩
theorem TG{d:Int}(hd:bM d=true): oj d:=by
 unfold bM at hd;have:=wF hd;exact⟨by omega,by omega⟩
theorem aBw(z:Int)(w:List Bool)(h:Li)(d:Int): af Tryz.prog G0 286 [cal z w h,.dat I d] [] ⟨ax z w h=true/\bM d=true,.dat .bool (bF w h d),[]⟩:=by
 refine ae (c:=mkc KT4) aCu aJ hm (Xp z w h d ⟨rfl,λ⟨hv,hd⟩=>?_⟩);have hc:=rS hv;simp only[hv,hd,jt,Dk,zQ,zS,vP,qBk,kK,Dj];exact⟨hc.1,hc,TG hd⟩
end Go.Eng.Sv
set_option maxRecDepth 100000
noncomputable section
namespace Go.Eng.Sv
open Go.Proofs
def di(w:List Bool)(h:Li)(a n:Int): Li:=((List.range n.toNat).map λ(i:Nat)=>a+(i:Int)).filter λd=>bF w h d
def lq(w:List Bool)(h:Li)(a d:Int): Nat:=(((List.range (d-a).toNat).map λ(i:Nat)=>a+(i:Int)).filter λd=>bF w h d).length
def F3(w:List Bool)(h:Li)(a n:Int): Prop:=uU w h/\-1000000000<=a/\a<=1000000000/\-100000000<=n/\n<=100000000
def lX(a n d:Int): Prop:=a<=d/\(d<=a+n\/d=a)
def mP(w:List Bool)(h:Li)(d:Int): Option Int:=(di w h d 60).head?
def eW(w:List Bool)(h:Li)(d:Int): Int:=(mP w h d).getD 0
def fL(w:List Bool)(h:Li)(d:Int): Int:=if(mP w h d).isSome then 0 else 20
def Qj(z:Int)(w:List Bool)(h:Li)(d:Int): Prop:=ax z w h=true/\bM d=true
def isZ(k:Nat): Prop:=k=0
theorem Xd(z:Int)(w:List Bool)(h:Li)(a n:Int)(hvc:
 let c1:=Ty.bool.sl.pair (Ty.int .i64).sl;true/\(Dj w=7->Dj w=7/\1=1/\0=0/\a=a/\n=n/\1=1/\0=0/\AV.fn 265 [AV.ia Ty.bool w,AV.ip ((Ty.int IntKind.i64).pair c1) (z,w,h)]=AV.fn 265 [AV.ia Ty.bool w,AV.ip ((Ty.int .i64).pair c1) (z,w,h)]/\True)):
  evF (mkc KT4) aA 164 [cal z w h,.dat I a,.dat I n] [] ⟨Dj w=7,.fn 222 [.ip I a,.ip I n,.ipv (.fn 265 [.ia .bool w,.ip C (z,w,h)])],[]⟩:=oE hvc
def aB8(w:List Bool)(h:Li)(a n:Int): GQ:=⟨λid y=>match id with
 | 1=>some {α:=Int,inv:=λd=>lX a n d,st:=λd=>⟨put y.s [(5,.dat I d)],lq w h a d,true⟩,μ:=λd=>Dc (Dh (Dq a n) d)}
 | _=>none,λ_ _=>none,λid=>id==3⟩
theorem Rf(z a n:Int)(w w':List Bool)(h:Li)(hvc:
 let c1:=(z,w',h);let c2:=di w h a n;let c3:=Dj c2;true/\true/\true/\false=false/\∀(l:Nat),F3 w h a n->(∃x,lX a n x/\(l=l/\a=a/\n=n/\w=w/\c1=c1/\a=x/\a=a/\True)/\0=lq w h a x/\true)/\∀(x:Int),let c4:=Dp x (a+n);let c5:=lq w h a x;let c6:=c5+1;let c7:=x+1;let c8:=Dz (bF w h x) (Di false) false;lX a n x->inR .i64 (a+n)/\(c4->(uU w h/\oj x)/\(bF w h x->(bF w h x->bF w h x)/\(bF w h x->bF w h x)/\l=l/\true/\lu c2 c5 x/\∀(b:Bool),let c9:=Dz (bF w h x) (Di b) false;(Dk true (bF w h x)->bF w h x)/\(c9->b->c6=c3)/\(c9=false->inR IntKind.i64 c7/\∃y,lX a n y/\((l=l/\a=a/\n=n/\w=w/\c1=c1/\c7=y/\a=a/\True)/\c6=lq w h a y/\b)/\Dc ((a+n)-y)<Dc ((a+n)-x)))/\(bF w h x=false->(bF w h x->bF w h x->bF w h x)/\(Dk true (bF w h x)->bF w h x)/\(c8->true->c5=c3)/\(c8=false->inR .i64 c7/\∃y,lX a n y/\((l=l/\a=a/\n=n/\w=w/\c1=c1/\c7=y/\a=a/\True)/\c5=lq w h a y/\true)/\Dc ((a+n)-y)<Dc ((a+n)-x))))/\(c4=false->true->c5=c3)):
  evI (mkc KT4) (aB8 w h a n) 222 [.ip I a,.ip I n,.ipv (.fn 265 [.ia .bool w,.ip C (z,w',h)])] ⟨F3 w h a n,I,di w h a n⟩:=oE hvc
def KR1: Kt:=kOr 164 (az [.row C,.val I,.val I] (λ(c,_,_,_)=>Dj c.2.1=7) λ(c,a,n,_)=>.fn 222 [.ip I a,.ip I n,.ipv (.fn 265 [.ia .bool c.2.1,.ip C c])]) KT4
def aFg: FuncId->List AV->Option jr:=λf caps=>match f,caps with
 | 222,[.ip (.int .i64) a,.ip (.int .i64) n,.ipv (.fn 265 [.ia .bool w,.ip (.pair (.int .i64) (.pair (.sl .bool) (.sl (.int .i64)))) c])]=>some ⟨F3 w c.2.2 a n,I,di w c.2.2 a n⟩
 | _,_=>none
def flat(s:St): St:={s with tm:=s.tm.map aAF}
def aEy: Ann:=⟨λid s=>match id with
 | 4=>some {α:=Nat,inv:=λk=>isZ k,st:=λ_=>flat s,μ:=λk=>k}
 | _=>none,λ_ _=>none,λ_ _=>none⟩
noncomputable def aBP(K:Kt): Cfg:=⟨Tryz.prog,G0,K,λ_=>false,aFg,true,λ_ _ _=>none,λ_=>false⟩
theorem WX(z:Int)(w:List Bool)(h:Li)(d:Int)(hvc:
 let c1:=Di (ax z w h);let c2:=Di c1;let c3:=Dz c1 true (Di (bM d));let c4:=(z,w,h);let c5:=di w h d 60;true/\(Qj z w h d->True/\(c2->c2->c2)/\(c2->True)/\(c2->c2->c2)/\(Dk true c2->c2)/\(c3->1=1/\0=0/\1=1/\0=0/\1=1/\0=0/\1=1/\0=0/\0=eW w h d/\1=fL w h d/\True)/\(c3=false->Dj w=7/\F3 w h d 60/\(∃x,isZ x/\x=0/\z=z/\w=w/\h=h/\d=d/\c4=c4/\1=1/\0=0/\0=0/\1=1/\0=0/\0=0/\z=z/\w=w/\h=h/\ax z w h=ax z w h/\c1=c1/\c1=c1/\c3=c3/\z=z/\w=w/\h=h/\d=d/\d=d/\(60:Int)=(60:Int)/\w=w/\c4=c4/\(0:Int)=(0:Int)/\(0:Int)=(0:Int)/\True)/\(∀(x:Nat) (y:Int),isZ x->lu c5 x y->1=1/\0=0/\1=1/\0=0/\1=1/\0=0/\1=1/\0=0/\y=eW w h d/\0=fL w h d/\True)/\∀(x:Nat),isZ x->x=Dj c5->1=1/\0=0/\1=1/\0=0/\1=1/\0=0/\1=1/\0=0/\0=eW w h d/\20=fL w h d/\True))):
  evF (aBP KR1) aEy 160 [cal z w h,.dat I d] [] ⟨Qj z w h d,.tup [.dat I (eW w h d),.dat I (fL w h d)],[]⟩:=oE hvc
theorem aBu(z:Int)(w:List Bool)(h:Li)(a n:Int): af Tryz.prog G0 164 [cal z w h,.dat I a,.dat I n] [] ⟨Dj w=7,.fn 222 [.ip I a,.ip I n,.ipv (.fn 265 [.ia .bool w,.ip C (z,w,h)])],[]⟩:=by
 refine ae (c:=mkc KT4) aCu aJ hm (Xd z w h a n ⟨rfl,λhw=>?_⟩);exact⟨hw,rfl,rfl,rfl,rfl,rfl,rfl,rfl,trivial⟩
theorem aDd: ak Tryz.prog G0 KR1:=ai (ag λ((z,w,h),a,n,_)=>aBu z w h a n) aCu
theorem ON{α:Type}{f:Nat->α}{p:α->Bool}{k:Nat}(hp:p (f k)=true): ∀N:Nat,k<N->(((List.range N).map f).filter p)[(((List.range k).map f).filter p).length]?=some (f k)
 | 0,h=>by omega
 | N+1,h=>by
  rw[zW,yN,yP];rcases zC k N with hk | hk
  .have ih:=ON hp N hk;rw[vJ (qF.1 ih).1];exact ih
  .have e:N=k:=by omega
   subst e;rw[qW (qJ _),qCe];simp[hp]
theorem PL{w:List Bool}{h:Li}{a n x:Int}(h1:a<=x)(h2:x<a+n)(hw:bF w h x=true): lu (di w h a n) (lq w h a x) x:=by
 have e:a+((x-a).toNat:Int)=x:=by omega
 have:=ON (f:=λ(i:Nat)=>a+(i:Int)) (p:=λd=>bF w h d) (k:=(x-a).toNat) (by simp only[e];exact hw) n.toNat (by omega);simp only[e]at this;exact this
theorem rO{w:List Bool}{h:Li}{a x:Int}(h1:a<=x): lq w h a (x+1)=lq w h a x+(if bF w h x then 1 else 0):=by
 unfold lq;rw[show(x+1-a).toNat=(x-a).toNat+1 by omega,zW,yN,yP,qG];have e:a+((x-a).toNat:Int)=x:=by omega
 congr 1
 simp only[zH,qCf,e,xE,qBj];split<;>simp_all
theorem Ij(w:List Bool)(h:Li)(a:Int): lq w h a a=0:=by
 unfold lq;rw[show(a-a).toNat=0 by omega];rfl
theorem cnt_end{w:List Bool}{h:Li}{a n x:Int}(hx:lX a n x)(hge:¬x<a+n): lq w h a x=(di w h a n).length:=by
 unfold lq di;obtain⟨g1,g2⟩:=hx;rw[show(x-a).toNat=n.toNat by omega]
theorem aBq(a n:Int)(w:List Bool)(c:C.den): mR Tryz.prog G0 222 [.ip I a,.ip I n,.ipv (.fn 265 [.ia .bool w,.ip C c])] ⟨F3 w c.2.2 a n,I,di w c.2.2 a n⟩:=by
 obtain⟨z,w',h⟩:=c;refine jF (c:=mkc KT4) (A:=aB8 w h a n) aCu aJ hm ?_;refine Rf z a n w w' h ⟨rfl,rfl,rfl,rfl,λl ⟨hc,b1,b2,b3,b4⟩=>?_⟩;simp only[jt,Dk,Di,zQ,zS,vP,qBk,kV,yC,gB,kK,Dp,Dc,Dj,qE,vN];refine⟨⟨a,⟨qL _,.inr rfl⟩,rfl,(Ij w h a).symm⟩,λx hx=>?_⟩;have hx1:=hx.1;have hx2:=hx.2
 refine⟨⟨by omega,by omega⟩,λhlt=>⟨⟨hc,by omega,by omega⟩,λhw=>?_,λhw=>?_⟩,λhge=>cnt_end hx hge⟩
 .simp only[hw,zQ,zK,kJ];refine⟨PL hx1 hlt hw,λb=>⟨λe1 e2=>(by rw[e1]at e2;cases e2),λhb=>⟨⟨by omega,by omega⟩,x+1,⟨by omega,.inl (by omega)⟩,⟨rfl,?_,hb⟩,by omega⟩⟩⟩;rw[rO hx1,hw];rfl
 .simp only[hw,zS,vT,qAi,kK];refine⟨⟨by omega,by omega⟩,x+1,⟨by omega,.inl (by omega)⟩,⟨rfl,?_⟩,by omega⟩;rw[rO hx1,hw];rfl
theorem ZI: bv Tryz.prog G0 aFg:=by
 intro f caps c h;unfold aFg at h;split at h
 .cases h;exact aBq _ _ _ _
 .cases h
theorem okd{d:Int}(hd:bM d=true): -1000000<=d/\d<=1000000:=by
 unfold bM at hd;exact wF hd
theorem aBo(z:Int)(w:List Bool)(h:Li)(d:Int): af Tryz.prog G0 160 [cal z w h,.dat I d] [] ⟨Qj z w h d,.tup [.dat I (eW w h d),.dat I (fL w h d)],[]⟩:=by
 refine ae (c:=aBP KR1) aDd ZI hm (WX z w h d ⟨rfl,λ⟨hv,hd⟩=>?_⟩);have hc:=rS hv;have hd':=okd hd;simp only[hv,hd,jt,Dk,Di,zS,vP,qBk,zZ,yC,qAk,gB,vT,qAi,kK,Dj];refine⟨hc.1,⟨hc,by omega,by omega,by omega,by omega⟩,⟨0,rfl,rfl⟩,λx y hx hy=>?_,λx hx hl=>?_⟩
 .have hx:x=0:=hx;subst hx;have:mP w h d=some y:=by
   have hy:(di w h d 60)[0]?=some y:=hy;unfold mP;rw[qBx];exact hy
  simp[eW,fL,this]
 .have hx:x=0:=hx;subst hx;have:mP w h d=none:=by
   unfold mP;rw[vO hl.symm];rfl
  simp[eW,fL,this]
theorem oz{w:List Bool}{h:Li}{a n y:Int}(hy:y∈di w h a n): a<=y/\y<a+n/\bF w h y=true:=by
 unfold di at hy;obtain⟨h1,h2⟩:=xO.1 hy;obtain⟨i,hi,rfl⟩:=wZ.1 h1;have:=qX.1 hi;exact⟨by omega,by omega,h2⟩
end Go.Eng.Sv
set_option maxRecDepth 100000
noncomputable section
namespace Go.Eng.Sv
open Go.Proofs
abbrev uH(t:TypeId)(e:Int): Value:=.iface t (.int .i64 e)
abbrev Stp: Ty:=.pair I (.pair I (.pair I I))
abbrev Stop:=Int×Int×Int×Int
abbrev Pl: Ty:=.pair I (.pair I (.pair M (.sl M)))
abbrev Plan:=Int×Int×Lj×List (Lj)
def bw(t:Int): Bool:=decide (0<=t/\t<=2000000)
def cj(n:Net)(o:Int): Off:=n.2.2.2.1.getD o.toNat (⟨#[]⟩,0,0,0,0,0,[])
def pF(n:Net)(l:Int): Line:=n.2.2.2.2.1.getD l.toNat (⟨#[]⟩,0,0,0,0,0)
def aj(n:Net)(o:Int): Int×List Bool×Li:=n.1.getD (cj n o).2.2.1.toNat (0,[],[])
def cn(n:Net)(l:Int): Int:=(pF n l).2.1
def yo(n:Net)(l:Int): Int:=(pF n l).2.2.1
def yp(n:Net)(l:Int): Int:=(pF n l).2.2.2.1
def fY(n:Net)(l:Int): Int:=(pF n l).2.2.2.2.1
def iT(n:Net)(o:Int): Prop:=noF n=true/\0<=o/\o<n.2.2.2.1.length
def KD(n:Net)(l:Int): Prop:=noF n=true/\0<=l/\l<n.2.2.2.2.1.length
def aV(n:Net)(o l:Int): Bool:=decide (l=-1)||(bP l n.2.2.2.2.1.length&&decide (cn n l=o))
def rowOk(n:Net)(o:Int)(row:Li): Bool:=decide ((row.length:Int)=n.2.2.2.1.length)&&row.all (aV n o)
def lr(n:Net)(nx:Lj): Bool:=decide ((nx.length:Int)=n.2.2.2.1.length)&&(List.range nx.length).all λi=>rowOk n i (nx.getD i [])
def bZ(nx:Lj): Prop:=nx.length<=1000000/\∀r∈nx,r.length<=1000000
def Hl(n:Net)(nx:Lj)(k:Int): Prop:=0<=k/\k<=nx.length/\(nx.length:Int)=n.2.2.2.1.length/\∀i:Nat,(i:Int)<k->rowOk n i (nx.getD i [])=true
def Tf(n:Net)(o:Int)(row:Li)(k:Int): Prop:=0<=k/\k<=row.length/\(row.length:Int)=n.2.2.2.1.length/\∀i:Nat,(i:Int)<k->aV n o (row.getD i 0)=true
def d0F(c:Int×List Bool×Li)(m t:Int): Int:=if m<KC c.1 t then fC c.1 t+1 else fC c.1 t
def dV(c:Int×List Bool×Li)(m t:Int): Int:=if fL c.2.1 c.2.2 (d0F c m t)=0 then cL c.1 (eW c.2.1 c.2.2 (d0F c m t)) m else 0
def ic(c:Int×List Bool×Li)(m t:Int): Int:=fL c.2.1 c.2.2 (d0F c m t)
def tZ(c:Int×List Bool×Li)(m t:Int): Prop:=ax c.1 c.2.1 c.2.2=true/\0<=m/\m<1440/\-1000000<=t/\t<=100000000
def ay(n:Net)(o t:Int): Int:=t+(cj n o).2.2.2.2.1*(cj n o).2.2.2.2.2.1
def fx(n:Net)(o t:Int): Prop:=iT n o/\-1000000000<=t/\t<=1000000000
def nL(n:Net)(l t:Int): Int:=if bw t=true then dV (aj n (cn n l)) (yp n l) t else 0
def mJ(n:Net)(l t:Int): Int:=if bw t=true then ic (aj n (cn n l)) (yp n l) t else 1
def isZero(e:Int): Bool:=decide (e=0)
def KR2: Kt:=kOr 160 (az [.row C,.val I] (λ(c,d,_)=>Qj c.1 c.2.1 c.2.2 d) λ(c,d,_)=>.tup [.dat I (eW c.2.1 c.2.2 d),.dat I (fL c.2.1 c.2.2 d)]) KR1
theorem II(i l:Int)(hvc:
 let c1:=Ed i 0;true/\(True->(c1->c1->c1)/\(c1->c1->c1)/\(Dk true c1->c1)/\Dz c1 (Dp i l) false=bP i l/\True)):
  evF (mkc KR2) aA 89 [.dat I i,.dat I l] [] ⟨True,.dat .bool (bP i l),[]⟩:=oE hvc
theorem DK(t:Int)(hvc:
 let c1:=Ed t 0;true/\(True->(c1->c1->c1)/\(Dk true c1->c1)/\Dz c1 (Eh t 2000000) false=bw t/\True)):
  evF (mkc KR2) aA 90 [.dat I t] [] ⟨True,.dat .bool (bw t),[]⟩:=oE hvc
theorem QT(v e:Int)(hvc:
 let c1:=Ec e 0;let c2:=chainOf (Value.iface 39 (Value.int .i64 e));true/\(True->(c1->(true->True/\(false=false->isZero e=false/\true/\c2=c2))/\True)/\(c1=false->isZero e/\v=v/\True))):
  evC (mkc KR2) aA 97 [.dat I v,.dat I e] (.dat I v) ⟨True,isZero e,uH 39 e⟩:=oE hvc
theorem IL(b:Bool)(hvc:
 let c1:=chainOf (Value.iface 39 (Value.int .i64 (1:Int)));true/\(True->(Di b->(true->True/\(false=false->b=false/\true/\c1=c1))/\True)/\(Di b=false->b/\True))):
  evC (mkc KR2) aA 95 [.dat .bool b] (.tup []) ⟨True,b,uH 39 1⟩:=oE hvc
theorem QY(e:Int)(hvc:
 true/\(True->(true->e=e/\True)/\(true=false->1=e/\True))):
  evF (mkc KR2) aA 94 [.ifc 39 (.dat I e)] [] ⟨True,.dat I e,[]⟩:=oE hvc
theorem Lm(cs:LC)(ns os:LB)(fs:Lo)(ls:Ll)(ks:Lk)(hvc:
 let c1:=(cs,ns,os,fs,ls,ks);true/\(True->True/\Ea (Df (fA c1)) 0=aO c1/\True)):
  evF (mkc KR2) aA 47 [.ip N (cs,ns,os,fs,ls,ks)] [] ⟨True,.dat .bool (aO (cs,ns,os,fs,ls,ks)),[]⟩:=oE hvc
theorem Lr(o:Int)(cs:LC)(ns os:LB)(fs:Lo)(ls:Ll)(ks:Lk)(hvc:
 let c1:=(cs,ns,os,fs,ls,ks);let c2:=(Du fs (Dc o) (ByteArray.mk #[],(0:Int),(0:Int),(0:Int),(0:Int),(0:Int),Dt ByteArray)).2.2.1;let c3:=Du cs (Dc c2) ((0:Int),Dt Bool,Dt Int);let c4:=aj c1 o;true/\(iT c1 o->0<=o/\o<Df fs/\0<=c2/\c2<Df cs/\1=1/\0=0/\1=1/\0=0/\c3.1=c4.1/\c3.2.1=c4.2.1/\c3.2.2=c4.2.2/\True)):
  evF (mkc KR2) aA 92 [.ip N (cs,ns,os,fs,ls,ks),.dat I o] [] ⟨iT (cs,ns,os,fs,ls,ks) o,cal (aj (cs,ns,os,fs,ls,ks) o).1 (aj (cs,ns,os,fs,ls,ks) o).2.1 (aj (cs,ns,os,fs,ls,ks) o).2.2,[]⟩:=oE hvc
theorem Lq(z m t:Int)(w:List Bool)(h:Li)(hvc:
 let c1:=(z,w,h);let c2:=Dp m (KC z t);let c3:=fC z t+1;let c4:=fL w h c3;let c5:=Ec c4 0;let c6:=dV c1 m t;let c7:=ic c1 m t;let c8:=eW w h c3;let c9:=fL w h (fC z t);let c10:=Ec c9 0;let c11:=eW w h (fC z t);true/\(tZ c1 m t->ga z w h t/\(c2->inR .i64 c3/\Qj z w h c3/\(c5->0=c6/\c4=c7/\True)/\(c5=false->k7 z w h c8 m/\cL z c8 m=c6/\0=c7/\True))/\(c2=false->Qj z w h (fC z t)/\(c10->0=c6/\c9=c7/\True)/\(c10=false->k7 z w h c11 m/\cL z c11 m=c6/\0=c7/\True)))):
  evF (mkc KR2) aA 91 [cal z w h,.dat I m,.dat I t] [] ⟨tZ (z,w,h) m t,.tup [.dat I (dV (z,w,h) m t),.dat I (ic (z,w,h) m t)],[]⟩:=oE hvc
theorem Lp(o t:Int)(cs:LC)(ns os:LB)(fs:Lo)(ls:Ll)(ks:Lk)(hvc:
 let c1:=(cs,ns,os,fs,ls,ks);let c2:=(Du fs (Dc o) (ByteArray.mk #[],(0:Int),(0:Int),(0:Int),(0:Int),(0:Int),Dt ByteArray)).2.2.2.2;let c3:=c2.1*c2.2.1;let c4:=t+c3;true/\(fx c1 o t->0<=o/\o<Df fs/\0<=o/\o<Df fs/\inR .i64 c3/\inR .i64 c4/\c4=ay c1 o t/\True)):
  evF (mkc KR2) aA 166 [.ip N (cs,ns,os,fs,ls,ks),.dat I o,.dat I t] [] ⟨fx (cs,ns,os,fs,ls,ks) o t,.dat I (ay (cs,ns,os,fs,ls,ks) o t),[]⟩:=oE hvc
def Y7(n:Net)(nx:Lj): Ann:=⟨λid s=>match id with
 | 4=>some {α:=Int,inv:=λk=>Hl n nx k,st:=λk=>put s [(19,.dat I k)],μ:=λk=>Dc (Dh (Df nx) k)}
 | 9=>match s.sig.T 19,s.sig.T 32 with
  | .dat (.int .i64) o,.dat (.sl (.int .i64)) row=>some {α:=Int,inv:=λk=>Tf n o row k,st:=λk=>put s [(34,.dat I k)],μ:=λk=>Dc (Dh (Df row) k)}
  | _,_=>none
 | _=>none,λ_ _=>none,λ_ _=>none⟩
def KR3: Kt:=kOr 89 (az [.val I,.val I] (λ_=>True) λ(i,l,_)=>.dat .bool (bP i l)) <|
 kOr 90 (az [.val I] (λ_=>True) λ(t,_)=>.dat .bool (bw t)) <|
 kOr 47 (az [.ptr N] (λ_=>True) λ(n,_)=>.dat .bool (aO n)) <|
 kOr 92 (az [.ptr N,.val I] (λ(n,o,_)=>iT n o) λ(n,o,_)=>cal (aj n o).1 (aj n o).2.1 (aj n o).2.2) <|
 kOr 91 (az [.row C,.val I,.val I] (λ(c,m,t,_)=>tZ c m t) λ(c,m,t,_)=>.tup [.dat I (dV c m t),.dat I (ic c m t)]) <|
 kOr 166 (az [.ptr N,.val I,.val I] (λ(n,o,t,_)=>fx n o t) λ(n,o,t,_)=>.dat I (ay n o t)) <|
 kOr 97 (az [.val I,.val I] (λ(_,e,_)=>True/\isZero e=true) λ(v,_,_)=>.dat I v) <|
 kOr 95 (az [.val .bool] (λ(b,_)=>True/\b=true) λ_=>.tup []) KR2
theorem IJ(nx:Lj)(cs:LC)(ns os:LB)(fs:Lo)(ls:Ll)(ks:Lk)(hvc:
 let c1:=Df fs;let c2:=Ec (Df nx) c1;let c3:=(cs,ns,os,fs,ls,ks);let c4:=lr c3 nx;let c5:=Df ls;true/\(bZ nx->(c2->false=c4/\True)/\(c2=false->(∃x,Hl c3 nx x/\c3=c3/\nx=nx/\Df nx=Df nx/\0=x/\True)/\∀(x:Int),let c6:=Dp x (Df nx);let c7:=Du nx (Dc x) [];let c8:=Df c7;let c9:=Ec c8 c1;let c10:=x+1;Hl c3 nx x->(c6->0<=x/\x<Df nx/\(c9->false=c4/\True)/\(c9=false->(∃x_4,Tf c3 x c7 x_4/\c3=c3/\x=x/\c7=c7/\nx=nx/\Df nx=Df nx/\x=x/\c7=c7/\c8=c8/\0=x_4/\True)/\∀(x_4:Int),let c11:=Du c7 (Dc x_4) 0;let c12:=Ec c11 (-1);let c17:=c12->c12->c12;let c13:=Di (bP c11 c5);let c18:=Di c13;let c16:=Dk c12 c18->Dk c12 c18->Dk c12 c18;let c14:=Dz c12 (Dz c13 true (Ec (Du ls (Dc c11) (ByteArray.mk #[],(0:Int),(0:Int),(0:Int),(0:Int),(0:Int))).2.1 x)) false;let c15:=x_4+1;Tf c3 x c7 x_4->(Dp x_4 c8->0<=x_4/\x_4<c8/\c17/\c17/\c17/\c17/\c17/\c17/\(c12->True)/\c17/\c17/\c16/\c16/\c16/\c16/\c16/\(Dk c12 c18->0<=c11)/\(Dk c12 c18->c11<c5)/\c16/\c16/\c16/\c16/\c17/\(c12->Dk c12 c18->Dk c12 c18)/\(Dk true c12->c12)/\(c14->false=c4/\True)/\(c14=false->inR .i64 c15/\∃y,Tf c3 x c7 y/\(c3=c3/\x=x/\c7=c7/\nx=nx/\Df nx=Df nx/\x=x/\c7=c7/\c8=c8/\c15=y/\True)/\Dc (c8-y)<Dc (c8-x_4)))/\(Dp x_4 c8=false->inR .i64 c10/\∃y,Hl c3 nx y/\(c3=c3/\nx=nx/\Df nx=Df nx/\c10=y/\True)/\Dc (Df nx-y)<Dc (Df nx-x))))/\(c6=false->true=c4/\True)))):
  evF (mkc KR3) (lvA [(4,[0,4,5,6,8,17,18,19,32,33,34]),(9,[0,4,5,6,8,17,18,19,32,33,34])] (Y7 (cs,ns,os,fs,ls,ks) nx)) 48 [.ip N (cs,ns,os,fs,ls,ks),.dat M nx] [] ⟨bZ nx,.dat .bool (lr (cs,ns,os,fs,ls,ks) nx),[]⟩:=oE hvc
theorem IK(l t:Int)(cs:LC)(ns os:LB)(fs:Lo)(ls:Ll)(ks:Lk)(hvc:
 let c1:=(cs,ns,os,fs,ls,ks);let c2:=nL c1 l t;let c3:=mJ c1 l t;let c4:=(Du ls (Dc l) (ByteArray.mk #[],(0:Int),(0:Int),(0:Int),(0:Int),(0:Int))).2;let c8:=(aj c1 c4.1);true/\(KD c1 l->True/\(Di (bw t)->0=c2/\1=c3/\True)/\(Di (bw t)=false->0<=l/\l<Df ls/\iT c1 c4.1/\0<=l/\l<Df ls/\tZ c8 c4.2.2.1 t/\dV c8 c4.2.2.1 t=c2/\ic c8 c4.2.2.1 t=c3/\True))):
  evF (mkc KR3) aA 165 [.ip N (cs,ns,os,fs,ls,ks),.dat I l,.dat I t] [] ⟨KD (cs,ns,os,fs,ls,ks) l,.tup [.dat I (nL (cs,ns,os,fs,ls,ks) l t),.dat I (mJ (cs,ns,os,fs,ls,ks) l t)],[]⟩:=oE hvc
theorem uV: ak Tryz.prog G0 KR2:=ai (ag λ((z,w,h),d,_)=>aBo z w h d) aDd
theorem dZ(cs:LC)(ns os:LB)(fs:Lo)(ls:Ll)(ks:Lk){o:Int}(h:iT (cs,ns,os,fs,ls,ks) o): 0<=(cj (cs,ns,os,fs,ls,ks) o).2.2.1/\(cj (cs,ns,os,fs,ls,ks) o).2.2.1<cs.length/\ax (aj (cs,ns,os,fs,ls,ks) o).1 (aj (cs,ns,os,fs,ls,ks) o).2.1 (aj (cs,ns,os,fs,ls,ks) o).2.2=true/\1<=(cj (cs,ns,os,fs,ls,ks) o).2.2.2.2.1/\(cj (cs,ns,os,fs,ls,ks) o).2.2.2.2.1<=4/\1<=(cj (cs,ns,os,fs,ls,ks) o).2.2.2.2.2.1/\(cj (cs,ns,os,fs,ls,ks) o).2.2.2.2.2.1<=240:=by
 obtain⟨hno,l0,l1⟩:=h;have l1:o<fs.length:=l1;have ho:cj (cs,ns,os,fs,ls,ks) o∈fs:=by
  show fs.getD o.toNat _∈fs;rw[qA,qB (by omega),qQ];exact wM _
 have gc:=(fK cs ns os fs ls ks hno).2.2.2 _ ho;unfold dt bP dW at gc;simp only[qC,qE]at gc;obtain⟨⟨⟨⟨⟨⟨_,g1⟩,_⟩,_⟩,_⟩,g2⟩,g3⟩:=gc;have g1:0<=(cj (cs,ns,os,fs,ls,ks) o).2.2.1/\(cj (cs,ns,os,fs,ls,ks) o).2.2.1<(cs.length:Int):=g1;have hc:=((rL (by decide)).1 (je cs ns os fs ls ks hno).2.1).2.2.2;have hcl:(aC cs ns).length=cs.length:=by unfold aC;simp
 have:=hc (cj (cs,ns,os,fs,ls,ks) o).2.2.1.toNat (by omega);unfold br at this;rw[mB (λc:Int×List Bool×Li=>ax c.1 c.2.1 c.2.2) cs _ (0,[],[]) false (by omega)]at this;exact⟨g1.1,g1.2,this,g2.1,g2.2,g3.1,g3.2⟩
theorem wa(cs:LC)(ns os:LB)(fs:Lo)(ls:Ll)(ks:Lk){l:Int}(h:KD (cs,ns,os,fs,ls,ks) l): 0<=cn (cs,ns,os,fs,ls,ks) l/\cn (cs,ns,os,fs,ls,ks) l<fs.length/\0<=yo (cs,ns,os,fs,ls,ks) l/\yo (cs,ns,os,fs,ls,ks) l<fs.length/\0<=yp (cs,ns,os,fs,ls,ks) l/\yp (cs,ns,os,fs,ls,ks) l<=1439/\1<=fY (cs,ns,os,fs,ls,ks) l/\fY (cs,ns,os,fs,ls,ks) l<=5000:=by
 obtain⟨hno,l0,l1⟩:=h;have l1:l<ls.length:=l1;have hl:pF (cs,ns,os,fs,ls,ks) l∈ls:=by
  show ls.getD l.toNat _∈ls;rw[qA,qB (by omega),qQ];exact wM _
 obtain⟨g1,g2,g3,g4,g5,g6,g7,g8⟩:=ji ((lN cs ns os fs ls ks hno).2.2.2 _ hl);exact⟨g1,g2,g3,g4,g6.1,g6.2,g7,g8⟩
theorem gq{w:List Bool}{h:Li}{d:Int}(he:fL w h d=0): d<=eW w h d/\eW w h d<d+60/\bF w h (eW w h d)=true:=by
 unfold fL at he;unfold eW;cases hn:mP w h d with
 | none=>rw[hn]at he;simp at he
 | some y=>
  have:y∈di w h d 60:=qAt (by unfold mP at hn;rw[hn];rfl);exact oz this
theorem V1{c:Int×List Bool×Li}{m t:Int}(hp:tZ c m t): -1000<=d0F c m t/\d0F c m t<=100000:=by
 obtain⟨hv,h1,h2,h3,h4⟩:=hp;obtain⟨⟨v1,v2,_,_⟩,_⟩:=cA.1 hv;unfold d0F fC;split<;>omega
theorem gv{d:Int}(h1:-1000000<=d)(h2:d<=1000000): bM d=true:=by
 unfold bM;exact qV ⟨h1,h2⟩
theorem MC(i l:Int): af Tryz.prog G0 89 [.dat I i,.dat I l] [] ⟨True,.dat .bool (bP i l),[]⟩:=by
 refine ae (c:=mkc KR2) uV aJ hm (II i l ⟨rfl,λ_=>⟨λh _=>h,λh _=>h,λh=>by simpa[Dk]using h,?_,trivial⟩⟩);unfold bP;simp only[Dz,Ed,Dp,kQ];by_cases h:0<=i<;>simp[h]
theorem I5(t:Int): af Tryz.prog G0 90 [.dat I t] [] ⟨True,.dat .bool (bw t),[]⟩:=by
 refine ae (c:=mkc KR2) uV aJ hm (DK t ⟨rfl,λ_=>⟨λh _=>h,λh=>by simpa[Dk]using h,?_,trivial⟩⟩);unfold bw;simp only[Dz,Ed,Eh,kQ];by_cases h:0<=t<;>simp[h]
theorem MB(v e:Int): af Tryz.prog G0 97 [.dat I v,.dat I e] [] ⟨True/\isZero e=true,.dat I v,[]⟩/\da Tryz.prog G0 97 [.dat I v,.dat I e] [] ⟨True,isZero e,uH 39 e⟩:=by
 refine dF (c:=mkc KR2) uV aJ hm qu (QT v e ⟨rfl,λ_=>⟨λh=>⟨λ_=>⟨trivial,λ_=>⟨?_,rfl,rfl⟩⟩,trivial⟩,λh=>⟨?_,rfl,trivial⟩⟩⟩)
 .unfold isZero;simpa[Ec]using h
 .unfold isZero;simpa[Ec]using h
theorem As(b:Bool): af Tryz.prog G0 95 [.dat .bool b] [] ⟨True/\b=true,.tup [],[]⟩/\da Tryz.prog G0 95 [.dat .bool b] [] ⟨True,b,uH 39 1⟩:=by
 refine dF (c:=mkc KR2) uV aJ hm qu (IL b ⟨rfl,λ_=>⟨λh=>⟨λ_=>⟨trivial,λ_=>⟨?_,rfl,rfl⟩⟩,trivial⟩,λh=>⟨?_,trivial⟩⟩⟩)
 .simpa[Di]using h
 .simpa[Di]using h
theorem XP(e:Int): af Tryz.prog G0 94 [.ifc 39 (.dat I e)] [] ⟨True,.dat I e,[]⟩:=
 ae (c:=mkc KR2) uV aJ hm (QY e ⟨rfl,λ_=>⟨λ_=>⟨rfl,trivial⟩,λh=>by cases h⟩⟩)
theorem vf{n:Net}: aO n=decide (((fA n).length:Int)=0):=by
 unfold aO;cases fA n with
 | nil=>rfl
 | cons a l=>simp;omega
theorem R2(cs:LC)(ns os:LB)(fs:Lo)(ls:Ll)(ks:Lk): af Tryz.prog G0 47 [.ip N (cs,ns,os,fs,ls,ks)] [] ⟨True,.dat .bool (aO (cs,ns,os,fs,ls,ks)),[]⟩:=
 ae (c:=mkc KR2) uV aJ hm (Lm cs ns os fs ls ks ⟨rfl,λ_=>⟨trivial,by rw[vf];rfl,trivial⟩⟩)
theorem Si(o:Int)(cs:LC)(ns os:LB)(fs:Lo)(ls:Ll)(ks:Lk): af Tryz.prog G0 92 [.ip N (cs,ns,os,fs,ls,ks),.dat I o] [] ⟨iT (cs,ns,os,fs,ls,ks) o,cal (aj (cs,ns,os,fs,ls,ks) o).1 (aj (cs,ns,os,fs,ls,ks) o).2.1 (aj (cs,ns,os,fs,ls,ks) o).2.2,[]⟩:=by
 refine ae (c:=mkc KR2) uV aJ hm (Lr o cs ns os fs ls ks ⟨rfl,λhp=>?_⟩);obtain⟨g1,g2,_⟩:=dZ cs ns os fs ls ks hp;exact⟨hp.2.1,hp.2.2,g1,g2,rfl,rfl,rfl,rfl,rfl,rfl,rfl,trivial⟩
theorem R9(m t:Int)(c:C.den): af Tryz.prog G0 91 [cal c.1 c.2.1 c.2.2,.dat I m,.dat I t] [] ⟨tZ c m t,.tup [.dat I (dV c m t),.dat I (ic c m t)],[]⟩:=by
 obtain⟨z,w,h⟩:=c;refine ae (c:=mkc KR2) uV aJ hm (Lq z m t w h ⟨rfl,λhp=>?_⟩);obtain⟨b1,b2⟩:=V1 hp;obtain⟨hv,h1,h2,h3,h4⟩:=id hp;simp only[qc,qd,Ec,Dp]
 have key:∀d,d=d0F (z,w,h) m t->Qj z w h d/\(¬fL w h d=0->(0:Int)=dV (z,w,h) m t/\fL w h d=ic (z,w,h) m t)/\(fL w h d=0->k7 z w h (eW w h d) m/\cL z (eW w h d) m=dV (z,w,h) m t/\(0:Int)=ic (z,w,h) m t):=by
  rintro d rfl;refine⟨⟨hv,gv (by omega) (by omega)⟩,λh0=>⟨(if_neg h0).symm,rfl⟩,λh0=>?_⟩;obtain⟨q1,q2,q3⟩:=gq h0;exact⟨⟨hv,gv (by omega) (by omega),h1,h2⟩,(if_pos h0).symm,h0.symm⟩
 refine⟨⟨hv,by omega,by omega⟩,λhlt=>?_,λhge=>?_⟩
 .have e:fC z t+1=d0F (z,w,h) m t:=(if_pos hlt).symm;obtain⟨q1,q2,q3⟩:=key _ e;exact⟨by unfold inR;simp only;omega,q1,q2,q3⟩
 .have e:fC z t=d0F (z,w,h) m t:=(if_neg hge).symm;exact key _ e
theorem R7(o t:Int)(cs:LC)(ns os:LB)(fs:Lo)(ls:Ll)(ks:Lk): af Tryz.prog G0 166 [.ip N (cs,ns,os,fs,ls,ks),.dat I o,.dat I t] [] ⟨fx (cs,ns,os,fs,ls,ks) o t,.dat I (ay (cs,ns,os,fs,ls,ks) o t),[]⟩:=by
 refine ae (c:=mkc KR2) uV aJ hm (Lp o t cs ns os fs ls ks ⟨rfl,λhp=>?_⟩);obtain⟨ho,b1,b2⟩:=hp;obtain⟨_,_,_,g1,g2,g3,g4⟩:=dZ cs ns os fs ls ks ho;obtain⟨x,hx⟩:∃x,x=(cj (cs,ns,os,fs,ls,ks) o).2.2.2.2.1:=⟨_,rfl⟩;obtain⟨y,hy⟩:∃y,y=(cj (cs,ns,os,fs,ls,ks) o).2.2.2.2.2.1:=⟨_,rfl⟩;rw[<- hx]at g1 g2;rw[<- hy]at g3 g4;have m1:0<=x*y:=qAb (by omega) (by omega)
 have m2:x*y<=4*240:=xI g2 g4 (by omega) (by omega);have e:ay (cs,ns,os,fs,ls,ks) o t=t+x*y:=by rw[hx,hy];rfl
 refine⟨ho.2.1,ho.2.2,ho.2.1,ho.2.2,?_,?_,rfl,trivial⟩
 .show inR .i64 ((cj (cs,ns,os,fs,ls,ks) o).2.2.2.2.1*(cj (cs,ns,os,fs,ls,ks) o).2.2.2.2.2.1);rw[<- hx,<- hy];unfold inR;simp only;omega
 .show inR .i64 (t+(cj (cs,ns,os,fs,ls,ks) o).2.2.2.2.1*(cj (cs,ns,os,fs,ls,ks) o).2.2.2.2.2.1);rw[<- hx,<- hy];unfold inR;simp only;omega
end Go.Eng.Sv
set_option maxRecDepth 100000
namespace Go.Eng.Sv
open Go.Proofs
theorem aDc: ak Tryz.prog G0 KR3:=ai (ag λ(i,l,_)=>MC i l)<|ai (ag λ(t,_)=>I5 t)<|ai (ag λ((cs,ns,os,fs,ls,ks),_)=>R2 cs ns os fs ls ks) <|
 ai (ag λ((cs,ns,os,fs,ls,ks),o,_)=>Si o cs ns os fs ls ks)<|ai (ag λ(c,m,t,_)=>R9 m t c)<|ai (ag λ((cs,ns,os,fs,ls,ks),o,t,_)=>R7 o t cs ns os fs ls ks) <|
 ai (ag λ(v,e,_)=>(MB v e).1)<|ai (ag λ(b,_)=>(As b).1) uV
theorem sb{n:Net}{nx:Lj}(hl:(nx.length:Int)=n.2.2.2.1.length): lr n nx=true↔∀i:Nat,(i:Int)<nx.length->rowOk n i (nx.getD i [])=true:=by
 unfold lr;simp only[qC,qE,qM,qX];exact⟨λh i hi=>h.2 i (by omega),λh=>⟨hl,λi hi=>h i (by omega)⟩⟩
theorem x9{n:Net}{o:Int}{row:Li}(hl:(row.length:Int)=n.2.2.2.1.length): rowOk n o row=true↔∀i:Nat,(i:Int)<row.length->aV n o (row.getD i 0)=true:=by
 unfold rowOk;simp only[qC,qE,qM];refine⟨λh i hi=>h.2 _ ?_,λh=>⟨hl,λx hx=>?_⟩⟩
 .rw[qA,qB (by omega),qQ];exact wM _
 .obtain⟨i,hi,rfl⟩:=wX.1 hx;have:=h i (by omega);rw[qA,qB hi,qQ]at this;exact this
theorem UY(n:Net)(o l:Int): Dz (Ec l (-1)) (Dz (Di (bP l (Df n.2.2.2.2.1))) true (Ec (cn n l) o)) false=!aV n o l:=by
 unfold aV;simp only[Dz,Ec,Di,Df];by_cases h:l=-1
 .simp[h]
 .have hb:(l != -1)=true:=by simpa using h
  rw[hb];cases hi:bP l n.2.2.2.2.1.length
  .simp[h]
  .by_cases hf:cn n l=o<;>simp[h,hf]
theorem MD(nx:Lj)(cs:LC)(ns os:LB)(fs:Lo)(ls:Ll)(ks:Lk): af Tryz.prog G0 48 [.ip N (cs,ns,os,fs,ls,ks),.dat M nx] [] ⟨bZ nx,.dat .bool (lr (cs,ns,os,fs,ls,ks) nx),[]⟩:=by
 refine ae (c:=mkc KR3) aDc aJ hm (IJ nx cs ns os fs ls ks ⟨rfl,λhf=>?_⟩);have ec:∀l x:Int,Dz (Ec l (-1)) (Dz (Di (bP l (Df ls))) true (Ec (Du ls (Dc l) (ByteArray.mk (Dt UInt8).toArray,(0:Int),(0:Int),(0:Int),(0:Int),(0:Int))).snd.fst x)) false=!aV (cs,ns,os,fs,ls,ks) x l:=λl x=>UY (cs,ns,os,fs,ls,ks) x l
 simp only[ec];simp only[qc,Dk,Di,qd,Ec,Dp,Df,Dc,Du];obtain⟨hf1,hf2⟩:=hf;have hz:∀x l:Int,¬l=-1/\bP l ls.length=true->0<=l/\l<ls.length:=λx l h=>by
  have:=h.2;unfold bP at this;simpa using this
 have hr:∀x:Int,0<=x->x<nx.length->(nx.getD x.toNat []).length<=1000000:=λx h0 h1=>hf2 _ (by
  rw[qA,qB (by omega),qQ];exact wM _)
 have hct:∀x:Int,0<=x->((x.toNat:Nat):Int)=x:=λx h=>by omega
 refine⟨λhne=>?_,λhe=>⟨⟨qL _,by omega,he,λi h=>by omega⟩,λx hx=>⟨λhlt=>⟨hx.1,hlt,λhr'=>?_,λhr'=>⟨⟨qL _,by omega,hr',λi h=>by omega⟩,λy hy=>⟨λhlty=>⟨hy.1,hlty,λh=>(hz x _ h).1,λh=>(hz x _ h).2,λhc=>?_,λhc=>?_⟩,λhgey=>?_⟩⟩⟩,λhge=>?_⟩⟩⟩
 .unfold lr;rw[vH hne];rfl
 .refine(kP.2 λht=>hr' ?_).symm;have h:=(sb he).1 ht x.toNat (by have:=hx.1;omega);unfold rowOk at h;simp only[qC,qE]at h;exact h.1
 .refine(kP.2 λht=>?_).symm;have h:=(sb he).1 ht x.toNat (by have:=hx.1;omega);rw[hct x hx.1]at h;have h2:=(x9 (n:=(cs,ns,os,fs,ls,ks)) hr').1 h y.toNat (by have:=hy.1;omega);rw[h2]at hc;cases hc
 .have h1:=hr x hx.1 hlt;refine⟨by unfold inR;simp only;have:=hy.1;omega,y+1,⟨by have:=hy.1;omega,by omega,hr',λi hi=>?_⟩,rfl,by have:=hy.1;omega⟩;by_cases h:(i:Int)<y
  .exact hy.2.2.2 i h
  .have:i=y.toNat:=by omega
   rw[this];exact hc
 .refine⟨by unfold inR;simp only;have:=hx.1;omega,x+1,⟨by have:=hx.1;omega,by omega,he,λi hi=>?_⟩,rfl,by have:=hx.1;omega⟩;by_cases h:(i:Int)<x
  .exact hx.2.2.2 i h
  .have:i=x.toNat:=by have:=hx.1;omega
   rw[this,hct x hx.1];exact(x9 (n:=(cs,ns,os,fs,ls,ks)) hr').2 λj hj=>hy.2.2.2 j (by omega)
 .exact((sb he).2 λi hi=>hx.2.2.2 i (by omega)).symm
theorem ME(l t:Int)(cs:LC)(ns os:LB)(fs:Lo)(ls:Ll)(ks:Lk): af Tryz.prog G0 165 [.ip N (cs,ns,os,fs,ls,ks),.dat I l,.dat I t] [] ⟨KD (cs,ns,os,fs,ls,ks) l,.tup [.dat I (nL (cs,ns,os,fs,ls,ks) l t),.dat I (mJ (cs,ns,os,fs,ls,ks) l t)],[]⟩:=by
 refine ae (c:=mkc KR3) aDc aJ hm (IK l t cs ns os fs ls ks ⟨rfl,λhp=>?_⟩);simp only[qc,Di,Df,Dc,Du];refine⟨λh=>?_,λh=>?_⟩
 .unfold nL mJ;rw[h];exact⟨rfl,rfl⟩
 .obtain⟨g1,g2,g3,g4,g5,g6,g7,g8⟩:=wa cs ns os fs ls ks hp;have ho:iT (cs,ns,os,fs,ls,ks) (cn (cs,ns,os,fs,ls,ks) l):=⟨hp.1,g1,g2⟩;have hv:=(dZ cs ns os fs ls ks ho).2.2.1;have ht:0<=t/\t<=2000000:=wF h;have hf:tZ (aj (cs,ns,os,fs,ls,ks) (cn (cs,ns,os,fs,ls,ks) l)) (yp (cs,ns,os,fs,ls,ks) l) t:=⟨hv,g5,by omega,by omega,by omega⟩
  have e1:nL (cs,ns,os,fs,ls,ks) l t=dV (aj (cs,ns,os,fs,ls,ks) (cn (cs,ns,os,fs,ls,ks) l)) (yp (cs,ns,os,fs,ls,ks) l) t:=if_pos h;have e2:mJ (cs,ns,os,fs,ls,ks) l t=ic (aj (cs,ns,os,fs,ls,ks) (cn (cs,ns,os,fs,ls,ks) l)) (yp (cs,ns,os,fs,ls,ks) l) t:=if_pos h;exact⟨hp.2.1,hp.2.2,ho,hp.2.1,hp.2.2,hf,e1.symm,e2.symm⟩
end Go.Eng.Sv
set_option maxRecDepth 100000
noncomputable section
namespace Go.Eng.Sv
open Go.Proofs
def nxt(nx:Lj)(o d:Int): Int:=(nx.getD o.toNat []).getD d.toNat 0
def iS(n:Net)(nx:Lj)(to:Int): Nat->Int->Int->List Stop×Int
 | 0,o,t=>if o=to then([(o,t,-1,-1)],0)else if nxt nx o to=-1 then([],170)else if mJ n (nxt nx o to) (ay n o t)=0 then([],170)else([],mJ n (nxt nx o to) (ay n o t))
 | k+1,o,t=>if o=to then([(o,t,-1,-1)],0)else if nxt nx o to=-1 then([],170)else if mJ n (nxt nx o to) (ay n o t)=0 then
   if(iS n nx to k (yo n (nxt nx o to)) (nL n (nxt nx o to) (ay n o t)+fY n (nxt nx o to))).2=0 then
    ((o,t,nL n (nxt nx o to) (ay n o t),nxt nx o to)::(iS n nx to k (yo n (nxt nx o to)) (nL n (nxt nx o to) (ay n o t)+fY n (nxt nx o to))).1,0)
   else([],(iS n nx to k (yo n (nxt nx o to)) (nL n (nxt nx o to) (ay n o t)+fY n (nxt nx o to))).2)
  else([],mJ n (nxt nx o to) (ay n o t))
def lj(n:Net)(nx:Lj)(o to t:Int): List Stop:=(iS n nx to 19 o t).1
def ig(n:Net)(nx:Lj)(o to t:Int): Int:=(iS n nx to 19 o t).2
def Am(n:Net)(nx:Lj)(o to t:Int): Prop:=aO n=true/\lr n nx=true/\0<=o/\o<n.2.2.2.1.length/\0<=to/\to<n.2.2.2.1.length/\0<=t/\t<=2200000
def yg(d:List Stop)(r:List Stop×Int): List Stop×Int:=if r.2=0 then(d++r.1,0)else([],r.2)
def Vl(n:Net)(nx:Lj)(o0 to t0:Int)(x:List Stop×Int×Int): Prop:=Am n nx x.2.1 to x.2.2/\x.1.length<=19/\iS n nx to 19 o0 t0=yg x.1 (iS n nx to (19-x.1.length) x.2.1 x.2.2)
def wSt(x:List Stop×Int×Int): List Stop:=x.1++[(x.2.1,x.2.2,-1,-1)]
def aDm(n:Net)(nx:Lj)(o0 to t0:Int): Ann:=⟨λid s=>match id with
 | 3=>match s.sig.T 19 with
  | .buf nm _=>some {α:=List Stop×Int×Int,inv:=λx=>Vl n nx o0 to t0 x,st:=λx=>iE (put (flat s) [(11,.buf nm (Dj (wSt x))),(12,.dat I (Df x.1))]) nm (.buf 81 Stp (wSt x) []),μ:=λx=>Dc (Dh 20 (Df x.1))}
  | _=>none
 | _=>none,λ_ _=>none,λ_ _=>none⟩
def KR4: Kt:=kOr 48 (az [.ptr N,.val M] (λ(_,nx,_)=>bZ nx) λ(n,nx,_)=>.dat .bool (lr n nx)) <|
 kOr 165 (az [.ptr N,.val I,.val I] (λ(n,l,_)=>KD n l) λ(n,l,t,_)=>.tup [.dat I (nL n l t),.dat I (mJ n l t)]) KR3
def KPm: KPt:=pOr 97 (uR [.val I,.val I] λ(_,e,_)=>⟨True,isZero e,uH 39 e⟩) Go.Eng.noP
noncomputable def mkp(K:Kt)(mb:Tmp->Bool)(KP:KPt)(pf:FuncId->Bool): Cfg:=⟨Tryz.prog,G0,K,mb,KI0,false,KP,pf⟩
def cW: Cfg:=mkp KR4 (λt=>t==19) KPm (λf=>f==97)
theorem QR(nx:Lj)(o to t:Int)(cs:LC)(ns os:LB)(fs:Lo)(ls:Ll)(ks:Lk)(hvc:
 let c1:=(cs,ns,os,fs,ls,ks);let c2:=((-1:Int),(-1:Int));let c3:=((0:Int),(0:Int),(0:Int),(0:Int));let c4:=ig c1 nx o to t;let c5:=isZero c4;let c6:=chainOf (Value.iface 39 (Value.int .i64 c4));let c7:=(ByteArray.mk #[],(0:Int),c3);true/\(Am c1 nx o to t->(∃(x:List Stop×Int×Int),Vl c1 nx o to t x/\c1=c1/\nx=nx/\o=o/\to=to/\t=t/\Value.slice none 0 0=Value.slice none 0 0/\1=Dj (wSt x)/\0=Df x.1/\o=o/\t=t/\o=o/\t=t/\(-1:Int)=(-1:Int)/\(-1:Int)=(-1:Int)/\1=1/\[(o,t,c2)]=wSt x/\True)/\∀(x:List (Int×Int×Int×Int)×Int×Int),let c8:=Dj (wSt x);let c9:=Df x.1;let c10:=Dc c9;let c11:=Du (wSt x) c10 c3;let c12:=c11.1;let c13:=Ec c12 to;let c14:=Du nx (Dc c12) [];let c15:=Du c14 (Dc to) 0;let c16:=Ea c15 (-1);let c17:=c11.2;let c18:=En (wSt x) c10 (c12,c17.1,c17.2.1,c15);let c19:=Du c18 c10 c3;let c20:=c19.1;let c21:=c19.2;let c22:=c21.1;let c23:=ay c1 c20 c22;let c24:=mJ c1 c15 c23;let c25:=isZero c24;let c26:=En c18 c10 (c20,c22,nL c1 c15 c23,c21.2.2);let c27:=Ea (Int.ofNat c8) 20;let c28:=(Du ls (Dc c15) c7).2.2;let c29:=(Du c26 c10 c3).2.2.1+c28.2.2.1;let c30:=[(c28.1,c29,c2)];let c31:=c8+Dj c30;let c32:=c9+1;
 Vl c1 nx o to t x->c8=c8/\0<=c9/\c9<Dx c8/\c8=c8/\c8=c8/\(c13->c8=c8/\0<=c9/\c9<Dx c8/\c8=c8/\c8=c8/\c8=c8/\0<=c12/\c12<Df nx/\0<=to/\to<Df c14/\(c16->(true->True/\(false=false->c5=false/\true/\chainOf (Value.iface 39 (Value.int .i64 (170:Int)))=c6))/\True)/\(c16=false->c8=c8/\c8=c8/\c8=c8/\Dj c18=c8/\Dj c18=c8/\Dj c18=c8/\Dj c18=c8/\Dj c18=c8/\Dj c18=c8/\fx c1 c20 c22/\KD c1 c15/\True/\(c25->Dj c18=c8/\Dj c18=c8/\Dj c18=c8/\Dj c18=c8/\Dj c18=c8/\Dj c18=c8/\fx c1 c20 c22/\KD c1 c15/\(True/\c25)/\Dj c18=c8/\Dj c18=c8/\Dj c18=c8/\Dj c26=c8/\(c27->(true->True/\(false=false->c5=false/\true/\chainOf (Value.iface 39 (Value.int .i64 (170:Int)))=c6))/\True)/\(c27=false->0<=c15/\c15<Df ls/\1=1/\0=0/\1=1/\1=1/\0=0/\Dj c26=c8/\Dj c26=c8/\Dj c26=c8/\1=1/\1=1/\0=0/\inR .i64 c29/\Dj c26=c8/\(c31*32)<=140737488355328/\c31<=9223372036854775807/\inR .i64 c32/\∃(y:List Stop×Int×Int),let c33:=Df y.1;Vl c1 nx o to t y/\(c1=c1/\nx=nx/\o=o/\to=to/\t=t/\Value.slice none 0 0=Value.slice none 0 0/\c31=Dj (wSt y)/\c32=c33/\o=o/\t=t/\o=o/\t=t/\(-1:Int)=(-1:Int)/\(-1:Int)=(-1:Int)/\1=1/\Ef c26 c30=wSt y/\True)/\Dc (20-c33)<Dc (20-c9)))/\(c25=false->c5=false/\true/\chainOf (Value.iface 39 (Value.int .i64 c24))=c6)))/\(c13=false->c5/\c8=c8/\wSt x=lj c1 nx o to t/\True))):
  evC cW (aDm (cs,ns,os,fs,ls,ks) nx o to t) 102 [.ip N (cs,ns,os,fs,ls,ks),.dat M nx,.dat I o,.dat I to,.dat I t] (.dat (.sl Stp) (lj (cs,ns,os,fs,ls,ks) nx o to t)) ⟨Am (cs,ns,os,fs,ls,ks) nx o to t,isZero (ig (cs,ns,os,fs,ls,ks) nx o to t),uH 39 (ig (cs,ns,os,fs,ls,ks) nx o to t)⟩:=oE hvc
theorem aFF: ak Tryz.prog G0 KR4:=ai (ag λ((cs,ns,os,fs,ls,ks),nx,_)=>MD nx cs ns os fs ls ks)<|ai (ag λ((cs,ns,os,fs,ls,ks),l,t,_)=>ME l t cs ns os fs ls ks) aDc
theorem Wm: bO Tryz.prog G0 KPm:=iH (jo λ(v,e,_)=>(MB v e).2) qu
theorem aDp(d:List Stop)(o t:Int)(z:Stop): (wSt (d,o,t)).getD d.length z=(o,t,-1,-1):=by simp[wSt]
theorem aDo(d:List Stop)(o t:Int)(v:Stop): (wSt (d,o,t)).set d.length v=d++[v]:=by simp[wSt]
theorem aEU(d:List Stop)(v z:Stop): (d++[v]).getD d.length z=v:=by simp[]
theorem aET(d:List Stop)(v w:Stop): (d++[v]).set d.length w=d++[w]:=by simp
theorem fT(d:List Stop)(o t:Int): (wSt (d,o,t)).length=d.length+1:=by simp[wSt]
theorem b9{e:Int}: isZero e=true↔e=0:=by simp[isZero]
theorem cB{e:Int}: isZero e=false↔e≠0:=by simp[isZero]
theorem aX(cs:LC)(ns os:LB)(fs:Lo)(ls:Ll)(ks:Lk)(h:aO (cs,ns,os,fs,ls,ks)=true): noF (cs,ns,os,fs,ls,ks)=true:=((wx cs ns os fs ls ks).1 (wO.1 h)).1
theorem gK{c:Int×List Bool×Li}{m t:Int}(hv:ax c.1 c.2.1 c.2.2=true)(he:ic c m t=0)(m0:0<=m)(m1:m<=1439): t<=dV c m t/\dV c m t<=t+90000:=by
 obtain⟨z,w,h⟩:=c;obtain⟨⟨v1,v2,_,_⟩,_⟩:=cA.1 hv;have he':fL w h (d0F (z,w,h) m t)=0:=he;obtain⟨q1,q2,_⟩:=gq he';have e:dV (z,w,h) m t=cL z (eW w h (d0F (z,w,h) m t)) m:=if_pos he';rw[e];unfold cL;generalize eW w h (d0F (z,w,h) m t)=nd at *;have hd:d0F (z,w,h) m t=if m<(t+z)%1440 then(t+z)/1440+1 else(t+z)/1440:=rfl
 rw[hd]at q1 q2;simp only at v1 v2;split at q1<;>rename_i hs<;>simp only[hs,xU,yQ]at q2<;>omega
theorem pQ(cs:LC)(ns os:LB)(fs:Lo)(ls:Ll)(ks:Lk){l t:Int}(hl:KD (cs,ns,os,fs,ls,ks) l)(he:mJ (cs,ns,os,fs,ls,ks) l t=0): 0<=t/\t<=2000000/\t<=nL (cs,ns,os,fs,ls,ks) l t/\nL (cs,ns,os,fs,ls,ks) l t<=t+90000:=by
 obtain⟨g1,g2,g3,g4,g5,g6,g7,g8⟩:=wa cs ns os fs ls ks hl;have ho:iT (cs,ns,os,fs,ls,ks) (cn (cs,ns,os,fs,ls,ks) l):=⟨hl.1,g1,g2⟩;have hv:=(dZ cs ns os fs ls ks ho).2.2.1;have hk:bw t=true:=by
  cases h:bw t with
  | true=>rfl
  | false=>unfold mJ at he;rw[h]at he;cases he
 have ht:0<=t/\t<=2000000:=wF hk;have e1:nL (cs,ns,os,fs,ls,ks) l t=dV (aj (cs,ns,os,fs,ls,ks) (cn (cs,ns,os,fs,ls,ks) l)) (yp (cs,ns,os,fs,ls,ks) l) t:=if_pos hk;have e2:mJ (cs,ns,os,fs,ls,ks) l t=ic (aj (cs,ns,os,fs,ls,ks) (cn (cs,ns,os,fs,ls,ks) l)) (yp (cs,ns,os,fs,ls,ks) l) t:=if_pos hk;rw[e2]at he;rw[e1];exact⟨ht.1,ht.2,gK hv he g5 g6⟩
theorem qa{n:Net}{nx:Lj}{to o t:Int}(k:Nat)(h:o=to): iS n nx to k o t=([(o,t,-1,-1)],0):=by cases k<;>exact if_pos h
theorem iy{n:Net}{nx:Lj}{to o t:Int}(k:Nat)(h:o≠to)(h1:nxt nx o to=-1): iS n nx to k o t=([],170):=by cases k<;>(unfold iS;rw[if_neg h,if_pos h1])
theorem jS{n:Net}{nx:Lj}{to o t:Int}(k:Nat)(h:o≠to)(h1:nxt nx o to≠-1)(h2:mJ n (nxt nx o to) (ay n o t)≠0): iS n nx to k o t=([],mJ n (nxt nx o to) (ay n o t)):=by cases k<;>(unfold iS;rw[if_neg h,if_neg h1,if_neg h2])
theorem jR{n:Net}{nx:Lj}{to o t:Int}(h:o≠to)(h1:nxt nx o to≠-1)(h2:mJ n (nxt nx o to) (ay n o t)=0): iS n nx to 0 o t=([],170):=by unfold iS;rw[if_neg h,if_neg h1,if_pos h2]
theorem iV{n:Net}{nx:Lj}{to o t:Int}(k:Nat)(h:o≠to)(h1:nxt nx o to≠-1)(h2:mJ n (nxt nx o to) (ay n o t)=0):
  iS n nx to (k+1) o t=yg [(o,t,nL n (nxt nx o to) (ay n o t),nxt nx o to)] (iS n nx to k (yo n (nxt nx o to)) (nL n (nxt nx o to) (ay n o t)+fY n (nxt nx o to))):=by
 rw[iS,if_neg h,if_neg h1,if_pos h2];rfl
theorem rH{d:List Stop}{r:List Stop×Int}(h:r.2≠0): (yg d r).2=r.2:=by unfold yg;rw[if_neg h]
theorem EG{d:List Stop}{r:List Stop×Int}(h:r.2=0): yg d r=(d++r.1,0):=by unfold yg;rw[if_pos h]
theorem yf(d e:List Stop)(r:List Stop×Int): yg d (yg e r)=yg (d++e) r:=by
 unfold yg;by_cases h:r.2=0
 .simp[h]
 .simp[h]
theorem Ht{n:Net}{nx:Lj}{to:Int}: ∀(k:Nat) (o t:Int),yg [] (iS n nx to k o t)=iS n nx to k o t:=λk o t=>by
 by_cases h:o=to
 .rw[qa k h];rfl
 .by_cases h1:nxt nx o to=-1
  .rw[iy k h h1];rfl
  .by_cases h2:mJ n (nxt nx o to) (ay n o t)=0
   .cases k with
    | zero=>rw[jR h h1 h2];rfl
    | succ k=>rw[iV k h h1 h2,yf];rfl
   .rw[jS k h h1 h2];unfold yg;rw[if_neg h2]
theorem i9(cs:LC)(ns os:LB)(fs:Lo)(ls:Ll)(ks:Lk){nx:Lj}(ht:lr (cs,ns,os,fs,ls,ks) nx=true){o d:Int}(o0:0<=o)(o1:o<fs.length)(d0:0<=d)(d1:d<fs.length): (nx.length:Int)=fs.length/\((nx.getD o.toNat []).length:Int)=fs.length/\(nxt nx o d≠-1->(0<=nxt nx o d/\nxt nx o d<ls.length)/\cn (cs,ns,os,fs,ls,ks) (nxt nx o d)=o):=by
 have hl:(nx.length:Int)=fs.length:=by
  unfold lr at ht;simp only[qC,qE]at ht;exact ht.1
 have h:=(sb (n:=(cs,ns,os,fs,ls,ks)) hl).1 ht o.toNat (by omega);have hr:((nx.getD o.toNat []).length:Int)=fs.length:=by
  unfold rowOk at h;simp only[qC,qE]at h;exact h.1
 refine⟨hl,hr,λhne=>?_⟩;have h2:=(x9 (n:=(cs,ns,os,fs,ls,ks)) hr).1 h d.toNat (by omega);unfold aV bP at h2;simp only[yE,qC,qE]at h2;rcases h2 with h2 | ⟨h2,h3⟩
 .exact absurd h2 hne
 .exact⟨h2,h3.trans (by omega)⟩
theorem aM{x:Int}(h:-1000000000000<=x/\x<=1000000000000): inR .i64 x:=by unfold inR;simp only;omega
theorem Me(nx:Lj)(o to t:Int)(cs:LC)(ns os:LB)(fs:Lo)(ls:Ll)(ks:Lk): af Tryz.prog G0 102 [.ip N (cs,ns,os,fs,ls,ks),.dat M nx,.dat I o,.dat I to,.dat I t] [] ⟨Am (cs,ns,os,fs,ls,ks) nx o to t/\isZero (ig (cs,ns,os,fs,ls,ks) nx o to t)=true,.dat (.sl Stp) (lj (cs,ns,os,fs,ls,ks) nx o to t),[]⟩/\da Tryz.prog G0 102 [.ip N (cs,ns,os,fs,ls,ks),.dat M nx,.dat I o,.dat I to,.dat I t] [] ⟨Am (cs,ns,os,fs,ls,ks) nx o to t,isZero (ig (cs,ns,os,fs,ls,ks) nx o to t),uH 39 (ig (cs,ns,os,fs,ls,ks) nx o to t)⟩:=by
 refine dF (c:=cW) aFF aJ hm Wm (QR nx o to t cs ns os fs ls ks ⟨rfl,λhp=>?_⟩);simp only[qc,qd,Ea,Ec,Df,Dc,Dx,Dj,Du,En,Ef];refine⟨?_,?_⟩
 .exact⟨([],o,t),⟨hp,by simp,(Ht 19 o t).symm⟩,rfl,rfl,rfl⟩
 rintro⟨d,u,v⟩ hx;simp only[aDp,aDo,aEU,aET,fT,qG,vX,zS];obtain⟨⟨hs,ht,u0,u1,o0,o1,v0,v1⟩,hd,hw⟩:=hx;simp only at u0 u1 o0 o1 v0 v1 hd hw;have hno:=aX cs ns os fs ls ks hs;obtain⟨c1,c2,c3⟩:=i9 cs ns os fs ls ks ht u0 u1 o0 o1;have ec:(nx.getD u.toNat []).getD to.toNat 0=nxt nx u to:=rfl;rw[ec];generalize hln:nxt nx u to=ln at *;have hoff:iT (cs,ns,os,fs,ls,ks) u:=⟨hno,u0,u1⟩
 have hW:ig (cs,ns,os,fs,ls,ks) nx o to t=(yg d (iS (cs,ns,os,fs,ls,ks) nx to (19-d.length) u v)).2:=by unfold ig;rw[hw]
 have hL:lj (cs,ns,os,fs,ls,ks) nx o to t=(yg d (iS (cs,ns,os,fs,ls,ks) nx to (19-d.length) u v)).1:=by unfold lj;rw[hw]
 have hroute:u≠to->iS (cs,ns,os,fs,ls,ks) nx to (19-d.length) u v=([],170)->isZero (ig (cs,ns,os,fs,ls,ks) nx o to t)=false/\chainOf (Value.iface 39 (Value.int .i64 170))=chainOf (uH 39 (ig (cs,ns,os,fs,ls,ks) nx o to t)):=λ_ h=>by
  have:ig (cs,ns,os,fs,ls,ks) nx o to t=170:=by rw[hW,h];rfl
  rw[this];exact⟨rfl,rfl⟩
 refine⟨by omega,by omega,λhne=>⟨by omega,by omega,u0,by rw[c1];exact u1,o0,by rw[c2];exact o1,λhm=>hroute hne (iy _ hne (hln.trans hm)),λhm=>?_⟩,λhe=>?_⟩
 .have hm':nxt nx u to≠-1:=by rw[hln];exact hm
  obtain⟨⟨l0,l1⟩,lf⟩:=c3 hm;have hlin:KD (cs,ns,os,fs,ls,ks) ln:=⟨hno,l0,l1⟩;have hr:fx (cs,ns,os,fs,ls,ks) u v:=⟨hoff,by omega,by omega⟩;refine⟨hr,hlin,λhz=>⟨hr,hlin,hz,λh20=>hroute hne ?_,λh20=>?_⟩,λhz=>?_⟩
  .rw[show 19-d.length=0 by omega];exact jR hne hm' (by rw[hln];exact b9.1 hz)
  .have hz0:=b9.1 hz;obtain⟨b1,b2,b3,b4⟩:=pQ cs ns os fs ls ks hlin hz0;obtain⟨g1,g2,g3,g4,g5,g6,g7,g8⟩:=wa cs ns os fs ls ks hlin;have et:(ls.getD ln.toNat (⟨#[]⟩,0,0,0,0,0)).2.2.2.2.1=fY (cs,ns,os,fs,ls,ks) ln:=rfl;have eo:(ls.getD ln.toNat (⟨#[]⟩,0,0,0,0,0)).2.2.1=yo (cs,ns,os,fs,ls,ks) ln:=rfl;rw[et,eo]
   have hnx:=iV (n:=(cs,ns,os,fs,ls,ks)) (nx:=nx) (to:=to) (o:=u) (t:=v) (19-(d.length+1)) hne hm' (by rw[hln];exact hz0);rw[show 19-(d.length+1)+1=19-d.length by omega,hln]at hnx
   refine⟨l0,l1,aM (by omega),by omega,by omega,aM (by omega),(d++[(u,v,nL (cs,ns,os,fs,ls,ks) ln (ay (cs,ns,os,fs,ls,ks) u v),ln)],yo (cs,ns,os,fs,ls,ks) ln,nL (cs,ns,os,fs,ls,ks) ln (ay (cs,ns,os,fs,ls,ks) u v)+fY (cs,ns,os,fs,ls,ks) ln),⟨⟨hs,ht,g3,g4,o0,o1,by simp only;omega,by simp only;omega⟩,by simp;omega,?_⟩,⟨by rw[fT];simp,by simp,rfl⟩,by simp;omega⟩
   show iS (cs,ns,os,fs,ls,ks) nx to 19 o t=_;rw[hw,hnx,yf];simp
  .have hz0:=cB.1 hz;have:=jS (n:=(cs,ns,os,fs,ls,ks)) (nx:=nx) (to:=to) (o:=u) (t:=v) (19-d.length) hne hm' (by rw[hln];exact hz0);rw[hln]at this;have:ig (cs,ns,os,fs,ls,ks) nx o to t=mJ (cs,ns,os,fs,ls,ks) ln (ay (cs,ns,os,fs,ls,ks) u v):=by rw[hW,this];exact rH hz0
   rw[this];exact⟨hz,rfl⟩
 .have:=qa (n:=(cs,ns,os,fs,ls,ks)) (nx:=nx) (to:=to) (o:=u) (t:=v) (19-d.length) he;rw[hW,hL,this];exact⟨rfl,rfl⟩
end Go.Eng.Sv
set_option maxRecDepth 100000
noncomputable section
namespace Go.Eng.Sv
open Go.Proofs
def pn(n:Net)(nx:Lj)(o to t:Int): Bool:=(bP o n.2.2.2.1.length&&bP to n.2.2.2.1.length&&bw t)&&(aO n&&lr n nx)
def Ql(n:Net)(nx:Lj)(o to t:Int): List Stop:=if pn n nx o to t=true then lj n nx o to t else[]
def Qm(n:Net)(nx:Lj)(o to t:Int): Int:=if pn n nx o to t=true then ig n nx o to t else 1
def J3(args:List AV)(m:Mem): Option jP:=match args,m with
 | [.ifc t (.dat (.int .i64) e)],[]=>if t=39 then some ⟨True,.dat I e,[]⟩else none
 | _,_=>none
def KR5: Kt:=kOr 94 J3 <|
 kOr 102 (az [.ptr N,.val M,.val I,.val I,.val I] (λ(n,nx,o,to,t,_)=>Am n nx o to t/\isZero (ig n nx o to t)=true) λ(n,nx,o,to,t,_)=>.dat (.sl Stp) (lj n nx o to t)) KR4
def KPw: KPt:=pOr 102 (uR [.ptr N,.val M,.val I,.val I,.val I] λ(n,nx,o,to,t,_)=>⟨Am n nx o to t,isZero (ig n nx o to t),uH 39 (ig n nx o to t)⟩) <|
 pOr 95 (uR [.val .bool] λ(b,_)=>⟨True,b,uH 39 1⟩) KPm
def cY: Cfg:=mkp KR5 (λ_=>false) KPw (λf=>f==102||f==95)
theorem WS(nx:Lj)(o to t:Int)(cs:LC)(ns os:LB)(fs:Lo)(ls:Ll)(ks:Lk)(hvc:
 let c14:=Int×Int×Int×Int;let c1:=Df fs;let c2:=bP o c1;let c15:=c2->c2->c2;let c3:=Dz c2 (bP to c1) false;let c4:=Dz c3 (bw t) false;let c5:=(cs,ns,os,fs,ls,ks);let c6:=Ql c5 nx o to t;let c7:=Qm c5 nx o to t;let c13:=Di false->True/\1=1/\0=0/\1=1/\0=0/\1=1/\0=0/\1=1/\0=0/\c6=Dt c14/\1=c7/\True;let c12:=Di false=false->1=1/\0=0/\1=1/\0=0/\c6=Dt c14/\0=c7/\True;let c8:=aO c5;let c9:=Dz c8 (lr c5 nx) false;let c10:=ig c5 nx o to t;let c11:=isZero c10;(false=false/\true)/\(bZ nx->true/\True/\c15/\c15/\c15/\c15/\(c2->True)/\(Dk true c2->c2)/\(c3->c3->c3)/\(c3->True)/\(Dk true c3->c3)/\(true->True/\(c4=false->true/\true/\c13/\c12))/\((true->c4)->(True/\c4)/\True/\(c8->c8->c8)/\(c8->bZ nx)/\(Dk true c8->c8)/\(true->True/\(c9=false->true/\true/\c13/\c12))/\((true->c9)->(True/\c9)/\(true->Am c5 nx o to t/\(c11=false->true/\true/\(Di false->True/\1=1/\0=0/\1=1/\0=0/\1=1/\0=0/\1=1/\0=0/\c6=Dt c14/\c10=c7/\True)/\c12))/\((true->c11)->(Am c5 nx o to t/\c11)/\1=1/\0=0/\1=1/\0=0/\true/\true/\(Di true->False)/\(Di true=false->1=1/\0=0/\1=1/\0=0/\lj c5 nx o to t=c6/\0=c7/\True)))))):
  evG cY aA aA 32 [net cs ns os fs ls ks,.dat M nx,.dat I o,.dat I to,.dat I t] ⟨bZ nx,.tup [.dat (.sl Stp) (Ql (cs,ns,os,fs,ls,ks) nx o to t),.dat I (Qm (cs,ns,os,fs,ls,ks) nx o to t)],[]⟩:=oE hvc
theorem UL: ∀args m c,J3 args m=some c->af Tryz.prog G0 94 args m c:=by
 intro args m c h;unfold J3 at h;split at h
 .split at h
  .rename_i e;subst e;cases h;exact XP _
  .cases h
 .cases h
theorem Z4: ak Tryz.prog G0 KR5:=ai UL<|ai (ag λ((cs,ns,os,fs,ls,ks),nx,o,to,t,_)=>(Me nx o to t cs ns os fs ls ks).1) aFF
theorem Iu: bO Tryz.prog G0 KPw:=iH (jo λ((cs,ns,os,fs,ls,ks),nx,o,to,t,_)=>(Me nx o to t cs ns os fs ls ks).2)<|iH (jo λ(b,_)=>(As b).2) Wm
theorem WB{n:Net}{nx:Lj}{to:Int}(k:Nat)(o t:Int)(h:(iS n nx to k o t).2≠0): (iS n nx to k o t).1=[]:=by
 by_cases h0:o=to
 .rw[qa k h0]at h;exact absurd rfl h
 .by_cases h1:nxt nx o to=-1
  .rw[iy k h0 h1]
  .by_cases h2:mJ n (nxt nx o to) (ay n o t)=0
   .cases k with
    | zero=>rw[jR h0 h1 h2]
    | succ k=>
     rw[iV k h0 h1 h2]at h ⊢;unfold yg at h ⊢;split
     .rename_i h3;rw[if_pos h3]at h;exact absurd rfl h
     .rfl
   .rw[jS k h0 h1 h2]
theorem fN{i l:Int}: bP i l=true↔0<=i/\i<l:=by unfold bP;simp
theorem KV{n:Net}{nx:Lj}{o to t:Int}: pn n nx o to t=true↔(((0<=o/\o<n.2.2.2.1.length)/\(0<=to/\to<n.2.2.2.1.length))/\(0<=t/\t<=2000000))/\aO n=true/\lr n nx=true:=by
 unfold pn bw;simp only[qC,fN,qE]
theorem aAU(nx:Lj)(o to t:Int)(cs:LC)(ns os:LB)(fs:Lo)(ls:Ll)(ks:Lk): af Tryz.prog G0 32 [net cs ns os fs ls ks,.dat M nx,.dat I o,.dat I to,.dat I t] [] ⟨bZ nx,.tup [.dat (.sl Stp) (Ql (cs,ns,os,fs,ls,ks) nx o to t),.dat I (Qm (cs,ns,os,fs,ls,ks) nx o to t)],[]⟩:=by
 refine lF (c:=cY) Z4 aJ hm Iu (WS nx o to t cs ns os fs ls ks ⟨⟨rfl,rfl⟩,λhp=>?_⟩);have hW1:pn (cs,ns,os,fs,ls,ks) nx o to t=true->Ql (cs,ns,os,fs,ls,ks) nx o to t=lj (cs,ns,os,fs,ls,ks) nx o to t/\Qm (cs,ns,os,fs,ls,ks) nx o to t=ig (cs,ns,os,fs,ls,ks) nx o to t:=λh=>⟨if_pos h,if_pos h⟩
 have hW0:pn (cs,ns,os,fs,ls,ks) nx o to t=false->Ql (cs,ns,os,fs,ls,ks) nx o to t=[]/\Qm (cs,ns,os,fs,ls,ks) nx o to t=1:=λh=>⟨if_neg (by simp[h]),if_neg (by simp[h])⟩
 simp only[qc,Dk,Di,Dt,Df];have no:pn (cs,ns,os,fs,ls,ks) nx o to t=false->(Ql (cs,ns,os,fs,ls,ks) nx o to t=[]/\1=Qm (cs,ns,os,fs,ls,ks) nx o to t)/\(false=true->Ql (cs,ns,os,fs,ls,ks) nx o to t=[]/\0=Qm (cs,ns,os,fs,ls,ks) nx o to t):=λh=>by
  obtain⟨h1,h2⟩:=hW0 h;exact⟨⟨h1,h2.symm⟩,λh=>by cases h⟩
 refine⟨λh=>no ?_,λhi=>⟨hi,λ_=>hp,λh=>no ?_,λhs=>?_⟩⟩
 .unfold pn;show(bP o fs.length&&bP to fs.length&&bw t&&_)=false;cases h1:bP o fs.length<;>cases h2:bP to fs.length<;>simp;rw[h ⟨h1,h2⟩];simp
 .unfold pn;cases h1:aO (cs,ns,os,fs,ls,ks)
  .simp
  .rw[h h1];simp
 .have hok:pn (cs,ns,os,fs,ls,ks) nx o to t=true:=by
   unfold pn;show(bP o fs.length&&bP to fs.length&&bw t&&_)=true;rw[hi.1.1,hi.1.2,hi.2,hs.1,hs.2];rfl
  obtain⟨e1,e2⟩:=hW1 hok;obtain⟨⟨⟨⟨o0,o1⟩,⟨d0,d1⟩⟩,⟨t0,t1⟩⟩,q1,q2⟩:=KV.1 hok;have hw:Am (cs,ns,os,fs,ls,ks) nx o to t:=⟨q1,q2,o0,o1,d0,d1,t0,by omega⟩;rw[e1,e2];refine⟨hs,⟨hw,λhz=>⟨⟨WB 19 o t (cB.1 hz),rfl⟩,λh=>by cases h⟩⟩,λhz=>⟨⟨hw,hz⟩,⟨(λh=>by cases h),rfl,(b9.1 hz).symm⟩⟩⟩
end Go.Eng.Sv
