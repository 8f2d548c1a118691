/- PeSvDist PeSv1f PeSv2f PeSv3f PeSv4f PeSv5f PeSvKf PeSvSf PeTt1f PeTt2f PeTr1f PeTr2f PeTr3f PeTr4f PeTr5f PeTrDf PeWa1f -/
import Derived.Test.YtdeeijhmpjbfcaaGreatDoorECMatE
import Derived.Test.YtdeeijhmpjbfcaaGreatDoorChecked
set_option linter.all false
namespace Go.Eng.Sv
def bn(l:Line):Int:=l.2.1
def lTo(l:Line):Int:=l.2.2.1
def lAt(l:Line):Int:=l.2.2.2.1
def bg(l:Line):Int:=l.2.2.2.2.1
def cell(xs:List Int)(a b:Nat):Int:=xs.getD (a*12+b) 0
def fP(xs:List Int)(a b len:Int):List Int:=
 bif decide (cell xs a.toNat b.toNat=-1)||decide (len<cell xs a.toNat b.toNat)then xs.set (a.toNat*12+b.toNat) len else xs
def MB:List Int:=(List.range 144).map λi=>if i/12=i%12 then 0 else -1
def rf(ls:Ll):List Int:=ls.foldl (λb l=>fP b (bn l) (lTo l) (bg l)) MB
def EP(xs:List Int)(q:Nat):List Int:=
 bif (cell xs (q/12%12) (q/144) != -1)&&(cell xs (q/144) (q%12) != -1)then fP xs (q/12%12:Nat) (q%12:Nat) (cell xs (q/12%12) (q/144)+cell xs (q/144) (q%12))else xs
def fwN(ls:Ll)(k:Nat):List Int:=(List.range k).foldl EP (rf ls)
def cJ(ls:Ll):List Int:=fwN ls 1728
structure bW(n:Nat)(ls:Ll):Prop where
 n12:n<=12
 at_:∀l∈ls,0<=bn l/\bn l<n/\0<=lTo l/\lTo l<n/\bn l≠lTo l/\1<=bg l/\bg l<=5000
def ZJ{xs:List Int}{a b c d:Nat}{x:Int}(f:b<12)(hd:d<12)(e:a*12+b<xs.length):
  cell (xs.set (a*12+b) x) c d=if c=a/\d=b then x else cell xs c d:=by
 unfold cell;rw[List.getD_eq_getElem?_getD,List.getElem?_set,List.getD_eq_getElem?_getD];by_cases h:c=a/\d=b;obtain⟨rfl,rfl⟩:=h;simp[e];rw[if_neg h,if_neg (by omega)]
def jr(xs:List Int)(a b len:Int):(fP xs a b len).length=xs.length:=by
 unfold fP;cases(decide (cell xs a.toNat b.toNat=-1)||decide (len<cell xs a.toNat b.toNat))<;>simp
def fj{xs:List Int}(i:xs.length=144){a b:Nat}(j:a<12)(f:b<12){len:Int}{c d:Nat}(hd:d<12):
  cell (fP xs a b len) c d=if c=a/\d=b/\(cell xs a b=-1\/len<cell xs a b)then len else cell xs c d:=by
 unfold fP;simp only[Int.toNat_natCast];by_cases h:cell xs a b=-1\/len<cell xs a b;have:(decide (cell xs a b=-1)||decide (len<cell xs a b))=true:=by simpa using h
 rw[this,cond_true,ZJ f hd (by omega)];by_cases e:c=a/\d=b;rw[if_pos e,if_pos ⟨e.1,e.2,h⟩];rw[if_neg e,if_neg λg=>e ⟨g.1,g.2.1⟩];have:(decide (cell xs a b=-1)||decide (len<cell xs a b))=false:=by
  rw[Bool.eq_false_iff];simpa using h
 rw[this,cond_false,if_neg λg=>h g.2.2]
def rc(ls:Ll):(rf ls).length=144:=by
 unfold rf;have:∀(ls:Ll) (b:List Int),(ls.foldl (λb l=>fP b (bn l) (lTo l) (bg l)) b).length=b.length:=by
  intro ls;induction ls with
  |nil=>intro b;rfl
  |cons l ls e=>intro b;rw[List.foldl_cons,e,jr]
 rw[this];rfl
def Hy(xs:List Int)(q:Nat):(EP xs q).length=xs.length:=by
 unfold EP;cases(cell xs (q/12%12) (q/144) != -1)&&(cell xs (q/144) (q%12) != -1)<;>simp[jr]
def Gk(ls:Ll)(k:Nat):fwN ls (k+1)=EP (fwN ls k) k:=by
 unfold fwN;rw[List.range_succ,List.foldl_append];rfl
def sH(ls:Ll):∀k,(fwN ls k).length=144|0=>rc ls|k+1=>by rw[Gk,Hy,sH ls k]
inductive Walk(ls:Ll):Nat->Nat->Int->Prop
 |nil (a:Nat):Walk ls a a 0
 |snoc {a:Nat}{n:Int} (l:Line):l∈ls->Walk ls a (bn l).toNat n->Walk ls a (lTo l).toNat (n+bg l)
inductive Wk(ls:Ll)(k:Nat):Nat->Nat->Int->Prop
 |refl (a:Nat):Wk ls k a a 0
 |edge (l:Line):l∈ls->Wk ls k (bn l).toNat (lTo l).toNat (bg l)
 |via {a b c:Nat}{m n:Int}:c<k->Wk ls k a c m->Wk ls k c b n->Wk ls k a b (m+n)
def Walk.trans{ls:Ll}{a b c:Nat}{m n:Int}(h:Walk ls a b m)(g:Walk ls b c n):Walk ls a c (m+n):=by
 induction g with
 |nil=>simpa using h|snoc l f _ e=>rw[<- Int.add_assoc];exact .snoc l f e
def Wk.nonneg{N:Nat}{ls:Ll}(e:bW N ls){k a b:Nat}{n:Int}(h:Wk ls k a b n):0<=n:=by
 induction h with
 |refl=>exact Int.le_refl _|edge l f=>have:=(e.at_ l f).2.2.2.2.2.1;omega|via _ _ _ i g=>omega
def Wk.split{N:Nat}{ls:Ll}(z:bW N ls){k a b:Nat}{n:Int}(h:Wk ls (k+1) a b n):
  (∃m,m<=n/\Wk ls k a b m)\/∃r j,r+j<=n/\Wk ls k a k r/\Wk ls k k b j:=by
 induction h with
 |refl a=>exact .inl ⟨0,Int.le_refl _,.refl a⟩|edge l hl=>exact .inl ⟨_,Int.le_refl _,.edge l hl⟩|@via a b c m n A _ _ O L=>
  by_cases e:c=k;subst e;right;have V:∃r,r<=m/\Wk ls c a c r:=by
   rcases O with⟨x,f,g⟩|⟨x,y,f,g,i⟩;exact⟨x,f,g⟩;have:=i.nonneg z;exact⟨x,by omega,g⟩
  have T:∃j,j<=n/\Wk ls c c b j:=by
   rcases L with⟨x,f,g⟩|⟨x,y,f,g,i⟩;exact⟨x,f,g⟩;have:=g.nonneg z;exact⟨y,by omega,i⟩
  obtain⟨x,f,g⟩:=V;obtain⟨y,hy,i⟩:=T;exact⟨x,y,by omega,g,i⟩;have A:c<k:=by omega
  rcases O with⟨x,f,g⟩|⟨x,y,f,g,i⟩<;>rcases L with⟨u,X,q⟩|⟨u,v,X,q,G⟩
  exact .inl ⟨x+u,by omega,.via A g q⟩;exact .inr ⟨x+u,v,by omega,.via A g q,G⟩;exact .inr ⟨x,y+u,by omega,g,.via A i q⟩;have:=i.nonneg z;have:=q.nonneg z;exact .inr ⟨x,v,by omega,g,G⟩
structure aAv(ls:Ll)(xs:List Int):Prop where
 len:xs.length=144
 diag:∀a,a<12->cell xs a a=0
 walk:∀a b,a<12->b<12->cell xs a b=-1\/(0<=cell xs a b/\Walk ls a b (cell xs a b))
def Below(xs:List Int)(a b:Nat)(n:Int):Prop:=cell xs a b≠-1/\cell xs a b<=n
def aDI(ls:Ll)(k:Nat)(xs:List Int):Prop:=∀a b n,a<12->b<12->Wk ls k a b n->Below xs a b n
def m5{xs:List Int}(f:xs.length=144){a b c d:Nat}(j:a<12)(i:b<12)(hd:d<12){len n:Int}(e:len≠-1)(h:Below xs c d n):Below (fP xs a b len) c d n:=by
 unfold Below at h ⊢;rw[fj f j i hd];split;rename_i g;obtain⟨rfl,rfl,g⟩:=g;exact⟨e,by omega⟩;exact h
def H8{xs:List Int}(h:xs.length=144){a b:Nat}(i:a<12)(f:b<12){len:Int}(e:len≠-1):Below (fP xs a b len) a b len:=by
 unfold Below;rw[fj h i f f];split;exact⟨e,Int.le_refl _⟩;rename_i g;simp only[true_and,not_or]at g;exact⟨g.1,by omega⟩
def wN{ls:Ll}{xs:List Int}(h:aAv ls xs){a b:Nat}(i:a<12)(f:b<12){len:Int}(r:0<=len)(j:Walk ls a b len):aAv ls (fP xs a b len):=by
 refine⟨by rw[jr];exact h.len,λc e=>?_,λc d e hd=>?_⟩;rw[fj h.len i f e];split;rename_i g;obtain⟨rfl,rfl,g⟩:=g;have:=h.diag c e;omega;exact h.diag c e;rw[fj h.len i f hd];split;rename_i g;obtain⟨rfl,rfl,g⟩:=g;exact .inr ⟨r,j⟩;exact h.walk c d e hd
def oo{a b:Nat}(f:a<12)(e:b<12):cell MB a b=if a=b then 0 else -1:=by
 unfold cell MB;rw[List.getD_eq_getElem?_getD,List.getElem?_map,List.getElem?_range (by omega)];simp only[Option.map_some,Option.getD_some];rw[show(a*12+b)/12=a by omega,show(a*12+b)%12=b by omega]
def QU(ls:Ll):aAv ls MB:=by
 refine⟨rfl,λa f=>by rw[oo f f,if_pos rfl],λa b f g=>?_⟩;rw[oo f g];split;rename_i e;subst e;exact .inr ⟨Int.le_refl _,.nil a⟩;exact .inl rfl
def toNat_lt{N:Nat}{x:Int}(f:0<=x)(e:x<N)(b:N<=12):x.toNat<12:=by omega
def yc{N:Nat}{ls:Ll}(v:bW N ls):∀(g:Ll) (xs:List Int),(∀l∈g,l∈ls)->aAv ls xs->(∀a b,a<12->b<12->cell xs a b<=5000)->
  aAv ls (g.foldl (λxs l=>fP xs (bn l) (lTo l) (bg l)) xs)/\
  (∀a b n,a<12->b<12->Below xs a b n->Below (g.foldl (λxs l=>fP xs (bn l) (lTo l) (bg l)) xs) a b n)/\
  (∀l∈g,Below (g.foldl (λxs l=>fP xs (bn l) (lTo l) (bg l)) xs) (bn l).toNat (lTo l).toNat (bg l))/\
  (∀a b,a<12->b<12->cell (g.foldl (λxs l=>fP xs (bn l) (lTo l) (bg l)) xs) a b<=5000)
 |[],xs,_,h,hb=>⟨h,λ_ _ _ _ _ h=>h,(λl y=>by cases y),hb⟩
 |l::g,xs,j,h,hb=>by
  have y:=j l (by simp);obtain⟨G,T,A,O,o5,o6,L⟩:=v.at_ l y;have r:=toNat_lt G T v.n12;have f:=toNat_lt A O v.n12;have e:fP xs (bn l) (lTo l) (bg l)=fP xs ((bn l).toNat:Nat) ((lTo l).toNat:Nat) (bg l):=by
   rw[Int.toNat_of_nonneg G,Int.toNat_of_nonneg A]
  have V:Walk ls (bn l).toNat (lTo l).toNat (bg l):=by
   have:=Walk.snoc l y (.nil (bn l).toNat);rwa [Int.zero_add]at this
  obtain⟨g1,g2,g3,g4⟩:=yc v g (fP xs (bn l) (lTo l) (bg l)) (λx i=>j x (by simp[i])) (by rw[e];exact wN h r f (by omega) V) (λa b z u=>by
   rw[e,fj h.len r f u];split;exact L;exact hb a b z u)
  rw[List.foldl_cons];refine⟨g1,λa b n z u X=>g2 a b n z u (by rw[e];exact m5 h.len r f u (by omega) X),λx i=>?_,g4⟩;rcases List.mem_cons.1 i with rfl|i;exact g2 _ _ _ r f (by rw[e];exact H8 h.len r f (by omega));exact g3 x i
def LY{N:Nat}{ls:Ll}(f:bW N ls):aAv ls (rf ls)/\aDI ls 0 (rf ls)/\∀a b,a<12->b<12->cell (rf ls) a b<=5000:=by
 obtain⟨g1,g2,g3,g4⟩:=yc f ls MB (λ_ h=>h) (QU ls) (λa b r j=>by rw[oo r j];split<;>omega);refine⟨g1,λa b n e v g=>?_,g4⟩;cases g with
 |refl=>refine g2 a a 0 e e ?_;unfold Below;rw[oo e e,if_pos rfl];omega|edge l i=>exact g3 l i|via u=>omega
structure Mid(ls:Ll)(o i:Nat)(xs:List Int):Prop where
 sane:aAv ls xs
 compl:aDI ls o xs
 done:∀a b m n,a<12->b<12->a*12+b<i->Wk ls o a o m->Wk ls o o b n->Below xs a b (m+n)
 edge:∀a,a<12->cell xs a o<=5000*2 ^ o/\cell xs o a<=5000*2 ^ o
 all:∀a b,a<12->b<12->cell xs a b<=2*(5000*2 ^ o)
def Mid.step{N:Nat}{ls:Ll}(ok:bW N ls){o i:Nat}(v:o<12)(hi:i<144){xs:List Int}(h:Mid ls o i xs):Mid ls o (i+1) (EP xs (o*144+i)):=by
 have e1:(o*144+i)/12%12=i/12:=by omega
 have e2:(o*144+i)/144=o:=by omega
 have e3:(o*144+i)%12=i%12:=by omega
 have y:i/12<12:=by omega
 have x:i%12<12:=by omega
 unfold EP;rw[e1,e2,e3];cases u:(cell xs (i/12) o != -1)&&(cell xs o (i%12) != -1)with
 |false=>
  rw[cond_false];refine⟨h.sane,h.compl,λa b m n j f X A z=>?_,h.edge,h.all⟩;by_cases e:a*12+b<i
  .exact h.done a b m n j f e A z
  have T:a=i/12:=by omega
  have O:b=i%12:=by omega
  have g1:=h.compl a o m j v A;have g2:=h.compl o b n v f z;rw[<- T,<- O]at u;simp only[Bool.and_eq_false_iff,bne_eq_false_iff_eq]at u;rcases u with u|u;exact(g1.1 u).elim;exact(g2.1 u).elim
 |true=>
  rw[cond_true];simp only[Bool.and_eq_true,bne_iff_ne,ne_eq]at u;obtain⟨c1,c2⟩:=u;obtain⟨p1,p2⟩:=(h.sane.walk _ _ y v).resolve_left c1;obtain⟨p3,V⟩:=(h.sane.walk _ _ v x).resolve_left c2;have r:cell xs (i/12) o+cell xs o (i%12)≠-1:=by omega
  refine⟨wN h.sane y x (by omega) (p2.trans V),λa b n j f w=>m5 h.sane.len y x f r (h.compl a b n j f w),λa b m n j f X A z=>?_,λa j=>?_,λa b j f=>?_⟩
  .by_cases e:a*12+b<i
   .exact m5 h.sane.len y x f r (h.done a b m n j f e A z)
   have T:a=i/12:=by omega
   have O:b=i%12:=by omega
   have g1:=(h.compl a o m j v A).2;have g2:=(h.compl o b n v f z).2;rw[<- T,<- O]at r ⊢;have g3:=H8 (a:=a) (b:=b) h.sane.len j f r;exact⟨g3.1,by have:=g3.2;omega⟩
  have hd:=h.sane.diag o v;have q:=h.edge a j;constructor;rw[fj h.sane.len y x v];split;rename_i g;obtain⟨rfl,L,G⟩:=g;rw[<- L,hd]at G;have:=q.1;omega;exact q.1;rw[fj h.sane.len y x j];split;rename_i g;obtain⟨L,rfl,G⟩:=g;rw[<- L,hd]at G;have:=q.2;omega;exact q.2;rw[fj h.sane.len y x f];split;have q1:=(h.edge (i/12) y).1;have q2:=(h.edge (i%12) x).2;omega;exact h.all a b j f
def Mid.next{N:Nat}{ls:Ll}(r:bW N ls){o:Nat}(j:o+1<12){xs:List Int}(h:Mid ls o 144 xs):Mid ls (o+1) 0 xs:=by
 have e:5000*2 ^ (o+1)=2*(5000*2 ^ o:Int):=by rw[Int.pow_succ];omega
 refine⟨h.sane,λa b n f i w=>?_,λa b m n f i x=>by omega,λa f=>by rw[e];exact⟨h.all a (o+1) f j,h.all (o+1) a j f⟩,λa b f i=>?_⟩
 .rcases w.split r with⟨m,hm,g⟩|⟨v,u,hm,g1,g2⟩;have:=h.compl a b m f i g;exact⟨this.1,by have:=this.2;omega⟩
  .have:=h.done a b v u f i (by omega) g1 g2;exact⟨this.1,by have:=this.2;omega⟩
 have:=h.all a b f i;have y:(0:Int)<=5000*2 ^ o:=Int.mul_nonneg (by decide) (Int.le_of_lt (Int.pow_pos (by decide)));rw[e];omega
def Vn{N:Nat}{ls:Ll}(j:bW N ls):∀(o:Nat),o<12->∀i,i<=144->Mid ls o i (fwN ls (o*144+i)):=by
 intro o;have e:∀o,o<12->Mid ls o 0 (fwN ls (o*144))->∀i,i<=144->Mid ls o i (fwN ls (o*144+i)):=by
  intro o g h i;induction i with
  |zero=>intro _;exact h
  |succ i r=>
   intro v;rw[<- Nat.add_assoc,Gk];exact(r (by omega)).step j g (by omega)
 induction o with
 |zero=>
  intro _;refine e 0 (by decide) ?_;obtain⟨g1,g2,g3⟩:=LY j;refine⟨g1,g2,λa b m n f u x=>by omega,λa f=>⟨?_,?_⟩,λa b f u=>?_⟩;have:=g3 a 0 f (by decide);show cell (rf ls) a 0<=5000*2 ^ 0;omega;have:=g3 0 a (by decide) f;show cell (rf ls) 0 a<=5000*2 ^ 0;omega;have:=g3 a b f u;simp only[Int.pow_zero,Int.mul_one];show cell (rf ls) a b<=_;omega
 |succ o r=>
  intro g;refine e (o+1) g ?_;have:=(r (by omega) 144 (Nat.le_refl _)).next j g
  rw[show o*144+144=(o+1)*144 by omega]at this;exact this
def Ju{N:Nat}{ls:Ll}(r:bW N ls){k:Nat}(x:k<=1728){a b:Nat}(j:a<12)(g:b<12): -1<=cell (fwN ls k) a b/\cell (fwN ls k) a b<=20480000:=by
 have h:∃o i,o<12/\i<=144/\k=o*144+i:=by
  by_cases e:k=1728;exact⟨11,144,by decide,by decide,by omega⟩;exact⟨k/144,k%144,by omega,by omega,by omega⟩
 obtain⟨o,i,u,v,rfl⟩:=h;have m:=Vn r o u i v;have A:=m.all a b j g;have f:=m.sane.walk a b j g;have z:(2:Int) ^ o<=2 ^ 11:=by
  have:(2:Nat) ^ o<=2 ^ 11:=Nat.pow_le_pow_right (by decide) (by omega)
  exact_mod_cast this
 have y:(2:Int) ^ 11=2048:=by decide
 constructor;rcases f with f|f<;>omega;omega
structure mN(ls:Ll)(a:Nat)(d:Nat->Int):Prop where
 self:d a=0
 low:∀b,b<12->-1<=d b
 line:∀l∈ls,0<=d (bn l).toNat->0<=d (lTo l).toNat/\d (lTo l).toNat<=d (bn l).toNat+bg l
 last:∀b,b<12->b≠a->0<=d b->∃l∈ls,(lTo l).toNat=b/\0<=d (bn l).toNat/\d b=d (bn l).toNat+bg l
def mN.walk{N:Nat}{ls:Ll}(g:bW N ls){a:Nat}{d:Nat->Int}(h:mN ls a d){b:Nat}{n:Int}(w:Walk ls a b n):0<=d b/\d b<=n:=by
 induction w with
 |nil=>rw[h.self];exact⟨Int.le_refl _,Int.le_refl _⟩|snoc l f _ e=>have:=h.line l f e.1;have:=e.2;omega
def Walk.wk{N:Nat}{ls:Ll}(e:bW N ls){a b:Nat}{n:Int}(w:Walk ls a b n):Wk ls 12 a b n:=by
 induction w with
 |nil=>exact .refl _|snoc l f _ g=>
  have o:=e.at_ l f;exact .via (toNat_lt o.1 o.2.1 e.n12) g (.edge l f)
def AN{N:Nat}{ls:Ll}(e:bW N ls):aDI ls 12 (cJ ls)/\aAv ls (cJ ls):=by
 have m:Mid ls 11 144 (cJ ls):=Vn e 11 (by decide) 144 (Nat.le_refl _);refine⟨λa b n h f w=>?_,m.sane⟩;rcases w.split e with⟨x,i,g⟩|⟨x,y,i,g1,g2⟩;have:=m.compl a b x h f g;exact⟨this.1,by have:=this.2;omega⟩
 .have:=m.done a b x y h f (by omega) g1 g2;exact⟨this.1,by have:=this.2;omega⟩
def qp{N:Nat}{ls:Ll}(i:bW N ls){a:Nat}(h:a<12):mN ls a (cell (cJ ls) a):=by
 obtain⟨z,j⟩:=AN i;have r:∀l∈ls,(bn l).toNat<12/\(lTo l).toNat<12/\1<=bg l:=λl f=>by
  have o:=i.at_ l f;exact⟨toNat_lt o.1 o.2.1 i.n12,toNat_lt o.2.2.1 o.2.2.2.1 i.n12,o.2.2.2.2.2.1⟩
 have e:∀l∈ls,0<=cell (cJ ls) a (bn l).toNat->0<=cell (cJ ls) a (lTo l).toNat/\cell (cJ ls) a (lTo l).toNat<=cell (cJ ls) a (bn l).toNat+bg l:=by
  intro l f L;obtain⟨u,y,G⟩:=r l f;have w:=((j.walk a _ h u).resolve_left (by omega)).2;have g:=z a _ _ h y (Walk.wk i (.snoc l f w));refine⟨?_,g.2⟩;rcases j.walk a _ h y with q|q;exact(g.1 q).elim;exact q.1
 refine⟨j.diag a h,λb x=>?_,e,λb x v L=>?_⟩;rcases j.walk a b h x with q|q<;>omega;have w:=((j.walk a b h x).resolve_left (by omega)).2;generalize O:cell (cJ ls) a b=n at w;cases w with
 |nil=>exact(v rfl).elim|@snoc n l f w=>
  obtain⟨u,y,G⟩:=r l f;have g:=z a _ _ h u (w.wk i);have A:0<=cell (cJ ls) a (bn l).toNat:=by
   rcases j.walk a _ h u with q|q;exact(g.1 q).elim;exact q.1
  have V:=(e l f A).2;have T:=g.2;exact⟨l,f,rfl,A,by omega⟩
def mN.toWalk{N:Nat}{ls:Ll}(g:bW N ls){a:Nat}{d:Nat->Int}(h:mN ls a d):∀(k b:Nat),b<12->0<=d b->(d b).toNat<=k->Walk ls a b (d b):=by
 intro k;induction k with
 |zero=>
  intro b i j y;by_cases e:b=a;subst e;rw[h.self];exact .nil b;obtain⟨l,f,v,u,r⟩:=h.last b i e j;have:=(g.at_ l f).2.2.2.2.2.1;omega
 |succ k x=>
  intro b i j y;by_cases e:b=a;subst e;rw[h.self];exact .nil b;obtain⟨l,f,v,u,r⟩:=h.last b i e j;have o:=g.at_ l f;have:=o.2.2.2.2.2.1;have w:=x _ (toNat_lt o.1 o.2.1 g.n12) u (by omega);have:=Walk.snoc l f w;rw[v,<- r]at this;exact this
def zD8{N:Nat}{ls:Ll}(f:bW N ls){a:Nat}{d e:Nat->Int}(h:mN ls a d)(g:mN ls a e){b:Nat}(i:b<12):d b=e b:=by
 have r:=h.low b i;have j:=g.low b i;by_cases p:0<=d b;have:=g.walk f (h.toWalk f _ b i p (Nat.le_refl _));have:=h.walk f (g.toWalk f _ b i this.1 (Nat.le_refl _));omega;by_cases q:0<=e b;have:=h.walk f (g.toWalk f _ b i q (Nat.le_refl _));omega;omega
def at1(e:List Int)(b:Nat):Int:=e.getD b 0
def fB(b:List Int)(l:Line):List Int:=
 bif decide (0<=at1 b (bn l).toNat)&&(decide (at1 b (lTo l).toNat<0)||decide (at1 b (lTo l).toNat>at1 b (bn l).toNat+bg l))then b.set (lTo l).toNat (at1 b (bn l).toNat+bg l)else b
def nN(m:Nat)(a:Nat):List Int:=(List.range m).map λb=>if b=a then 0 else -1
def G6(ls:Ll)(b:List Int):List Int:=ls.foldl fB b
def bfN(ls:Ll)(m a r:Nat):List Int:=(List.range r).foldl (λb _=>G6 ls b) (nN m a)
def jR(m:Nat)(ls:Ll)(a:Nat):List Int:=(List.range m).map λb=>cell (cJ ls) a b
def Zq(m:Nat)(ls:Ll):List (List Int):=(List.range m).map λa=>jR m ls a
def aDs{f:List Int}{i b:Nat}{x:Int}(g:i<f.length):at1 (f.set i x) b=if b=i then x else at1 f b:=by
 unfold at1;rw[List.getD_eq_getElem?_getD,List.getElem?_set,List.getD_eq_getElem?_getD];by_cases h:i=b;subst h;simp[g];rw[if_neg h,if_neg (λe=>h e.symm)]
def mG(b:List Int)(l:Line):(fB b l).length=b.length:=by
 unfold fB;cases(decide (0<=at1 b (bn l).toNat)&&(decide (at1 b (lTo l).toNat<0)||decide (at1 b (lTo l).toNat>at1 b (bn l).toNat+bg l)))<;>simp
def rW{f:List Int}{l:Line}(i:(lTo l).toNat<f.length)(b:Nat):at1 (fB f l) b =
  if b=(lTo l).toNat/\0<=at1 f (bn l).toNat/\(at1 f (lTo l).toNat<0\/at1 f (lTo l).toNat>at1 f (bn l).toNat+bg l)then at1 f (bn l).toNat+bg l else at1 f b:=by
 unfold fB;by_cases h:0<=at1 f (bn l).toNat/\(at1 f (lTo l).toNat<0\/at1 f (lTo l).toNat>at1 f (bn l).toNat+bg l);have e:(decide (0<=at1 f (bn l).toNat)&&(decide (at1 f (lTo l).toNat<0)||decide (at1 f (lTo l).toNat>at1 f (bn l).toNat+bg l)))=true:=by simpa using h
 rw[e,cond_true,aDs i];by_cases hb:b=(lTo l).toNat;rw[if_pos hb,if_pos ⟨hb,h⟩];rw[if_neg hb,if_neg λg=>hb g.1];have e:(decide (0<=at1 f (bn l).toNat)&&(decide (at1 f (lTo l).toNat<0)||decide (at1 f (lTo l).toNat>at1 f (bn l).toNat+bg l)))=false:=by
  rw[Bool.eq_false_iff];simpa using h
 rw[e,cond_false,if_neg λg=>h g.2]
def Abv(m:Nat)(d:Nat->Int)(e:List Int):Prop:=e.length=m/\∀b,b<m->at1 e b=-1\/(0<=d b/\d b<=at1 e b)
def Z3(d:Nat->Int)(e:List Int)(b:Nat):Prop:=0<=d b/\at1 e b=d b
section
variable {m:Nat}{ls:Ll}{a:Nat}{d:Nat->Int}
def RA(j:bW m ls)(h:mN ls a d){e:List Int}(f:Abv m d e){l:Line}(i:l∈ls):Abv m d (fB e l):=by
 have o:=j.at_ l i;refine⟨by rw[mG];exact f.1,λb r=>?_⟩;rw[rW (by rw[f.1];omega)];split;rename_i g;obtain⟨rfl,g1,g2⟩:=g;rcases f.2 (bn l).toNat (by omega)with q|q;omega;have:=h.line l i q.1;right;omega;exact f.2 b r
def EA(r:bW m ls)(h:mN ls a d){e:List Int}(i:Abv m d e){l:Line}(j:l∈ls){b:Nat}(u:b<m)(f:Z3 d e b):Z3 d (fB e l) b:=by
 have o:=r.at_ l j;refine⟨f.1,?_⟩;rw[rW (by rw[i.1];omega)];split;rename_i g;obtain⟨rfl,g1,g2⟩:=g;rcases i.2 (bn l).toNat (by omega)with q|q;omega;have:=h.line l j q.1;have:=f.1;have:=f.2;omega;exact f.2
def Rz(h:bW m ls){b:List Int}(f:Abv m d b){l:Line}(i:l∈ls)(e:Z3 d b (bn l).toNat)(j:0<=d (lTo l).toNat)(r:d (lTo l).toNat=d (bn l).toNat+bg l):Z3 d (fB b l) (lTo l).toNat:=by
 have o:=h.at_ l i;refine⟨j,?_⟩;have x:=e.2;have v:=e.1;rw[rW (by rw[f.1];omega)];split;omega;rename_i g;have u:¬(0<=at1 b (bn l).toNat/\(at1 b (lTo l).toNat<0\/at1 b (lTo l).toNat>at1 b (bn l).toNat+bg l)):=λq=>g ⟨rfl,q⟩;rcases f.2 (lTo l).toNat (by omega)with q|q<;>omega
def aAo(i:bW m ls)(h:mN ls a d):∀(g:Ll) (e:List Int),(∀l∈g,l∈ls)->Abv m d e->Abv m d (g.foldl fB e)/\(∀b,b<m->Z3 d e b->Z3 d (g.foldl fB e) b)/\
  ∀l∈g,Z3 d e (bn l).toNat->0<=d (lTo l).toNat->d (lTo l).toNat=d (bn l).toNat+bg l->Z3 d (g.foldl fB e) (lTo l).toNat
 |[],e,_,r=>⟨r,λ_ _ h=>h,(λl f=>by cases f)⟩
 |x::g,e,j,r=>by
  have u:=j x (by simp);have ox:=i.at_ x u;obtain⟨g1,g2,g3⟩:=aAo i h g (fB e x) (λl f=>j l (by simp[f])) (RA i h r u);rw[List.foldl_cons];refine⟨g1,λb z v=>g2 b z (EA i h r u z v),λl f v A y=>?_⟩;have o:=i.at_ l (j l f);rcases List.mem_cons.1 f with rfl|f;exact g2 _ (by omega) (Rz i r u v A y);exact g3 l f (EA i h r u (by omega) v) A y
def rank(m:Nat)(d:Nat->Int)(b:Nat):Nat:=((List.range m).filter λx=>decide (0<=d x/\d x<d b)).length
def filter_lt{α:Type}{p q:α->Bool}:∀{l:List α}{x:α},(∀y,p y=true->q y=true)->x∈l->p x=false->q x=true->(l.filter p).length<(l.filter q).length
 |[],_,_,h,_,_=>by cases h
 |y::l,x,b,f,j,i=>by
  have le:∀l:List α,(l.filter p).length<=(l.filter q).length:=by
   intro l;induction l with
   |nil=>exact Nat.le_refl _|cons z l e=>
    simp only[List.filter_cons];cases g:p z with
    |true=>rw[b z g];simpa using e|false=>cases q z<;>simp<;>omega
  rcases List.mem_cons.1 f with rfl|f;simp only[List.filter_cons,j,i,Bool.false_eq_true,if_false,if_true,List.length_cons];have:=le l;omega;have e:=filter_lt b f j i;simp only[List.filter_cons];cases g:p y with
  |true=>rw[b y g];simpa using e|false=>cases q y<;>simp<;>omega
def Ui{b c:Nat}(f:c<m)(h:0<=d c)(g:d c<d b):rank m d c<rank m d b:=by
 refine filter_lt (x:=c) (λy e=>?_) (List.mem_range.2 f) ?_ ?_;have:=of_decide_eq_true e;exact decide_eq_true (by omega);exact decide_eq_false (by omega);exact decide_eq_true (by omega)
def J1{x:Nat}(b:x<m):at1 (nN m a) x=if x=a then 0 else -1:=by
 unfold at1 nN;rw[List.getD_eq_getElem?_getD,List.getElem?_map,List.getElem?_range b];rfl
def vw(ls:Ll)(m a r:Nat):bfN ls m a (r+1)=G6 ls (bfN ls m a r):=by
 unfold bfN;rw[List.range_succ,List.foldl_append];rfl
def PR(i:bW m ls)(h:mN ls a d)(z:a<m):∀r,Abv m d (bfN ls m a r)/\∀b,b<m->0<=d b->rank m d b<=r->Z3 d (bfN ls m a r) b
 |0=>by
  have e:bfN ls m a 0=nN m a:=rfl;rw[e];refine⟨⟨by simp[nN],λb f=>?_⟩,λb f j L=>?_⟩;rw[J1 f];split;rename_i e;subst e;right;rw[h.self];omega;exact .inl rfl;by_cases e:b=a;subst e;exact⟨j,by rw[J1 f,if_pos rfl,h.self]⟩;obtain⟨l,u,v,y,A⟩:=h.last b (Nat.lt_of_lt_of_le f i.n12) e j;have:=(i.at_ l u).2.2.2.2.2.1;have:=Ui (m:=m) (d:=d) (b:=b) (c:=a) z (by rw[h.self];omega) (by rw[h.self];omega);omega
 |r+1=>by
  obtain⟨g1,g2⟩:=PR i h z r;obtain⟨X,V,T⟩:=aAo i h ls (bfN ls m a r) (λ_ h=>h) g1;rw[vw];refine⟨X,λb f j L=>?_⟩;by_cases e:b=a;have:rank m d b<=r\/rank m d b=r+1:=by omega
  have hz:rank m d b=0:=by
   unfold rank;rw[List.length_eq_zero_iff,List.filter_eq_nil_iff];intro x _;rw[e,h.self];exact λg=>by have:=of_decide_eq_true g;omega
  exact V b f (g2 b f j (by omega));obtain⟨l,u,v,y,A⟩:=h.last b (Nat.lt_of_lt_of_le f i.n12) e j;have o:=i.at_ l u;have O:=Ui (m:=m) (d:=d) (b:=b) (c:=(bn l).toNat) (by omega) y (by omega);have G:=g2 _ (by omega) y (by omega);have:=T l u G (by rw[v];exact j) (by rw[v];exact A);rwa [v]at this
def Uj(b:Nat):rank m d b<=m:=by
 unfold rank;exact Nat.le_trans (List.length_filter_le _ _) (by rw[List.length_range];exact Nat.le_refl _)
def ZR(g:bW m ls)(j:a<m):bfN ls m a m=jR m ls a:=by
 have h:=qp g (Nat.lt_of_lt_of_le j g.n12);obtain⟨g1,g2⟩:=PR g h j m;apply List.ext_getElem?;intro b;unfold jR;by_cases hb:b<m;rw[List.getElem?_map,List.getElem?_range hb];have i:b<(bfN ls m a m).length:=by rw[g1.1];exact hb
 have e:at1 (bfN ls m a m) b=cell (cJ ls) a b:=by
  rcases g1.2 b hb with q|q;have f:=h.low b (Nat.lt_of_lt_of_le hb g.n12);by_cases p:0<=cell (cJ ls) a b;exact(g2 b hb p (Uj b)).2;rw[q];have:-1<=cell (cJ ls) a b:=f;omega;exact(g2 b hb q.1 (Uj b)).2
 rw[List.getElem?_eq_getElem i];unfold at1 at e;rw[List.getD_eq_getElem?_getD,List.getElem?_eq_getElem i]at e;simpa using e;rw[List.getElem?_eq_none (by rw[g1.1];omega),List.getElem?_eq_none (by simp;omega)]
end
end Go.Eng.Sv
set_option maxRecDepth 100000
noncomputable section
namespace Go.Eng.Sv
open Go.Proofs
noncomputable abbrev yv:=Tryz.prog
abbrev I:Ty:=.int .i64
abbrev U:Ty:=.int .u8
abbrev B:Ty:=.sl .bool
abbrev R:Ty:=.sl I
abbrev LC:Type:=List (Int×List Bool×Li)
abbrev LB:Type:=List ByteArray
abbrev C:Ty:=.pair I (.pair B R)
abbrev S:Ty:=.str
abbrev cal(z:Int)(w:List Bool)(h:Li):AV:=.agg [.dat I z,.dat B w,.dat R h]
def kw:List ByteArray:=[⟨#[99,97,108,101,110,100,97,114]⟩,⟨#[111,112,101,114,97,116,111,114]⟩,⟨#[111,102,102,105,99,101]⟩,⟨#[108,105,110,101]⟩,⟨#[99,108,97,115,115]⟩,⟨#[122,111,110,101]⟩,⟨#[119,101,101,107]⟩,⟨#[104,111,108,105,100,97,121]⟩,⟨#[112,111,99,107,101,116,115]⟩,⟨#[112,97,115,115,101,115]⟩,⟨#[109,105,110,117,116,101,115]⟩,⟨#[99,111,100,101,115]⟩,⟨#[97,116]⟩,⟨#[116,114,97,118,101,108]⟩,⟨#[108,111,97,100]⟩,⟨#[99,117,116]⟩,⟨#[100,101,108,105,118,101,114]⟩]
def ko(b:Int):Bool:=decide (97<=b/\b<=122)
def gw(b:Int):Bool:=decide (48<=b/\b<=57)
def cP(v a b:Int):Bool:=decide (a<=v/\v<=b)
def nameB(b:Int):Bool:=ko b||gw b||decide (b=95)
def Ah(b:Int):Bool:=gw b||decide (65<=b/\b<=90)
def isKey(s:ByteArray):Bool:=kw.any λw=>w.toList==s.toList
def bV(s:ByteArray):Bool:=decide (1<=s.size/\s.size<=16)&&ko ((s.data.getD 0 0).toNat:Int)&&(s.data.toList.all λb=>nameB (b.toNat:Int))&&!isKey s
def cO(s:ByteArray):Bool:=decide (1<=s.size/\s.size<=8)&&s.data.toList.all λb=>Ah (b.toNat:Int)
def lL(s:ByteArray)(k:Int):Prop:=0<=k/\k<=s.size/\(s.data.toList.take k.toNat).all (λb=>nameB (b.toNat:Int))=true
def lU(s:ByteArray)(k:Int):Prop:=0<=k/\k<=s.size/\(s.data.toList.take k.toNat).all (λb=>Ah (b.toNat:Int))=true
def sE(s:ByteArray)(k:Int):Prop:=0<=k/\k<=17/\(kw.take k.toNat).any (λw=>w.toList==s.toList)=false
def aA(z:Int)(w:List Bool)(h:Li):Bool:=decide (-720<=z/\z<=840/\w.length=7/\h.length<=40)&&(List.range (h.length-1)).all λi=>decide (h.getD i 0<h.getD (i+1) 0)
def oW(w:List Bool)(h:Li):Bool:=decide (w.length<=20)&&decide (h.length<=60)
def uT(h:Li)(k:Int):Prop:=1<=k/\(k<=h.length\/k=1)/\h.length<=40/\∀i:Nat,(i:Int)+1<k->h.getD i 0<h.getD (i+1) 0
def bU(k:Int):Int:=if k=3 then 12 else if k=4 then 40 else if k=5 then 4 else 6
def K0:Kt:=λf args m=>none
def G0:List (Nat×AV):=[(0,.ia S kw)]
def KI0:FuncId->List AV->Option jX:=λ_ _=>none
noncomputable def mkc(K:Kt):Cfg:=⟨yv,G0,K,λ_=>false,KI0,false,λ_ _ _=>none,λ_=>false⟩
def Nl(h:Li):Ann:=Z8 4 Int (uT h) (λs k=>put s [(3,.dat I k)]) λk=>Dc (Di (Df h) k)
def K1:Kt:=λf args m=>match f,args,m with|168,[.agg [.dat (.int .i64) z,.dat (.sl .bool) w,.dat (.sl (.int .i64)) h]],[]=>some ⟨True,.dat .bool (aA z w h),[]⟩|158,[.agg [.dat (.int .i64) z,.dat (.sl .bool) w,.dat (.sl (.int .i64)) h]],[]=>some ⟨True,.dat .bool (aA z w h),[]⟩|82,[.agg [.dat (.int .i64) z,.dat (.sl .bool) w,.dat (.sl (.int .i64)) h]],[]=>some ⟨True,.dat .bool (oW w h),[]⟩|270,[.dat (.int .u8) b],[]=>some ⟨True,.dat .bool (ko b),[]⟩|271,[.dat (.int .u8) b],[]=>some ⟨True,.dat .bool (gw b),[]⟩|287,[.dat (.int .u8) b],[]=>some ⟨True,.dat .bool (gw b),[]⟩|235,[.dat (.int .i64) v,.dat (.int .i64) a,.dat (.int .i64) b],[]=>some ⟨True,.dat .bool (cP v a b),[]⟩|290,[.dat (.int .i64) v,.dat (.int .i64) a,.dat (.int .i64) b],[]=>some ⟨True,.dat .bool (cP v a b),[]⟩|214,[.dat (.int .i64) k],[]=>some ⟨True,.dat I (bU k),[]⟩|292,[],[]=>some ⟨True,.dat (.sl S) kw,[]⟩|_,_,_=>none
def aCS(s:ByteArray):Ann:=⟨λb st=>match b with
 |4=>some {α:=Int,inv:=λk=>lL s k,st:=λk=>put st [(24,.dat I k)],μ:=λk=>Dc (Di (Eo s) k)}|10=>some {α:=Int,inv:=λk=>sE s k,st:=λk=>put st [(42,.dat I k)],μ:=λk=>Dc (Di 17 k)}|_=>none,λ_ _=>none,λ_ _=>none⟩
def aCT(s:ByteArray):Ann:=Z8 4 Int (lU s) (λb k=>put b [(16,.dat I k)]) λk=>Dc (Di (Eo s) k)
def aKB(s:ByteArray):Ann:=Z8 3 Int (sE s) (λb k=>put b [(4,.dat I k)]) λk=>Dc (Di 17 k)
def aFf(s:ByteArray):Ann:=Z8 4 Int (lL s) (λb k=>put b [(3,.dat I k)]) λk=>Dc (Di (Eo s) k)
def aFi(s:ByteArray):Ann:=Z8 4 Int (lU s) (λb k=>put b [(3,.dat I k)]) λk=>Dc (Di (Eo s) k)
def K2:Kt:=λf args m=>match f,args,m with|183,[.dat (.int .i64) v],[]=>some ⟨True,.dat .bool (cP v 0 1439),[]⟩|223,[.dat .str s],[]=>some ⟨True,.dat .bool (bV s),[]⟩|234,[.dat .str s],[]=>some ⟨True,.dat .bool (cO s),[]⟩|286,[.dat .str s],[]=>some ⟨True,.dat .bool (isKey s),[]⟩|_,_,_=>K1 f args m
def uE(x y:Bool):Dz x true y=(x||y):=by cases x<;>rfl
def jS(x y:Bool):Dz x y false=(x&&y):=by cases x<;>rfl
def hm:yv.follows .mixedOrders=true:=by kernel_rfl
def KS0:ai yv G0 K0:=λf args m c h=>by cases h
def gC:bh yv G0 KI0:=λf args c h=>by cases h
def zE{K:Kt}{A:Ann}{f:FuncId}{args:List AV}{m:Mem}{r:jY}{p:Prop}(b:ai yv G0 K)(h:p)(e:evF (mkc K) A f args m r=(true=true/\p):=by kernel_rfl):ah yv G0 f args m r:=px (c:=mkc K) b gC hm (by rw[e];exact⟨rfl,h⟩)
abbrev eO:=EO yv G0
def Wx(z:Int)(w:List Bool)(h:Li):Prop:=(-720<=z/\z<=840/\w.length=7/\h.length<=40)/\∀i:Nat,i+1<h.length->h.getD i 0<h.getD (i+1) 0
def bD{z:Int}{w:List Bool}{h:Li}:aA z w h=true↔Wx z w h:=by
 unfold aA Wx;rw[qC,qE,qQ];refine and_congr_right λ_=>⟨λg i b=>?_,λg i b=>?_⟩;have:=g i (qW.2 Z);simpa using this;have:=qW.1 b;simpa using g i Z
def sa{z:Int}{w:List Bool}{h:Li}(e:¬Wx z w h):false=aA z w h:=by
 cases b:aA z w h with
 |false=>rfl|true=>exact(e (bD.1 b)).elim
def Jp{h:Li}(b:¬(h.length:Int)>40):uT h 1:=⟨qH _,.inr rfl,Z,λi e=>Z⟩
def DO{h:Li}{x:Int}(b:uT h x)(g:x<h.length)(f:h.getD (x-1).toNat 0<h.getD x.toNat 0):uT h (x+1):=by
 obtain⟨g1,g2,g3,g4⟩:=b;refine⟨Z,Z,g3,λi u=>?_⟩;by_cases e:(i:Int)+1<x;exact g4 i e;have r:(x-1).toNat=i:=by omega
 have j:x.toNat=i+1:=Z;rwa [r,j]at f
def Jq{z:Int}{w:List Bool}{h:Li}{x:Int}(b:uT h x)(f:x<h.length)(g:h.getD x.toNat 0<=h.getD (x-1).toNat 0):false=aA z w h:=by
 refine sa λe=>?_;have:=b.1;have:=e.2 (x-1).toNat Z;rw[show(x-1).toNat+1=x.toNat by omega]at this;omega
def Jr{z:Int}{w:List Bool}{h:Li}{x:Int}(b:uT h x)(e:¬x<h.length)(j:-720<=z)(g:z<=840)(f:w.length=7):true=aA z w h:=
 (bD.2 ⟨⟨j,g,f,by have:=b.2.2.1;omega⟩,λi r=>b.2.2.2 i Z⟩).symm
def Lc(z:Int)(w:List Bool)(h:Li):ah yv G0 168 [cal z w h] [] ⟨True,.dat .bool (aA z w h),[]⟩:=by
 refine zE (A:=(lvA [(4,[1,2,3])] (Nl h))) (p:=let r:=Dn z (-720);let e:=Dj r;let u:=Dz r true (Eh z 840);let f:=Dj u;let v:=Dz u true (Dw (Df w) 7);let j:=Dj v;let A:=Dz v true (Eh (Df h) 40);let i:=(z,w,h);(True->L7 e ((Dh true e->e)/\Q4 f ((Dh true f->f)/\Q4 j ((Dh true j->j)/\(A->false=aA z w h/\True)/\(A=false->(∃x,uT h x/\i=i/\1=x/\True)/\∀(x:Int),let G:=Dn x (Df h);let b:=x-1;let g:=Ef (Du h (Dc x) 0) (Du h (Dc b) 0);let L:=x+1;uT h x->(G->0<=x/\x<Df h/\inR .i64 b/\0<=b/\b<Df h/\(g->false=aA z w h/\True)/\(g=false->inR .i64 L/\∃y,uT h y/\(i=i/\L=y/\True)/\Dc (Df h-y)<Dc (Df h-x)))/\(G=false->true=aA z w h/\True))))))) KS0 λ_=>?_;refine Z9 ?_;refine⟨λT=>sa λG=>?_,λ⟨⟨⟨h1,X⟩,V⟩,L⟩=>⟨Jp L,λx f=>⟨λe=>?_,λr=>Jr f r Z Z Z⟩⟩⟩;obtain⟨⟨g1,g2,g3,g4⟩,_⟩:=G;omega;have v:=f.1;have u:=f.2.2.1;refine⟨Z,e,⟨Z,Z⟩,Z,Z,λj=>Jq f e j,λO=>⟨⟨Z,Z⟩,x+1,DO f e Z,rfl,Z⟩⟩
def X5(z:Int)(w:List Bool)(h:Li):ah yv G0 158 [cal z w h] [] ⟨True,.dat .bool (aA z w h),[]⟩:=by
 refine zE (A:=(lvA [(4,[1,2,3])] (Nl h))) (p:=let r:=Dn z (-720);let e:=Dj r;let u:=Dz r true (Eh z 840);let f:=Dj u;let v:=Dz u true (Dw (Df w) 7);let j:=Dj v;let A:=Dz v true (Eh (Df h) 40);let i:=(z,w,h);(True->L7 e ((Dh true e->e)/\Q4 f ((Dh true f->f)/\Q4 j ((Dh true j->j)/\(A->false=aA z w h/\True)/\(A=false->(∃x,uT h x/\i=i/\1=x/\True)/\∀(x:Int),let G:=Dn x (Df h);let b:=x-1;let g:=Ed (Du h (Dc b) 0) (Du h (Dc x) 0);let L:=x+1;uT h x->(G->inR .i64 b/\0<=b/\b<Df h/\0<=x/\x<Df h/\(g->false=aA z w h/\True)/\(g=false->inR .i64 L/\∃y,uT h y/\(i=i/\L=y/\True)/\Dc (Df h-y)<Dc (Df h-x)))/\(G=false->true=aA z w h/\True))))))) KS0 λ_=>?_;refine Z9 ?_;refine⟨λT=>sa λG=>?_,λ⟨⟨⟨h1,X⟩,V⟩,L⟩=>⟨Jp L,λx f=>⟨λe=>?_,λr=>Jr f r Z Z Z⟩⟩⟩;obtain⟨⟨g1,g2,g3,g4⟩,_⟩:=G;omega;have v:=f.1;have u:=f.2.2.1;refine⟨⟨Z,Z⟩,Z,Z,Z,e,λj=>Jq f e j,λO=>⟨⟨Z,Z⟩,x+1,DO f e Z,rfl,Z⟩⟩
def aCa(z:Int)(w:List Bool)(h:Li):ah yv G0 82 [cal z w h] [] ⟨True,.dat .bool (oW w h),[]⟩:=by
 refine zE (A:=az) (p:=let b:=Ef (Df w) 20;(True->Q4 b ((Dh true b->b)/\Dz b (Ef (Df h) 60) false=oW w h/\True))) KS0 λ_=>?_;simp only[qc,Dh,Eu,Dj,oW,Ef,Df];congr 1<;>congr 1<;>exact propext Z
def nP(p q:Prop)[Decidable p][Decidable q]:(decide p&&decide q)=decide (p/\q):=by by_cases e:p<;>by_cases b:q<;>simp[e,b]
def TK(b:Int):ah yv G0 270 [.dat U b] [] ⟨True,.dat .bool (ko b),[]⟩:=by
 refine zE (A:=az) (p:=let e:=Ed b 97;(True->L4 e ((Dh true e->e)/\Dz e (Ef b 122) false=ko b/\True))) KS0 λ_=>?_;simp only[qc,Dh,Eu,Dj,ko,Ed,Ef,nP,kQ]
def TL(b:Int):ah yv G0 271 [.dat U b] [] ⟨True,.dat .bool (gw b),[]⟩:=by
 refine zE (A:=az) (p:=let e:=Ed b 48;(True->L4 e ((Dh true e->e)/\Dz e (Ef b 57) false=gw b/\True))) KS0 λ_=>?_;simp only[qc,Dh,Eu,Dj,gw,Ed,Ef,nP,kQ]
def aCg(b:Int):ah yv G0 287 [.dat U b] [] ⟨True,.dat .bool (gw b),[]⟩:=by
 refine zE (A:=az) (p:=let e:=Ed b 48;(True->L4 e ((Dh true e->e)/\Dz e (Ef b 57) false=gw b/\True))) KS0 λ_=>?_;simp only[qc,Dh,Eu,Dj,gw,Ed,Ef,nP,kQ]
def X7(v a b:Int):ah yv G0 235 [.dat I v,.dat I a,.dat I b] [] ⟨True,.dat .bool (cP v a b),[]⟩:=by
 refine zE (A:=az) (p:=let e:=Ed v a;(True->L7 e ((Dh true e->Ed v a)/\Dz e (Ef v b) false=cP v a b/\True))) KS0 λ_=>?_;simp only[qc,Dh,Eu,Dj,cP,Ed,Ef,nP,kQ]
def TP(v a b:Int):ah yv G0 290 [.dat I v,.dat I a,.dat I b] [] ⟨True,.dat .bool (cP v a b),[]⟩:=by
 refine zE (A:=az) (p:=let e:=Ed v a;(True->L7 e ((Dh true e->Ed v a)/\Dz e (Ef v b) false=cP v a b/\True))) KS0 λ_=>?_;simp only[qc,Dh,Eu,Dj,cP,Ed,Ef,nP,kQ]
def aCc(k:Int):ah yv G0 214 [.dat I k] [] ⟨True,.dat I (bU k),[]⟩:=by
 refine zE (A:=az) (p:=let b:=Eb k 3;let e:=Eb k 4;let f:=Eb k 5;(True->(b->12=bU k/\True)/\(b=false->(e->40=bU k/\True)/\(e=false->(f->4=bU k/\True)/\(f=false->6=bU k/\True))))) KS0 λ_=>?_;refine Z9 ?_;simp only[qc,bU];refine⟨λh=>by rw[if_pos h],λb=>⟨λh=>by rw[if_neg b,if_pos h],λe=>⟨λh=>by rw[if_neg b,if_neg e,if_pos h],λh=>by rw[if_neg b,if_neg e,if_neg h]⟩⟩⟩
def aEV:ah yv G0 292 [] [] ⟨True,.dat (.sl S) kw,[]⟩:=
 zE (A:=az) (p:=(True->[ByteArray.mk #[(99:UInt8),(97:UInt8),(108:UInt8),(101:UInt8),(110:UInt8),(100:UInt8),(97:UInt8),(114:UInt8)],ByteArray.mk #[(111:UInt8),(112:UInt8),(101:UInt8),(114:UInt8),(97:UInt8),(116:UInt8),(111:UInt8),(114:UInt8)],ByteArray.mk #[(111:UInt8),(102:UInt8),(102:UInt8),(105:UInt8),(99:UInt8),(101:UInt8)],ByteArray.mk #[(108:UInt8),(105:UInt8),(110:UInt8),(101:UInt8)],ByteArray.mk #[(99:UInt8),(108:UInt8),(97:UInt8),(115:UInt8),(115:UInt8)],ByteArray.mk #[(122:UInt8),(111:UInt8),(110:UInt8),(101:UInt8)],ByteArray.mk #[(119:UInt8),(101:UInt8),(101:UInt8),(107:UInt8)],ByteArray.mk #[(104:UInt8),(111:UInt8),(108:UInt8),(105:UInt8),(100:UInt8),(97:UInt8),(121:UInt8)],ByteArray.mk #[(112:UInt8),(111:UInt8),(99:UInt8),(107:UInt8),(101:UInt8),(116:UInt8),(115:UInt8)],ByteArray.mk #[(112:UInt8),(97:UInt8),(115:UInt8),(115:UInt8),(101:UInt8),(115:UInt8)],ByteArray.mk #[(109:UInt8),(105:UInt8),(110:UInt8),(117:UInt8),(116:UInt8),(101:UInt8),(115:UInt8)],ByteArray.mk #[(99:UInt8),(111:UInt8),(100:UInt8),(101:UInt8),(115:UInt8)],ByteArray.mk #[(97:UInt8),(116:UInt8)],ByteArray.mk #[(116:UInt8),(114:UInt8),(97:UInt8),(118:UInt8),(101:UInt8),(108:UInt8)],ByteArray.mk #[(108:UInt8),(111:UInt8),(97:UInt8),(100:UInt8)],ByteArray.mk #[(99:UInt8),(117:UInt8),(116:UInt8)],ByteArray.mk #[(100:UInt8),(101:UInt8),(108:UInt8),(105:UInt8),(118:UInt8),(101:UInt8),(114:UInt8)]]=kw/\True)) KS0 λ_=>⟨rfl,trivial⟩
def KS1:ai yv G0 K1:=by
 intro f args m c h;unfold K1 at h;split at h;cases h;exact Lc _ _ _;cases h;exact X5 _ _ _;cases h;exact aCa _ _ _;cases h;exact TK _;cases h;exact TL _;cases h;exact aCg _;cases h;exact X7 _ _ _;cases h;exact TP _ _ _;cases h;exact aCc _;cases h;exact aEV;cases h
def Ro(s:ByteArray)(i:Nat):(Fq s).getD i 0=((s.data.getD i 0).toNat:Int):=by
 show(List.map (λb:UInt8=>(b.toNat:Int)) s.data.toList).getD i 0=_;rw[qA,qX,yP,qV];cases s.data[i]?<;>rfl
def JV(s:ByteArray)(x:Int):(Fq s).getD x.toNat 0=Fv s x:=Ro s x.toNat
def uH(s:ByteArray):(Fq s).length=s.size:=by
 show(List.map _ s.data.toList).length=s.data.size;rw[vG,vU]
def oG(s:ByteArray):s.data.toList.length=s.size:=vU
def dz{α:Type}{l:List α}{p:α->Bool}{d:α}{k:Nat}(h:(l.take k).all p=true)(e:k<l.length)(b:p (l.getD k d)=true):(l.take (k+1)).all p=true:=by
 rw[wW,qB e,gV,h];rw[qA,qB e]at b;simpa using b
def jW{α:Type}{l:List α}{p:α->Bool}{d:α}{k:Nat}(e:k<l.length)(b:p (l.getD k d)=false):l.all p=false:=by
 rw[qA,qB e]at b;rw[qAj];exact⟨l[k],wL e,by simpa using b⟩
def aAu{α:Type}{l:List α}{p:α->Bool}{d:α}{k:Nat}(e:k<l.length)(b:p (l.getD k d)=true):l.any p=true:=by
 rw[qA,qB e]at b;exact xI.2 ⟨l[k],wL e,by simpa using b⟩
def ED{α:Type}{l:List α}{p:α->Bool}{d:α}{k:Nat}(h:(l.take k).any p=false)(e:k<l.length)(b:p (l.getD k d)=false):(l.take (k+1)).any p=false:=by
 rw[wW,qB e,qBw,h];rw[qA,qB e]at b;simpa using b
def rL(s:ByteArray)(i:Nat):s.data.toList.getD i 0=s.data.getD i 0:=by
 rw[qA,yP,qV]
def xu(s:ByteArray):lL s 0:=⟨qH _,qI _,by simp⟩
def Ae(s:ByteArray):lU s 0:=⟨qH _,qI _,by simp⟩
def DK(s:ByteArray):sE s 0:=⟨qH _,by decide,by simp⟩
def xw{s:ByteArray}{x:Int}(h:lL s x)(f:x<s.size)(b:nameB (Fv s x)=true):lL s (x+1):=by
 obtain⟨i,g,e⟩:=h;refine⟨Z,Z,?_⟩;rw[show(x+1).toNat=x.toNat+1 by omega];exact dz (d:=0) e (by rw[oG];omega) (by rw[rL];exact b)
def Af{s:ByteArray}{x:Int}(h:lU s x)(f:x<s.size)(b:Ah (Fv s x)=true):lU s (x+1):=by
 obtain⟨i,g,e⟩:=h;refine⟨Z,Z,?_⟩;rw[show(x+1).toNat=x.toNat+1 by omega];exact dz (d:=0) e (by rw[oG];omega) (by rw[rL];exact b)
def BU{s:ByteArray}{x:Int}(h:lL s x)(f:¬x<s.size):(s.data.toList.all λb=>nameB (b.toNat:Int))=true:=by
 obtain⟨i,g,e⟩:=h;rwa [qO (by rw[oG];omega)]at e
def DZ{s:ByteArray}{x:Int}(h:lU s x)(f:¬x<s.size):(s.data.toList.all λb=>Ah (b.toNat:Int))=true:=by
 obtain⟨i,g,e⟩:=h;rwa [qO (by rw[oG];omega)]at e
def N8{s:ByteArray}{x:Int}(h:lL s x)(f:x<s.size)(e:nameB (Fv s x)=false):(s.data.toList.all λb=>nameB (b.toNat:Int))=false:=
 jW (d:=0) (k:=x.toNat) (by rw[oG];have:=h.1;omega) (by rw[rL];exact e)
def Px{s:ByteArray}{x:Int}(h:lU s x)(f:x<s.size)(e:Ah (Fv s x)=false):(s.data.toList.all λb=>Ah (b.toNat:Int))=false:=
 jW (d:=0) (k:=x.toNat) (by rw[oG];have:=h.1;omega) (by rw[rL];exact e)
def DL{s:ByteArray}{x:Int}(h:sE s x)(g:x<17)(b:s.toList≠(kw.getD x.toNat ⟨#[]⟩).toList):sE s (x+1):=by
 obtain⟨j,i,f⟩:=h;refine⟨Z,Z,?_⟩;rw[show(x+1).toNat=x.toNat+1 by omega];exact ED (d:=⟨#[]⟩) f (by show x.toNat<17;omega) (by simpa using λe=>b e.symm)
def xV{s:ByteArray}{x:Int}(h:sE s x)(e:x<17)(b:s.toList=(kw.getD x.toNat ⟨#[]⟩).toList):isKey s=true:=
 aAu (d:=⟨#[]⟩) (k:=x.toNat) (by have:=h.1;show x.toNat<17;omega) (by simpa using b.symm)
def Jj{s:ByteArray}{x:Int}(h:sE s x)(e:¬x<17):isKey s=false:=by
 obtain⟨g,f,b⟩:=h;have:x=17:=Z;subst this;exact b
def xr{s:ByteArray}(h:bV s=true->False):false=bV s:=by
 cases e:bV s with
 |false=>rfl|true=>exact(h e).elim
def GU{s:ByteArray}(h:cO s=true->False):false=cO s:=by
 cases e:cO s with
 |false=>rfl|true=>exact(h e).elim
def ga{s:ByteArray}:bV s=true↔(1<=s.size/\s.size<=16)/\ko (Fv s 0)=true/\(s.data.toList.all λb=>nameB (b.toNat:Int))=true/\isKey s=false:=by
 unfold bV;simp only[qC,qE,yC,qCi];exact Iff.rfl
def iP{s:ByteArray}:cO s=true↔(1<=s.size/\s.size<=8)/\(s.data.toList.all λb=>Ah (b.toNat:Int))=true:=by
 unfold cO;simp only[qC,qE]
def xx{b:Int}(g:ko b=false)(f:gw b=false)(e:b≠95):nameB b=false:=by simp[nameB,g,f,e]
def Qp(v:Int):ah yv G0 183 [.dat I v] [] ⟨True,.dat .bool (cP v 0 1439),[]⟩:=
 zE (A:=az) (p:=let b:=cP v 0 1439;(True->True/\T3 b)) KS1 λ_=>⟨trivial,rfl,trivial⟩
def N9{b:Int}(h:ko b=false->gw b=false->b=95):nameB b=true:=by
 unfold nameB;cases f:ko b with
 |true=>rfl|false=>cases e:gw b with
  |true=>rfl|false=>simpa using h f e
def Py{b:Int}(h:gw b=false->65<=b/\b<=90):Ah b=true:=by
 unfold Ah;cases e:gw b with
 |true=>rfl|false=>simpa using h e
def Ag{b:Int}(e:gw b=false)(f:b<65\/b>90):Ah b=false:=by
 unfold Ah;rw[e];simp;omega
def KX{b:Int}(f:¬b<97)(e:¬b>122):ko b=true:=qU Z
def HK{b:Int}(h:b<97\/b>122):ko b=false:=vF Z
def X6(s:ByteArray):ah yv G0 223 [.dat S s] [] ⟨True,.dat .bool (bV s),[]⟩:=by
 refine zE (A:=(lvA [(4,[0,2,4,6,22,23,24,41,42]),(10,[0,2,6,41,42])] (aCS s))) (p:=let e:=Fq s;let j:=Dn (Eo s) 1;let g:=Dj j;let v:=Dz j true (Eh (Eo s) 16);let b:=Dj v;let z:=Dz v true (Dj (ko (Fv s 0)));(True->L7 g ((Dh true g->g)/\L4 b ((b->Dl 0 0)/\(b->0<Eo s)/\L4 b ((b->True)/\L4 b ((Dh true b->b)/\(z->false=bV s/\True)/\(z=false->(∃x,lL s x/\Q2 s (Fq s) (Df e) (0=x/\True))/\∀(x:Int),let A:=Dn x (Df e);let h:=Du e (Dc x) 0;let i:=Dj (ko h);let f:=Dz i (Dj (gw h)) false;let u:=Dz f (Dw h 95) false;let r:=x+1;lL s x->(A->0<=x/\x<Df e/\True/\L4 i ((i->True)/\L4 i ((Dh true i->i)/\L4 f ((Dh true f->f)/\(u->false=bV s/\True)/\(u=false->inR .i64 r/\∃y,lL s y/\(Q2 s (Fq s) (Df e) (r=y/\True))/\Dc (Eo s-y)<Dc (Eo s-x))))))/\(A=false->Dk kw=17/\(∃G,sE s G/\L5 s kw (0=G/\True))/\∀(xb:Int),let L:=Dn xb 17;let O:=Fz s (Du kw (Dc xb) (ByteArray.mk #[]));let T:=xb+1;sE s xb->(L->0<=xb/\xb<Ea 17/\Dk kw=17/\(O->false=bV s/\True)/\(O=false->inR .i64 T/\∃y,sE s y/\(L5 s kw (T=y/\True))/\Dc (17-y)<Dc (17-xb)))/\(L=false->true=bV s/\True))))))))) KS1 λ_=>?_;refine Z9 ?_;simp only[qc,JV,uH];refine⟨λ_=>qH _,λh=>Z,λh=>xr λg=>?_,λ⟨⟨h1,h2⟩,X⟩=>⟨xu s,λx f=>⟨λb=>?_,λz=>?_⟩⟩⟩;rw[ga]at g;rcases h with h|h;omega;rw[g.2.1]at h;cases h;refine⟨f.1,b,λ⟨⟨b1,b2⟩,b3⟩=>xr λg=>?_,λV=>⟨⟨by have:=f.1;omega,Z⟩,x+1,xw f b (N9 λO L=>V ⟨O,L⟩),rfl,by have:=f.1;omega⟩⟩;have:=N8 f b (xx b1 b2 b3);rw[(ga.1 g).2.2.1]at this;cases this
 refine⟨rfl,DK s,λy e=>⟨λb=>⟨e.1,Z,rfl,λT=>xr λg=>?_,λv=>⟨⟨by have:=e.1;omega,Z⟩,y+1,DL e b v,rfl,by have:=e.1;omega⟩⟩,λj=>(ga.2 ⟨Z,X,BU f z,Jj e j⟩).symm⟩⟩;have:=xV e b T;rw[(ga.1 g).2.2.2]at this;cases this
def X8(s:ByteArray):ah yv G0 234 [.dat S s] [] ⟨True,.dat .bool (cO s),[]⟩:=by
 refine zE (A:=(lvA [(4,[2,4,14,15,16])] (aCT s))) (p:=let b:=Fq s;let i:=Dn (Eo s) 1;let g:=Dj i;let r:=Dz i true (Eh (Eo s) 8);(True->L7 g ((Dh true g->g)/\(r->false=cO s/\True)/\(r=false->(∃x,lU s x/\L5 (Fq s) (Df b) (0=x/\True))/\∀(x:Int),let u:=Dn x (Df b);let h:=Du b (Dc x) 0;let e:=Dj (gw h);let f:=Dn h 65;let j:=Dz e (Dz f true (Eh h 90)) false;let v:=x+1;lU s x->(u->0<=x/\x<Df b/\True/\L7 e (L4 (Dh e (Dj f)) (L4 e ((e->Dh e (Dj f)->Dh e (Dj f))/\(Dh true e->e)/\(j->false=cO s/\True)/\(j=false->inR .i64 v/\∃y,lU s y/\(L5 (Fq s) (Df b) (v=y/\True))/\Dc (Eo s-y)<Dc (Eo s-x))))))/\(u=false->true=cO s/\True))))) KS1 λ_=>?_;refine Z9 ?_;simp only[qc,JV,uH];refine⟨λh=>GU λg=>by rw[iP]at g;omega,λ⟨L,G⟩=>⟨Ae s,λx f=>⟨λe=>?_,λi=>(iP.2 ⟨Z,DZ f i⟩).symm⟩⟩⟩;refine⟨f.1,e,λ⟨z,v⟩=>GU λg=>?_,λu=>⟨⟨by have:=f.1;omega,Z⟩,x+1,Af f e (Py λr=>by have:=u r;omega),rfl,by have:=f.1;omega⟩⟩;have:=Px f e (Ag z v);rw[(iP.1 g).2]at this;cases this
def aIf(s:ByteArray):ah yv G0 286 [.dat S s] [] ⟨True,.dat .bool (isKey s),[]⟩:=by
 refine zE (A:=(lvA [(3,[0,2,3,4])] (aKB s))) (p:=(True->True/\(∃x,sE s x/\L5 s kw (0=x/\True))/\∀(x:Int),let b:=Dn x (Df kw);let e:=Fz (Du kw (Dc x) (ByteArray.mk #[])) s;let f:=x+1;sE s x->(b->0<=x/\x<Df kw/\(e->true=isKey s/\True)/\(e=false->inR IntKind.i64 f/\∃y,sE s y/\(L5 s kw (f=y/\True))/\Dc (17-y)<Dc (17-x)))/\(b=false->false=isKey s/\True))) KS1 λ_=>?_;refine Z9 ?_;have j:(kw.length:Int)=17:=rfl;refine⟨DK s,λy b=>⟨λg=>⟨b.1,g,λi=>(xV b Z i.symm).symm,λf=>⟨⟨by have:=b.1;omega,Z⟩,y+1,DL b Z (λe=>f e.symm),rfl,by have:=b.1;omega⟩⟩,λh=>(Jj b Z).symm⟩⟩
def KS2:ai yv G0 K2:=by
 intro f args m c h;unfold K2 at h;split at h;cases h;exact Qp _;cases h;exact X6 _;cases h;exact X8 _;cases h;exact aIf _;exact KS1 _ _ _ _ h
abbrev Jh:=aj [.val S] (λ_=>True) λ(s,_)=>.dat .bool (bV s)
def aE1:eO 266 Jh:=ae λ((s:ByteArray),_)=>by
 refine zE (A:=(lvA [(4,[0,2,3])] (aFf s))) (p:=let f:=Eo s;let G:=Dn f 1;let A:=Dj G;let L:=Dz G true (Eh f 16);let g:=Dj L;let O:=Fv s 0;let T:=Dz L true (Dn O 97);let h:=Dj T;let v:=Dz T true (Eh O 122);let z:=Dj v;let r:=Dz v true (isKey s);(True->L7 A ((Dh true A->A)/\L4 g ((g->Dl 0 0)/\(g->0<Eo s)/\L4 g ((Dh true g->g)/\L4 h ((h->Dl 0 0)/\(h->0<Eo s)/\L4 h ((Dh true h->h)/\L4 z ((z->True)/\(Dh true z->z)/\(r->false=bV s/\True)/\(r=false->(∃x,lL s x/\s=s/\0=x/\True)/\∀(x:Int),let j:=Dn (Fv s x) 97;let u:=Dj j;let b:=Dz j true (Eh (Fv s x) 122);let e:=Dz b (Dj (gw (Fv s x))) false;let V:=Dz e (Dw (Fv s x) 95) false;let i:=x+1;lL s x->(Dn x f->0<=x/\x<Eo s/\L7 u ((u->0<=x)/\(u->x<Eo s)/\L4 u ((Dh true u->u)/\L7 b ((b->0<=x)/\(b->x<Eo s)/\L4 b ((b->True)/\L4 b ((Dh true b->b)/\L7 e ((e->0<=x)/\(e->x<Eo s)/\L4 e ((Dh true e->e)/\(V->false=bV s/\True)/\(V=false->inR .i64 i/\∃y,lL s y/\(s=s/\i=y/\True)/\Dc (Eo s-y)<Dc (Eo s-x))))))))))/\(Dn x f=false->true=bV s/\True)))))))))) KS2 λ_=>?_;refine Z9 ?_;refine⟨λ_=>qH _,λh=>Z,λ_=>qH _,λh=>Z,λh=>xr λg=>?_,λ⟨⟨⟨⟨h1,h2⟩,V⟩,T⟩,O⟩=>⟨xu s,λx e=>⟨λb=>?_,λu=>(ga.2 ⟨Z,KX V T,BU e u,O⟩).symm⟩⟩⟩;obtain⟨g1,g2,g3,g4⟩:=ga.1 g;have X:=vT g2;rcases h with h|h;omega;rw[g4]at h;cases h;refine⟨e.1,b,λ_=>e.1,λ_=>b,λ_=>e.1,λ_=>b,λ_=>e.1,λ_=>b,λ⟨⟨b1,b2⟩,b3⟩=>xr λg=>?_,λL=>⟨⟨by have:=e.1;omega,Z⟩,x+1,xw e b (N9 λG z=>L ⟨?_,z⟩),rfl,by have:=e.1;omega⟩⟩;have:=N8 e b (xx (HK b1) b2 b3);rw[(ga.1 g).2.2.1]at this;cases this;have:=kK G;omega
abbrev Ji:=aj [.val S] (λ_=>True) λ(s,_)=>.dat .bool (cO s)
def aE2:eO 293 Ji:=ae λ((s:ByteArray),_)=>by
 refine zE (A:=(lvA [(4,[0,2,3])] (aFi s))) (p:=let f:=Eo s;let h:=Dn f 1;let g:=Dj h;let j:=Dz h true (Eh f 8);(True->L7 g ((Dh true g->g)/\(j->false=cO s/\True)/\(j=false->(∃x,lU s x/\s=s/\0=x/\True)/\∀(x:Int),let r:=Dn (Fv s x) 65;let e:=Dj r;let b:=Dz r true (Eh (Fv s x) 90);let u:=Dz b (Dj (gw (Fv s x))) false;let i:=x+1;lU s x->(Dn x f->0<=x/\x<Eo s/\L7 e ((e->0<=x)/\(e->x<Eo s)/\L4 e ((Dh true e->e)/\L7 b ((b->0<=x)/\(b->x<Eo s)/\L4 b ((b->True)/\L4 b ((Dh true b->b)/\(u->false=cO s/\True)/\(u=false->inR .i64 i/\∃y,lU s y/\(s=s/\i=y/\True)/\Dc (Eo s-y)<Dc (Eo s-x))))))))/\(Dn x f=false->true=cO s/\True))))) KS2 λ_=>?_;refine Z9 ?_;refine⟨λh=>GU λg=>by rw[iP]at g;omega,λ⟨L,G⟩=>⟨Ae s,λx e=>⟨λb=>?_,λf=>(iP.2 ⟨Z,DZ e f⟩).symm⟩⟩⟩;refine⟨e.1,b,λ_=>e.1,λ_=>b,λ_=>e.1,λ_=>b,λ⟨z,v⟩=>GU λg=>?_,λu=>⟨⟨by have:=e.1;omega,Z⟩,x+1,Af e b (Py λj=>?_),rfl,by have:=e.1;omega⟩⟩;have:=Px e b (Ag v z);rw[(iP.1 g).2]at this;cases this;by_cases r:Fv s x<65\/Fv s x>90;have:=u r;rw[j]at this;cases this;omega
abbrev Of:Ty:=.pair S (.pair I (.pair I (.pair I (.pair I (.pair I (.sl S))))))
abbrev Ln:Ty:=.pair S (.pair I (.pair I (.pair I (.pair I I))))
abbrev Kl:Ty:=.pair S (.pair I I)
abbrev Fa:Ty:=.pair I (.pair I I)
abbrev N:Ty:=.pair (.sl C) (.pair (.sl S) (.pair (.sl S) (.pair (.sl Of) (.pair (.sl Ln) (.sl Kl)))))
abbrev Off:=ByteArray×Int×Int×Int×Int×Int×List ByteArray
abbrev Lo:=List Off
abbrev Cla:=ByteArray×Int×Int
abbrev Lk:=List Cla
abbrev Net:=List (Int×List Bool×Li)×List ByteArray×List ByteArray×Lo×Ll×Lk
abbrev net(i:LC)(e b:LB)(h:Lo)(f:Ll)(g:Lk):AV:=.agg [.dat (.sl C) i,.dat (.sl S) e,.dat (.sl S) b,.dat (.sl Of) h,.dat (.sl Ln) f,.dat (.sl Kl) g]
def cY(i n:Int):Bool:=decide (0<=i/\i<n)
def idx(i n:Int):Prop:=0<=i/\i<n
def KC(i n:Int):Prop:=0<=i/\i<n/\i<=1000
def iS(l:List ByteArray)(k:Int):Prop:=0<=k/\k<=l.length/\(l.take k.toNat).all cO=true
def dt(n:Net)(o:Off):Bool:=cY o.2.1 n.2.2.1.length&&cY o.2.2.1 n.1.length&&decide (o.2.2.2.2.2.2.length<=20)&&o.2.2.2.2.2.2.all cO&&cP o.2.2.2.1 2 64&&cP o.2.2.2.2.1 1 4&&cP o.2.2.2.2.2.1 1 240
def dN(n:Net)(l:Line):Bool:=cY l.2.1 n.2.2.2.1.length&&cY l.2.2.1 n.2.2.2.1.length&&decide (l.2.1≠l.2.2.1)&&cP l.2.2.2.1 0 1439&&cP l.2.2.2.2.1 1 5000&&cP l.2.2.2.2.2 1 40
def lq(k:Cla):Bool:=cP k.2.1 0 1439&&cP k.2.2 0 1439
def aL(e:List (Int×List Bool×Li))(b:List ByteArray):List ByteArray:=(List.range e.length).map λi=>b.getD i ⟨#[]⟩
def aN(b:Lo):List ByteArray:=b.map (·.1)
def aO(b:Ll):List ByteArray:=b.map (·.1)
def aP(b:Lk):List ByteArray:=b.map (·.1)
def bI(b:List (Int×List Bool×Li)):List Bool:=b.map λc=>aA c.1 c.2.1 c.2.2
def cN(b:List ByteArray):List Bool:=b.map λ_=>true
def fD(n:Net):List Bool:=n.2.2.2.1.map (dt n)
def eQ(n:Net):List Bool:=n.2.2.2.2.1.map (dN n)
def bP(b:Lk):List Bool:=b.map lq
def lr(l:List ByteArray)(i:Int):ByteArray:=l.getD i.toNat ⟨#[]⟩
def b8(l:List ByteArray)(i:Int):Int:=if bV (lr l i)then 0 else 1
def rule2(l:List ByteArray)(i:Int):Int:=if(l.take i.toNat).any (λw=>w.toList==(lr l i).toList)then 4 else 0
def cC(g:List Bool)(i:Int):Int:=if g.getD i.toNat false then 0 else 1
def uN(l:List ByteArray)(i k:Int):Prop:=0<=k/\k<=i/\(l.take k.toNat).any (λw=>w.toList==(lr l i).toList)=false
def cF(l:List ByteArray)(g:List Bool)(i k:Int):Prop:=0<=k/\k<=3/\(0<k->b8 l i=0)/\(1<k->rule2 l i=0)/\(2<k->cC g i=0)
def pg(l:List ByteArray)(g:List Bool)(i:Int):Int:=if b8 l i≠0 then b8 l i else if rule2 l i≠0 then rule2 l i else cC g i
def aZ(b:Int)(l:List ByteArray)(g:List Bool)(k:Int):List (Int×Int×Int):=(List.range k.toNat).filterMap λi:Nat=>if pg l g i=0 then none else some (b,(i:Int),pg l g i)
def Ij(e b:Int)(l:List ByteArray):List (Int×Int×Int):=if b<l.length then[(e,b,2)]else[]
def bQ(b e:Int)(l:List ByteArray)(g:List Bool):List (Int×Int×Int):=aZ b l g (min l.length e)++Ij b e l
def dU(k n b:Int):Prop:=0<=k/\k<=n/\k<=b
def Ge(n:Net):List (Int×Int×Int):=if n.2.1.length=n.1.length then[]else[(1,-1,1)]
def ak(n:Net)(k:Int):List ByteArray:=if k=1 then aL n.1 n.2.1 else if k=2 then n.2.2.1 else if k=3 then aN n.2.2.2.1 else if k=4 then aO n.2.2.2.2.1 else if k=5 then aP n.2.2.2.2.2 else[]
def gu(n:Net)(k:Int):List Bool:=if k=1 then bI n.1 else if k=2 then cN n.2.2.1 else if k=3 then fD n else if k=4 then eQ n else if k=5 then bP n.2.2.2.2.2 else[]
def aH(n:Net)(k:Int):List (Int×Int×Int):=Ge n++(List.range (k.toNat-1)).flatMap λj:Nat=>bQ (j+1) (bU (j+1)) (ak n (j+1)) (gu n (j+1))
def dw(n:Net):List (Int×Int×Int):=aH n 6
def jo(n:Net):Bool:=decide (n.1.length<=10/\n.2.1.length<=10/\n.2.2.1.length<=10/\n.2.2.2.1.length<=16/\n.2.2.2.2.1.length<=50/\n.2.2.2.2.2.length<=8)
def LI(n:Net)(o:Off):Prop:=jo n=true/\o.2.2.2.2.2.2.length<=30
abbrev CU:=aj [.val I,.val (.sl Of)] (λ_=>True) λ(i,b,_)=>.dat .bool (cY i (Df b))
abbrev I1:=aj [.val I,.val (.sl S)] (λ_=>True) λ(i,b,_)=>.dat .bool (cY i (Df b))
abbrev I2:=aj [.val I,.val (.sl C)] (λ_=>True) λ(i,b,_)=>.dat .bool (cY i (Df b))
def K3:Kt:=kOr 239 CU <|
 kOr 232 I1 <|
 kOr 233 I2 <|
 kOr 266 Jh <|
 kOr 293 Ji K2
def aF3(l:List ByteArray):Ann:=Z8 4 Int (iS l) (λb k=>put b [(30,.dat I k)]) λk=>Dc (Di (Df l) k)
def aIk(l:List ByteArray):Ann:=Z8 2 Int (iS l) (λb k=>put b [(5,.dat I k)]) λk=>Dc (Di (Df l) k)
abbrev nz:=aj [.row N,.row Of] (λ_=>True) λ(n,o,_)=>.dat .bool (dt n o)
abbrev rz:=aj [.row N,.row Ln] (λ_=>True) λ(n,l,_)=>.dat .bool (dN n l)
abbrev yW:=aj [.row N,.row Of] (λ(n,o,_)=>LI n o) λ(n,o,_)=>.dat .bool (dt n o)
abbrev IZ:=aj [.row N,.row Ln] (λ(n,_,_)=>jo n=true) λ(n,l,_)=>.dat .bool (dN n l)
def K4:Kt:=kOr 175 nz <|
 kOr 179 rz <|
 kOr 288 yW <|
 kOr 289 IZ K3
abbrev OI:=aj [.val I,.ptr N] (λ(i,(b,e,f,j,g,h),_)=>idx i (Df b)) λ(i,(b,e,f,j,g,h),_)=>.dat S (lr (aL b e) i)
abbrev OH:=aj [.val I,.ptr N] (λ(i,(j,e,b,h,f,g),_)=>idx i (Df b)) λ(i,(j,e,b,h,f,g),_)=>.dat S (lr (b) i)
abbrev OU:=aj [.row S] (λ_=>True) λ_=>.dat .bool true
abbrev OG:=aj [.val I,.ptr N] (λ(i,(j,f,e,b,g,h),_)=>idx i (Df b)) λ(i,(j,f,e,b,g,h),_)=>.dat S (lr (aN b) i)
abbrev OT:=aj [.row Of,.ptr N] (λ_=>True) λ(o,n,_)=>.dat .bool (dt n o)
abbrev OE:=aj [.val I,.ptr N] (λ(i,(j,f,e,h,b,g),_)=>idx i (Df b)) λ(i,(j,f,e,h,b,g),_)=>.dat S (lr (aO b) i)
abbrev OS:=aj [.row Ln,.ptr N] (λ_=>True) λ(l,n,_)=>.dat .bool (dN n l)
abbrev OD:=aj [.val I,.ptr N] (λ(i,(j,f,e,h,g,b),_)=>idx i (Df b)) λ(i,(j,f,e,h,g,b),_)=>.dat S (lr (aP b) i)
abbrev OR:=aj [.row Kl] (λ_=>True) λ(k,_)=>.dat .bool (lq k)
def K5:Kt:=kOr 166 OI <|
 kOr 169 OH <|
 kOr 171 OU <|
 kOr 172 OG <|
 kOr 174 OT <|
 kOr 176 OE <|
 kOr 178 OS <|
 kOr 180 OD <|
 kOr 182 OR K4
def twA(l:List ByteArray)(i:Int):Ann:=Z8 2 Int (uN l i) (λb k=>put b [(6,.dat I k)]) λk=>Dc (Di i k)
abbrev OA:=aj [.val I,.fnp 166 N] (λ(i,(b,e,f,j,g,h),_)=>idx i (Df b)) λ(i,(b,e,f,j,g,h),_)=>.dat I (b8 (aL b e) i)
abbrev Ou:=aj [.val I,.fnp 166 N] (λ(i,(b,e,f,j,g,h),_)=>KC i (Df b)) λ(i,(b,e,f,j,g,h),_)=>.dat I (rule2 (aL b e) i)
abbrev Oz:=aj [.val I,.fnp 169 N] (λ(i,(j,e,b,h,f,g),_)=>idx i (Df b)) λ(i,(j,e,b,h,f,g),_)=>.dat I (b8 (b) i)
abbrev Ot:=aj [.val I,.fnp 169 N] (λ(i,(j,e,b,h,f,g),_)=>KC i (Df b)) λ(i,(j,e,b,h,f,g),_)=>.dat I (rule2 (b) i)
abbrev Oy:=aj [.val I,.fnp 172 N] (λ(i,(j,f,e,b,g,h),_)=>idx i (Df b)) λ(i,(j,f,e,b,g,h),_)=>.dat I (b8 (aN b) i)
abbrev Oq:=aj [.val I,.fnp 172 N] (λ(i,(j,f,e,b,g,h),_)=>KC i (Df b)) λ(i,(j,f,e,b,g,h),_)=>.dat I (rule2 (aN b) i)
abbrev Ox:=aj [.val I,.fnp 176 N] (λ(i,(j,f,e,h,b,g),_)=>idx i (Df b)) λ(i,(j,f,e,h,b,g),_)=>.dat I (b8 (aO b) i)
abbrev Oo:=aj [.val I,.fnp 176 N] (λ(i,(j,f,e,h,b,g),_)=>KC i (Df b)) λ(i,(j,f,e,h,b,g),_)=>.dat I (rule2 (aO b) i)
abbrev Ov:=aj [.val I,.fnp 180 N] (λ(i,(j,f,e,h,g,b),_)=>idx i (Df b)) λ(i,(j,f,e,h,g,b),_)=>.dat I (b8 (aP b) i)
abbrev On:=aj [.val I,.fnp 180 N] (λ(i,(j,f,e,h,g,b),_)=>KC i (Df b)) λ(i,(j,f,e,h,g,b),_)=>.dat I (rule2 (aP b) i)
def K6:Kt:=
 kOr 222 OA <|
 kOr 224 Ou <|
 kOr 225 (aj [.val I,.fnp0 168,.ptr (.sl C)] (λ(i,_,f,_)=>idx i (Df f)) λ(i,_,f,_)=>.dat I (cC (bI f) i)) <|
 kOr 226 Oz <|
 kOr 227 Ot <|
 kOr 228 (aj [.val I,.fnp0 171,.ptr (.sl S)] (λ(i,_,b,_)=>idx i (Df b)) λ(i,_,b,_)=>.dat I (cC (cN b) i)) <|
 kOr 229 Oy <|
 kOr 230 Oq <|
 kOr 231 (aj [.val I,.fnp 174 N,.ptr (.sl Of)] (λ(i,(f,j,b,h,g,e),r,_)=>idx i (Df h)/\r=h) λ(i,(f,j,b,h,g,e),_,_)=>.dat I (cC (fD (f,j,b,h,g,e)) i)) <|
 kOr 236 Ox <|
 kOr 237 Oo <|
 kOr 238 (aj [.val I,.fnp 178 N,.ptr (.sl Ln)] (λ(i,(f,j,b,h,g,e),r,_)=>idx i (Df g)/\r=g) λ(i,(f,j,b,h,g,e),_,_)=>.dat I (cC (eQ (f,j,b,h,g,e)) i)) <|
 kOr 240 Ov <|
 kOr 241 On <|
 kOr 242 (aj [.val I,.fnp0 182,.ptr (.sl Kl)] (λ(i,_,e,_)=>idx i (Df e)) λ(i,_,e,_)=>.dat I (cC (bP e) i)) K5
def JU(b e:Int)(l:List ByteArray)(g:List Bool):Ann:=⟨λf st=>match f with
 |4=>some {α:=Int,inv:=λk=>dU k (Df l) e,st:=λk=>dD (put st [(25,.dat I k),(12,.buf 100 (Dk (aZ b l g k)))]) 100 (.buf 169 Fa (aZ b l g k) []),μ:=λk=>Dc (Di e k)}|7=>match st.sig.T 13 with
  |.dat (.int .i64) i=>some {α:=Int,inv:=λk=>cF l g i k,st:=λk=>put st [(29,.dat I k),(12,.buf 100 (Dk (aZ b l g i)))],μ:=λk=>Dc (Di 3 k)}|_=>none
 |_=>none,λ_ _=>none,λ_ _=>none⟩
def K7:Kt:=
 kOr 167 (aj [.val I,.val I,.val (.sl C),.fn 166 N,.fn0 168] (λ(k,m,j,(f,i,b,h,g,e),_,_)=>k=1/\m=6/\j=f) λ(_,_,_,(f,i,b,h,g,e),_,_)=>.dat (.sl Fa) (bQ 1 6 (aL f i) (bI f))) <|
 kOr 170 (aj [.val I,.val I,.val (.sl S),.fn 169 N,.fn0 171] (λ(k,m,j,(f,i,b,h,g,e),_,_)=>k=2/\m=6/\j=b) λ(_,_,_,(f,i,b,h,g,e),_,_)=>.dat (.sl Fa) (bQ 2 6 (b) (cN b))) <|
 kOr 173 (aj [.val I,.val I,.val (.sl Of),.fn 172 N,.fn 174 N] (λ(k,m,j,(f,i,b,h,g,e),r,_)=>k=3/\m=12/\j=h/\r=(f,i,b,h,g,e)) λ(_,_,_,(f,i,b,h,g,e),_,_)=>.dat (.sl Fa) (bQ 3 12 (aN h) (fD (f,i,b,h,g,e)))) <|
 kOr 177 (aj [.val I,.val I,.val (.sl Ln),.fn 176 N,.fn 178 N] (λ(k,m,j,(f,i,b,h,g,e),r,_)=>k=4/\m=40/\j=g/\r=(f,i,b,h,g,e)) λ(_,_,_,(f,i,b,h,g,e),_,_)=>.dat (.sl Fa) (bQ 4 40 (aO g) (eQ (f,i,b,h,g,e)))) <|
 kOr 181 (aj [.val I,.val I,.val (.sl Kl),.fn 180 N,.fn0 182] (λ(k,m,j,(f,i,b,h,g,e),_,_)=>k=5/\m=4/\j=e) λ(_,_,_,(f,i,b,h,g,e),_,_)=>.dat (.sl Fa) (bQ 5 4 (aP e) (bP e))) <|
 K6
def aBs:eO 239 CU:=ae λ((i:Int),(b:List Of.den),_)=>by
 refine zE (A:=az) (p:=let e:=Ed i 0;let f:=Df b;(True->Q4 e ((Dh true e->e)/\Dz e (Dn i f) false=cY i f/\True))) KS2 λ_=>?_;simp only[qc,Dh,Eu,Dj,cY,Ed,Dn,nP,kQ]
def aEr:eO 232 I1:=ae λ((i:Int),(b:List S.den),_)=>by
 refine zE (A:=az) (p:=let e:=Ed i 0;(True->Q4 e ((Dh true e->e)/\Dz e (Dn i (Df b)) false=cY i (Df b)/\True))) KS2 λ_=>?_;simp only[qc,Dh,Eu,Dj,cY,Ed,Dn,nP,kQ]
def aEs:eO 233 I2:=ae λ((i:Int),(b:List C.den),_)=>by
 refine zE (A:=az) (p:=let e:=Ed i 0;let f:=Df b;(True->Q4 e ((Dh true e->e)/\Dz e (Dn i f) false=cY i f/\True))) KS2 λ_=>?_;simp only[qc,Dh,Eu,Dj,cY,Ed,Dn,nP,kQ]
def KS3:ai yv G0 K3:=
 af aBs<|af aEr<|af aEs<|af aE1<|af aE2 KS2
def uC(l:List ByteArray):iS l 0:=⟨qH _,qI _,by simp⟩
def uD{l:List ByteArray}{x:Int}(h:iS l x)(f:x<l.length)(b:cO (l.getD x.toNat ⟨#[]⟩)=true):iS l (x+1):=by
 obtain⟨i,g,e⟩:=h;refine⟨Z,Z,?_⟩;rw[show(x+1).toNat=x.toNat+1 by omega];exact dz (d:=⟨#[]⟩) e Z b
def JR{l:List ByteArray}{x:Int}(h:iS l x)(e:x<l.length)(b:cO (l.getD x.toNat ⟨#[]⟩)=false):l.all cO=false:=
 jW (d:=⟨#[]⟩) (k:=x.toNat) (by have:=h.1;omega) b
def Ad{l:List ByteArray}{x:Int}(h:iS l x)(e:¬x<l.length):l.all cO=true:=by
 obtain⟨g,f,b⟩:=h;rwa [qO Z]at b
def O6{i n:Int}:cP i 0 (n-1)=cY i n:=by
 unfold cP cY;congr 1;exact propext Z
def Ho:eO 175 nz:=ae λ(((O,ns,u,fs,ls,ks):Net),((e1:ByteArray),(L:Int),(r:Int),(X:Int),(V:Int),(T:Int),(b:List ByteArray)),_)=>by
 refine zE (A:=(lvA [(4,[3,4,6,28,29,30])] (aF3 b))) (p:=let A:=Dj (cY L (Df u));let e:=Dj A;let G:=Dz A true (Dj (cY r (Df O)));let h:=Dj G;let c5:=Dz G true (Eh (Df b) 20);let v:=(e1,L,r,X,V,T,b);let z:=dt (O,ns,u,fs,ls,ks) v;let g:=cP X 2 64;let f:=Dz g (cP V 1 4) false;(True->True/\L4 e (Q4 e ((e->True)/\L4 e ((Dh true e->e)/\Q4 h ((Dh true h->h)/\(c5->false=z/\True)/\(c5=false->(∃x,iS b x/\Q2 v b (Df b) (0=x/\True))/\∀(x:Int),let j:=Dn x (Df b);let i:=Dj (cO (Du b (Dc x) (ByteArray.mk #[])));let c12:=x+1;iS b x->(j->0<=x/\x<Df b/\True/\(i->false=z/\True)/\(i=false->inR .i64 c12/\∃y,iS b y/\(Q2 v b (Df b) (c12=y/\True))/\Dc (Df b-y)<Dc (Df b-x)))/\(j=false->True/\L7 g ((g->True)/\(Dh true g->g)/\L7 f ((f->True)/\(Dh true f->f)/\Dz f (cP T 1 240) false=z/\True)))))))))) KS3 λ_=>?_;refine Z9 ?_;refine⟨λh=>?_,λ⟨⟨h1,h2⟩,h3⟩=>⟨uC b,λx f=>⟨λe=>⟨f.1,e,λhb=>?_,λhg=>⟨⟨by have:=f.1;omega,Z⟩,x+1,uD f e hg,rfl,by have:=f.1;omega⟩⟩,λv=>?_⟩⟩⟩;unfold dt;rcases h with(h|h)|h;rw[show cY _ _=false from h];rfl;rw[show cY r _=false from h];simp;have:decide (b.length<=20)=false:=vF Z;simp[this];have:=JR f e hb;simp[dt,this];have h4:=Ad f v;have h5:decide (b.length<=20)=true:=qU Z;have G:cY L (u.length:Int)=true:=h1;have z:cY r (O.length:Int)=true:=h2;simp only[dt,G,z,h4,h5,zV]
def XC:eO 288 yW:=ae λ(((u,ns,j,fs,ls,ks):Net),((e1:ByteArray),(T:Int),(O:Int),(e4:Int),(X:Int),(V:Int),(b:List ByteArray)),_)=>by
 refine zE (A:=(lvA [(2,[2,3,4,5,6])] (aIk b))) (p:=let i:=(u,ns,j,fs,ls,ks);let r:=(e1,T,O,e4,X,V,b);let A:=dt i r;let e:=Ef (Df b) 20;let G:=Df j-1;let g:=Dz e (cP T 0 G) false;let L:=Df u-1;let v:=Dz g (cP O 0 L) false;let h:=Dz v (cP e4 2 64) false;let f:=Dz h (cP X 1 4) false;(LI i r->(∃x,iS b x/\L5 i r (0=x/\True))/\∀(x:Int),let z:=Dn x (Df b);let c12:=Dj (cO (Du b (Dc x) (ByteArray.mk #[])));let c13:=x+1;iS b x->(z->0<=x/\x<Df b/\True/\(c12->false=A/\True)/\(c12=false->inR .i64 c13/\∃y,iS b y/\(L5 i r (c13=y/\True))/\Dc (Df b-y)<Dc (Df b-x)))/\(z=false->L4 e (Q4 e ((e->inR .i64 G)/\L7 e ((e->True)/\(Dh true e->e)/\L4 g (Q4 g ((g->inR .i64 L)/\L7 g ((g->True)/\(Dh true g->g)/\L7 v ((v->True)/\(Dh true v->v)/\L7 h ((h->True)/\(Dh true h->h)/\L7 f ((f->True)/\(Dh true f->f)/\Dz f (cP V 1 240) false=A/\True)))))))))))) KS3 λi=>?_;obtain⟨G,r⟩:=i;have r:b.length<=30:=r;have i:=vT G;refine Z9 ?_;simp only[qc,O6];refine⟨uC b,λx h=>⟨λg=>⟨h.1,g,λhb=>?_,λhg=>⟨⟨by have:=h.1;omega,Z⟩,x+1,uD h g hg,rfl,by have:=h.1;omega⟩⟩,λL=>⟨λ_=>⟨by have:j.length<=10:=i.2.2.1;omega,by have:j.length<=10:=i.2.2.1;omega⟩,λ_=>⟨by have:u.length<=10:=i.1;omega,by have:u.length<=10:=i.1;omega⟩,?_⟩⟩⟩;have:=JR h g hb;simp[dt,this];have h4:=Ad h L;have e:decide ((b.length:Int)<=20)=decide (b.length<=20):=by congr 1;exact propext Z
 simp only[dt,h4,kM,e];cases decide (b.length<=20)<;>cases cY T (j.length:Int)<;>cases cY O (u.length:Int)<;>rfl
def Qi:eO 179 rz:=ae λ(((cs,z,y,g,G,L):Net),((X:ByteArray),(e:Int),(b:Int),(x:Int),(v:Int),(u:Int)),_)=>by
 refine zE (A:=az) (p:=let r:=Df g;let A:=Dj (cY e r);let h:=Dj A;let O:=Dz A true (Dj (cY b r));let j:=Dj O;let T:=Dz O true (Eb e b);let V:=dN (cs,z,y,g,G,L) (X,e,b,x,v,u);let f:=cP x 0 1439;let i:=Dz f (cP v 1 5000) false;(True->True/\L4 h (Q4 h ((h->True)/\L4 h ((Dh true h->h)/\L4 j (Q4 j ((Dh true j->j)/\(T->false=V/\True)/\(T=false->True/\L7 f ((f->True)/\(Dh true f->f)/\L7 i ((i->True)/\(Dh true i->i)/\Dz i (cP u 1 40) false=V/\True)))))))))) KS3 λ_=>?_;refine Z9 ?_;refine⟨λh=>?_,λ⟨⟨V,T⟩,O⟩=>?_⟩;unfold dN;rcases h with(h|h)|h;rw[show cY _ _=false from h];rfl;rw[show cY b _=false from h];simp;simp[h];have r:cY e (g.length:Int)=true:=V;have j:cY b (g.length:Int)=true:=T;have i:decide (e≠b)=true:=qU O;simp only[dN,r,j,i,zV]
def aEp:eO 289 IZ:=ae λ(((L,x,v,i,y,z):Net),((G:ByteArray),(f:Int),(b:Int),(u:Int),(r:Int),(j:Int)),_)=>by
 refine zE (A:=az) (p:=let V:=(L,x,v,i,y,z);let T:=Df i-1;let e:=cP f 0 T;let g:=Dz e (cP b 0 T) false;let h:=Dz g (Dw f b) false;let A:=Dz h (cP u 0 1439) false;let O:=Dz A (cP r 1 5000) false;(jo V->inR .i64 T/\True/\Q4 e ((e->True)/\(Dh true e->e)/\L4 g (Q4 g ((Dh true g->g)/\L7 h ((h->True)/\(Dh true h->h)/\L7 A ((A->True)/\(Dh true A->A)/\L7 O ((O->True)/\(Dh true O->O)/\Dz O (cP j 1 40) false=dN V (G,f,b,u,r,j)/\True)))))))) KS3 λg=>?_;have g:=vT g;refine Z9 ?_;simp only[qc,O6];refine⟨⟨by have:i.length<=16:=g.2.2.2.1;omega,by have:i.length<=16:=g.2.2.2.1;omega⟩,?_⟩;have e:(f != b)=decide (f≠b):=by cases h:decide (f=b)<;>simp_all
 simp only[dN,e]
def KS4:ai yv G0 K4:=
 af Ho<|af Qi<|af XC<|af aEp KS3
def iw{α β:Type}(f:α->β)(l:List α)(i:Nat)(d:α)(e:β)(b:i<l.length):(l.map f).getD i e=f (l.getD i d):=by
 simp only[qA,qX,qB b,zY,qK]
def Ak{e:List (Int×List Bool×Li)}{b:List ByteArray}{i:Int}(g:0<=i)(f:i<e.length):lr (aL e b) i=b.getD i.toNat ⟨#[]⟩:=by
 unfold lr aL;rw[iw (λi=>b.getD i ⟨#[]⟩) _ _ 0 _ (by rw[vC];omega)];show b.getD ((List.range e.length).getD i.toNat 0) _=_;rw[show(List.range e.length).getD i.toNat 0=i.toNat by rw[qA,vP Z];rfl]
def QF{α:Type}{f:α->ByteArray}{l:List α}{i:Int}(d:α)(e:0<=i)(b:i<l.length):lr (l.map f) i=f (l.getD i.toNat d):=iw _ _ _ _ _ Z
def aHP:eO 166 OI:=ae λ((i:Int),((g,b,j,v,r,u):Net),_)=>by
 refine zE (A:=az) (p:=let e:=Dn i (Df b);let f:=lr (aL g b) i;(idx i (Df g)->(e->0<=i/\i<Df b/\Du b (Dc i) (ByteArray.mk #[])=f/\True)/\(e=false->ByteArray.mk #[]=f/\True))) KS4 λ⟨e,f⟩=>?_;have e:0<=i:=e;have f:i<(g.length:Int):=f;refine Z9 ?_;simp only[qc,Ak e f];refine⟨λh=>⟨e,h⟩,λh=>?_⟩;rw[qA,zD Z];rfl
def aHO:eO 169 OH:=ae λ((i:Int),((u,g,b,r,h,j):Net),_)=>by
 refine zE (A:=az) (p:=(idx i (Df b)->0<=i/\i<Df b/\Du b (Dc i) (ByteArray.mk #[])=lr b i/\True)) KS4 λ⟨f,e⟩=>?_;refine Z9 ?_;exact⟨f,e,rfl⟩
def aH1:eO 171 OU:=ae λ((b:ByteArray),_)=>zF (c:=mkc K4) (A:=az) KS4 gC hm (p:=true/\(True->true/\True)) ⟨rfl,λ_=>⟨rfl,trivial⟩⟩
def aHN:eO 172 OG:=ae λ((i:Int),((u,h,g,b,j,r):Net),_)=>by
 refine zE (A:=az) (p:=let e:=Df b;(idx i e->0<=i/\i<e/\(Du b (Dc i) (ByteArray.mk #[],(0:Int),(0:Int),(0:Int),(0:Int),(0:Int),Dt ByteArray)).1=lr (aN b) i/\True)) KS4 λ⟨f,e⟩=>?_;refine Z9 ?_;exact⟨f,e,(QF _ f e).symm⟩
def aH0:eO 174 OT:=ae λ(((y:ByteArray),(x:Int),(v:Int),(u:Int),(r:Int),(j:Int),(i:List ByteArray)),((z,e,b,h,f,g):Net),_)=>zE (A:=az) (p:=let A:=dt (z,e,b,h,f,g) (y,x,v,u,r,j,i);(True->True/\T3 A)) KS4 λ_=>by simp only[qc,Dh,Eu,Dj]
def aHM:eO 176 OE:=ae λ((i:Int),((u,h,g,r,b,j):Net),_)=>by
 refine zE (A:=az) (p:=let e:=Df b;(idx i e->0<=i/\i<e/\(Du b (Dc i) (ByteArray.mk #[],(0:Int),(0:Int),(0:Int),(0:Int),(0:Int))).1=lr (aO b) i/\True)) KS4 λ⟨f,e⟩=>?_;refine Z9 ?_;exact⟨f,e,(QF _ f e).symm⟩
def aHZ:eO 178 OS:=ae λ(((x:ByteArray),(v:Int),(u:Int),(r:Int),(j:Int),(i:Int)),((y,e,b,h,f,g):Net),_)=>zE (A:=az) (p:=let z:=dN (y,e,b,h,f,g) (x,v,u,r,j,i);(True->True/\T3 z)) KS4 λ_=>by simp only[qc,Dh,Eu,Dj]
def aHL:eO 180 OD:=ae λ((i:Int),((u,h,g,r,j,b):Net),_)=>by
 refine zE (A:=az) (p:=let e:=Df b;(idx i e->0<=i/\i<e/\(Du b (Dc i) (ByteArray.mk #[],(0:Int),(0:Int))).1=lr (aP b) i/\True)) KS4 λ⟨f,e⟩=>?_;refine Z9 ?_;exact⟨f,e,(QF _ f e).symm⟩
def aHY:eO 182 OR:=ae λ(((f:ByteArray),(e:Int),(b:Int)),_)=>zE (A:=az) (p:=let g:=cP e 0 1439;(True->True/\L7 g ((g->True)/\(Dh true g->g)/\Dz g (cP b 0 1439) false=lq (f,e,b)/\True))) KS4 λ_=>by simp only[qc,Dh,Eu,Dj,lq]
def KS5:ai yv G0 K5:=
 af aHP<|af aHO<|af aH1<|af aHN<|af aH0<|af aHM<|af aHZ<|af aHL<|af aHY KS4
def lx{l:List ByteArray}{i:Int}(h:0<=i):uN l i 0:=⟨qH _,h,by simp⟩
def ly{l:List ByteArray}{i x:Int}(h:uN l i x)(f:x<i)(g:i<l.length)(b:(lr l x).toList≠(lr l i).toList):uN l i (x+1):=by
 obtain⟨r,j,e⟩:=h;refine⟨Z,Z,?_⟩;rw[show(x+1).toNat=x.toNat+1 by omega];exact ED (d:=⟨#[]⟩) e Z (by simpa[lr]using b)
def P5{l:List ByteArray}{i x:Int}(h:uN l i x)(g:x<i)(j:i<l.length)(f:(lr l x).toList=(lr l i).toList):4=rule2 l i:=by
 unfold rule2;have e:=h.1;rw[if_pos];have b:x.toNat<(l.take i.toNat).length:=by rw[qP];omega
 refine aAu (d:=⟨#[]⟩) (k:=x.toNat) b ?_;have:(l.take i.toNat).getD x.toNat ⟨#[]⟩=lr l x:=by
  unfold lr;simp only[qA];rw[vX,if_pos Z]
 rw[this];simpa using f
def l7{l:List ByteArray}{i x:Int}(h:uN l i x)(e:¬x<i):0=rule2 l i:=by
 obtain⟨g,f,b⟩:=h;have:x=i:=Z;subst this;unfold rule2;rw[b];rfl
def qk{α:Type}{g:α->Bool}{l:List α}{i:Int}(d:α)(e:0<=i)(b:i<l.length):cC (l.map g) i=if g (l.getD i.toNat d)then 0 else 1:=by
 unfold cC;rw[iw g l _ d _ Z]
def fA(b:List (Int×List Bool×Li))(e:List ByteArray):(aL b e).length=b.length:=by simp[aL]
def map_length{α β:Type}(f:α->β)(l:List α):(l.map f).length=l.length:=vG f
def aHI:eO 222 OA:=ae λ((i:Int),((b,e,g,u,j,r):Net),_)=>by
 refine zE (A:=az) (p:=let f:=Dj (bV (lr (aL b e) i));let g:=b8 (aL b e) i;(idx i (Df b)->idx i (Df b)/\True/\(f->1=g/\True)/\(f=false->0=g/\True))) KS5 λf=>?_;refine Z9 ?_;exact⟨f,λh=>by simp[b8,h],λh=>by simp[b8,h]⟩
def aHD:eO 224 Ou:=ae λ((i:Int),((b,f,v,T,z,G):Net),_)=>by
 refine zE (A:=(lvA [(2,[0,1,3,4,5,6])] (twA (aL b f) i))) (p:=let e:=aL b f;let g:=Df b;let h:=(b,f,v,T,z,G);let j:=rule2 e i;(KC i g->(∃x,uN e i x/\Q2 i h i (0=x/\True))/\∀(x:Int),let r:=Fz (lr e x) (lr e i);let u:=x+1;uN e i x->(Dn x i->idx x g/\idx i g/\(r->4=j/\True)/\(r=false->inR IntKind.i64 u/\∃y,uN e i y/\(Q2 i h i (u=y/\True))/\Dc (i-y)<Dc (i-x)))/\(Dn x i=false->0=j/\True))) KS5 λh=>?_;have u:0<=i:=h.1;have O:i<(b.length:Int):=h.2.1;have X:i<=1000:=h.2.2;have V:((aL b f).length:Int)=b.length:=yS _ (fA b f);refine Z9 ?_;exact⟨lx u,λx e=>⟨λg=>⟨⟨e.1,Z⟩,⟨u,O⟩,λL=>P5 e g Z L,λj=>⟨⟨by have:=e.1;omega,Z⟩,x+1,ly e g Z j,rfl,by have:=e.1;omega⟩⟩,λr=>l7 e r⟩⟩
def aHy(i:Int)(b:LC)(u r:LB)(y:Lo)(v:Ll)(x:Lk):ah yv G0 225 [.dat I i,.ipv (.fn 168 []),.ip (.sl C) b] [] ⟨idx i (Df b),.dat I (cC (bI b) i),[]⟩:=by
 refine zE (A:=az) (p:=let f:=Df b;let e:=Du b (Dc i) ((0:Int),Dt Bool,Dt Int);let g:=Dj (aA e.1 e.2.1 e.2.2);(idx i f->0<=i/\i<f/\True/\(g->1=cC (bI b) i/\True)/\(g=false->0=cC (bI b) i/\True))) KS5 λe=>?_;have j:0<=i:=e.1;have f:i<(b.length:Int):=e.2;refine Z9 ?_;rw[show cC (bI b) i=_ from qk _ j f];exact⟨j,f,λh=>by rw[if_neg (by intro g;rw[show _=false from h]at g;cases g)],λh=>by rw[if_pos h]⟩
def aHH:eO 226 Oz:=ae λ((i:Int),((u,f,b,r,g,j):Net),_)=>by
 refine zE (A:=az) (p:=let e:=Dj (bV (lr b i));(idx i (Df b)->idx i (Df b)/\True/\(e->1=b8 b i/\True)/\(e=false->0=b8 b i/\True))) KS5 λe=>?_;refine Z9 ?_;exact⟨e,λh=>by simp[b8,h],λh=>by simp[b8,h]⟩
def aHC:eO 227 Ot:=ae λ((i:Int),((T,u,b,O,v,z):Net),_)=>by
 refine zE (A:=(lvA [(2,[0,1,3,4,5,6])] (twA (b) i))) (p:=let e:=Df b;let f:=(T,u,b,O,v,z);(KC i e->(∃x,uN b i x/\Q2 i f i (0=x/\True))/\∀(x:Int),let g:=Fz (lr b x) (lr b i);let h:=x+1;uN b i x->(Dn x i->idx x e/\idx i e/\(g->4=rule2 b i/\True)/\(g=false->inR .i64 h/\∃y,uN b i y/\(Q2 i f i (h=y/\True))/\Dc (i-y)<Dc (i-x)))/\(Dn x i=false->0=rule2 b i/\True))) KS5 λg=>?_;have r:0<=i:=g.1;have L:i<(b.length:Int):=g.2.1;have X:i<=1000:=g.2.2;have V:((b).length:Int)=b.length:=yS _ (rfl);refine Z9 ?_;exact⟨lx r,λx e=>⟨λf=>⟨⟨e.1,Z⟩,⟨r,L⟩,λG=>P5 e f Z G,λh=>⟨⟨by have:=e.1;omega,Z⟩,x+1,ly e f Z h,rfl,by have:=e.1;omega⟩⟩,λj=>l7 e j⟩⟩
def aHx(i:Int)(x:LC)(j b:LB)(v:Lo)(r:Ll)(u:Lk):ah yv G0 228 [.dat I i,.ipv (.fn 171 []),.ip (.sl S) b] [] ⟨idx i (Df b),.dat I (cC (cN b) i),[]⟩:=by
 refine zE (A:=az) (p:=(idx i (Df b)->0<=i/\i<Df b/\True/\(Dj true->1=cC (cN b) i/\True)/\(Dj true=false->0=cC (cN b) i/\True))) KS5 λe=>?_;have g:0<=i:=e.1;have f:i<(b.length:Int):=e.2;refine Z9 ?_;rw[show cC (cN b) i=_ from qk ⟨#[]⟩ g f];exact⟨g,f,(λh=>by cases h),rfl⟩
def aHG:eO 229 Oy:=ae λ((i:Int),((u,g,f,b,j,r):Net),_)=>by
 refine zE (A:=az) (p:=let e:=Dj (bV (lr (aN b) i));(idx i (Df b)->idx i (Df b)/\True/\(e->1=b8 (aN b) i/\True)/\(e=false->0=b8 (aN b) i/\True))) KS5 λe=>?_;refine Z9 ?_;exact⟨e,λh=>by simp[b8,h],λh=>by simp[b8,h]⟩
def aHB:eO 230 Oq:=ae λ((i:Int),((T,v,u,b,z,G):Net),_)=>by
 refine zE (A:=(lvA [(2,[0,1,3,4,5,6])] (twA (aN b) i))) (p:=let e:=Df b;let f:=(T,v,u,b,z,G);(KC i e->(∃x,uN (aN b) i x/\Q2 i f i (0=x/\True))/\∀(x:Int),let g:=Fz (lr (aN b) x) (lr (aN b) i);let h:=x+1;uN (aN b) i x->(Dn x i->idx x e/\idx i e/\(g->4=rule2 (aN b) i/\True)/\(g=false->inR .i64 h/\∃y,uN (aN b) i y/\(Q2 i f i (h=y/\True))/\Dc (i-y)<Dc (i-x)))/\(Dn x i=false->0=rule2 (aN b) i/\True))) KS5 λg=>?_;have r:0<=i:=g.1;have O:i<(b.length:Int):=g.2.1;have X:i<=1000:=g.2.2;have V:((aN b).length:Int)=b.length:=yS _ (map_length _ b);refine Z9 ?_;exact⟨lx r,λx e=>⟨λf=>⟨⟨e.1,Z⟩,⟨r,O⟩,λL=>P5 e f Z L,λh=>⟨⟨by have:=e.1;omega,Z⟩,x+1,ly e f Z h,rfl,by have:=e.1;omega⟩⟩,λj=>l7 e j⟩⟩
def aHw(i:Int)(v:LC)(j f:LB)(b:Lo)(r:Ll)(u:Lk):ah yv G0 231 [.dat I i,.ipv (.fn 174 [.ip N (v,j,f,b,r,u)]),.ip (.sl Of) b] [] ⟨idx i (Df b),.dat I (cC (fD (v,j,f,b,r,u)) i),[]⟩:=by
 refine zE (A:=az) (p:=let g:=Df b;let h:=(v,j,f,b,r,u);let x:=Dj (dt h (Du b (Dc i) (ByteArray.mk #[],(0:Int),(0:Int),(0:Int),(0:Int),(0:Int),Dt ByteArray)));let e:=cC (fD h) i;(idx i g->0<=i/\i<g/\True/\(x->1=e/\True)/\(x=false->0=e/\True))) KS5 λx=>?_;have z:0<=i:=x.1;have y:i<(b.length:Int):=x.2;refine Z9 ?_;rw[show cC (fD (v,j,f,b,r,u)) i=_ from qk _ z y];exact⟨z,y,λh=>by rw[if_neg (by intro g;rw[show _=false from h]at g;cases g)],λh=>by rw[if_pos h]⟩
def aHF:eO 236 Ox:=ae λ((i:Int),((u,g,f,r,b,j):Net),_)=>by
 refine zE (A:=az) (p:=let e:=Dj (bV (lr (aO b) i));(idx i (Df b)->idx i (Df b)/\True/\(e->1=b8 (aO b) i/\True)/\(e=false->0=b8 (aO b) i/\True))) KS5 λe=>?_;refine Z9 ?_;exact⟨e,λh=>by simp[b8,h],λh=>by simp[b8,h]⟩
def aHA:eO 237 Oo:=ae λ((i:Int),((T,v,u,O,b,z):Net),_)=>by
 refine zE (A:=(lvA [(2,[0,1,3,4,5,6])] (twA (aO b) i))) (p:=let e:=Df b;let f:=(T,v,u,O,b,z);(KC i e->(∃x,uN (aO b) i x/\Q2 i f i (0=x/\True))/\∀(x:Int),let g:=Fz (lr (aO b) x) (lr (aO b) i);let h:=x+1;uN (aO b) i x->(Dn x i->idx x e/\idx i e/\(g->4=rule2 (aO b) i/\True)/\(g=false->inR .i64 h/\∃y,uN (aO b) i y/\(Q2 i f i (h=y/\True))/\Dc (i-y)<Dc (i-x)))/\(Dn x i=false->0=rule2 (aO b) i/\True))) KS5 λg=>?_;have r:0<=i:=g.1;have L:i<(b.length:Int):=g.2.1;have X:i<=1000:=g.2.2;have V:((aO b).length:Int)=b.length:=yS _ (map_length _ b);refine Z9 ?_;exact⟨lx r,λx e=>⟨λf=>⟨⟨e.1,Z⟩,⟨r,L⟩,λG=>P5 e f Z G,λh=>⟨⟨by have:=e.1;omega,Z⟩,x+1,ly e f Z h,rfl,by have:=e.1;omega⟩⟩,λj=>l7 e j⟩⟩
def aHv(i:Int)(u:LC)(f e:LB)(r:Lo)(b:Ll)(j:Lk):ah yv G0 238 [.dat I i,.ipv (.fn 178 [.ip N (u,f,e,r,b,j)]),.ip (.sl Ln) b] [] ⟨idx i (Df b),.dat I (cC (eQ (u,f,e,r,b,j)) i),[]⟩:=by
 refine zE (A:=az) (p:=let g:=Df b;let h:=(u,f,e,r,b,j);let z:=Dj (dN h (Du b (Dc i) (ByteArray.mk #[],(0:Int),(0:Int),(0:Int),(0:Int),(0:Int))));let v:=cC (eQ h) i;(idx i g->0<=i/\i<g/\True/\(z->1=v/\True)/\(z=false->0=v/\True))) KS5 λv=>?_;have y:0<=i:=v.1;have x:i<(b.length:Int):=v.2;refine Z9 ?_;rw[show cC (eQ (u,f,e,r,b,j)) i=_ from qk _ y x];exact⟨y,x,λh=>by rw[if_neg (by intro g;rw[show _=false from h]at g;cases g)],λh=>by rw[if_pos h]⟩
def aHE:eO 240 Ov:=ae λ((i:Int),((u,g,f,r,j,b):Net),_)=>by
 refine zE (A:=az) (p:=let e:=Dj (bV (lr (aP b) i));(idx i (Df b)->idx i (Df b)/\True/\(e->1=b8 (aP b) i/\True)/\(e=false->0=b8 (aP b) i/\True))) KS5 λe=>?_;refine Z9 ?_;exact⟨e,λh=>by simp[b8,h],λh=>by simp[b8,h]⟩
def aHz:eO 241 On:=ae λ((i:Int),((T,v,u,O,z,b):Net),_)=>by
 refine zE (A:=(lvA [(2,[0,1,3,4,5,6])] (twA (aP b) i))) (p:=let e:=Df b;let f:=(T,v,u,O,z,b);(KC i e->(∃x,uN (aP b) i x/\Q2 i f i (0=x/\True))/\∀(x:Int),let g:=Fz (lr (aP b) x) (lr (aP b) i);let h:=x+1;uN (aP b) i x->(Dn x i->idx x e/\idx i e/\(g->4=rule2 (aP b) i/\True)/\(g=false->inR .i64 h/\∃y,uN (aP b) i y/\(Q2 i f i (h=y/\True))/\Dc (i-y)<Dc (i-x)))/\(Dn x i=false->0=rule2 (aP b) i/\True))) KS5 λg=>?_;have r:0<=i:=g.1;have L:i<(b.length:Int):=g.2.1;have X:i<=1000:=g.2.2;have V:((aP b).length:Int)=b.length:=yS _ (map_length _ b);refine Z9 ?_;exact⟨lx r,λx e=>⟨λf=>⟨⟨e.1,Z⟩,⟨r,L⟩,λG=>P5 e f Z G,λh=>⟨⟨by have:=e.1;omega,Z⟩,x+1,ly e f Z h,rfl,by have:=e.1;omega⟩⟩,λj=>l7 e j⟩⟩
def aHu(i:Int)(y:LC)(u r:LB)(x:Lo)(v:Ll)(b:Lk):ah yv G0 242 [.dat I i,.ipv (.fn 182 []),.ip (.sl Kl) b] [] ⟨idx i (Df b),.dat I (cC (bP b) i),[]⟩:=by
 refine zE (A:=az) (p:=let e:=Df b;let f:=Dj (lq (Du b (Dc i) (ByteArray.mk #[],(0:Int),(0:Int))));(idx i e->0<=i/\i<e/\True/\(f->1=cC (bP b) i/\True)/\(f=false->0=cC (bP b) i/\True))) KS5 λe=>?_;have j:0<=i:=e.1;have f:i<(b.length:Int):=e.2;refine Z9 ?_;rw[show cC (bP b) i=_ from qk _ j f];exact⟨j,f,λh=>by rw[if_neg (by intro g;rw[show _=false from h]at g;cases g)],λh=>by rw[if_pos h]⟩
def L9(b:Int)(l:List ByteArray)(g:List Bool):aZ b l g 0=[]:=rfl
def oj(b:Int)(l:List ByteArray)(g:List Bool)(k:Int):(aZ b l g k).length<=k.toNat:=by
 unfold aZ;exact wJ (qDk _ _) (by rw[vC];exact qM _)
def sD{b:Int}{l:List ByteArray}{g:List Bool}{k:Int}(f:0<=k)(e:pg l g k≠0):aZ b l g (k+1)=aZ b l g k++[(b,k,pg l g k)]:=by
 unfold aZ;rw[show(k+1).toNat=k.toNat+1 by omega,zS,qBi];simp[qY f,e]
def zg{b:Int}{l:List ByteArray}{g:List Bool}{k:Int}(f:0<=k)(e:pg l g k=0):aZ b l g (k+1)=aZ b l g k:=by
 unfold aZ;rw[show(k+1).toNat=k.toNat+1 by omega,zS,qBi];simp[qY f,e]
def Yg{l:List ByteArray}{g:List Bool}{i j:Int}(h:cF l g i j)(u:j<3)(b:[b8 l i,rule2 l i,cC g i].getD j.toNat 0≠0):[b8 l i,rule2 l i,cC g i].getD j.toNat 0=pg l g i:=by
 obtain⟨v,_,e,r,_⟩:=h;have f:j=0\/j=1\/j=2:=Z;unfold pg;rcases f with rfl|rfl|rfl;have b:b8 l i≠0:=b;rw[if_pos b];rfl;have b:rule2 l i≠0:=b;rw[if_neg (by simp[e]),if_pos b];rfl;rw[if_neg (by simp[e]),if_neg (by simp[r])];rfl
def Qr{l:List ByteArray}{g:List Bool}{i j:Int}(h:cF l g i j)(u:j<3)(b:[b8 l i,rule2 l i,cC g i].getD j.toNat 0=0):cF l g i (j+1):=by
 obtain⟨x,_,e,r,v⟩:=h;have f:j=0\/j=1\/j=2:=Z;rcases f with rfl|rfl|rfl;exact⟨Z,Z,λ_=>b,λh=>Z,λh=>Z⟩;exact⟨Z,Z,λ_=>e Z,λ_=>b,λh=>Z⟩;exact⟨Z,Z,λ_=>e Z,λ_=>r Z,λ_=>b⟩
def TU{l:List ByteArray}{g:List Bool}{i j:Int}(h:cF l g i j)(r:¬j<3):pg l g i=0:=by
 obtain⟨u,_,f,e,b⟩:=h;unfold pg;rw[if_neg (by simp[f Z]),if_neg (by simp[e Z]),b Z]
def JS{b f:Int}{l:List ByteArray}{g:List Bool}{m:Nat}(hm:l.length=m)(O:0<=f)(X:f<=100):
  (∃x,dU x (l.length:Int) f/\(aZ b l g x).length=0/\aZ b l g x=[]/\0=x/\aZ b l g x=[])/\
  ∀(x:Int),dU x (l.length:Int) f->
    (x<min (m:Int) f->
      cF l g x 0/\∀(z:Int),cF l g x z->
         (z<3->0<=z/\z<(3:Nat)/\(z.toNat=0->idx x m)/\(z.toNat=1->KC x m)/\(z.toNat=2->idx x m)/\
                ([b8 l x,rule2 l x,cC g x].getD z.toNat 0≠0->
                  ((aZ b l g x).length+[(b,x,[b8 l x,rule2 l x,cC g x].getD z.toNat 0)].length)*24<=140737488355328/\
                   (aZ b l g x).length+[(b,x,[b8 l x,rule2 l x,cC g x].getD z.toNat 0)].length<=9223372036854775807/\
                    inR .i64 (x+1)/\
                     ∃y,dU y (l.length:Int) f/\
                       ((aZ b l g x).length+[(b,x,[b8 l x,rule2 l x,cC g x].getD z.toNat 0)].length=(aZ b l g y).length/\
                         x+1=y/\aZ b l g x++[(b,x,[b8 l x,rule2 l x,cC g x].getD z.toNat 0)]=aZ b l g y)/\
                        (f-y).toNat<(f-x).toNat)/\
                 ([b8 l x,rule2 l x,cC g x].getD z.toNat 0=0->inR .i64 (z+1)/\∃y,cF l g x y/\z+1=y/\(3-y).toNat<(3-z).toNat))/\
          (¬z<3->inR .i64 (x+1)/\∃y,dU y (l.length:Int) f/\((aZ b l g x).length=(aZ b l g y).length/\x+1=y/\aZ b l g x=aZ b l g y)/\(f-y).toNat<(f-x).toNat))/\
     (¬x<min (m:Int) f->
      ((m:Int)>f->((aZ b l g x).length+[(b,f,(2:Int))].length)*24<=140737488355328/\
         (aZ b l g x).length+[(b,f,(2:Int))].length<=9223372036854775807/\
          (aZ b l g x++[(b,f,2)]).length=(aZ b l g x).length+[(b,f,(2:Int))].length/\
           aZ b l g x++[(b,f,2)]=bQ b f l g)/\
       (¬(m:Int)>f->aZ b l g x=bQ b f l g)):=by
 subst hm;refine⟨⟨0,⟨qH _,qI _,O⟩,rfl,rfl,rfl,rfl⟩,λx ⟨j,V,T⟩=>⟨λA=>⟨⟨qH _,by decide,λh=>Z,λh=>Z,λh=>Z⟩,λz r=>⟨λi=>?_,λi=>?_⟩⟩,λL=>?_⟩⟩;have G:=oj b l g x;refine⟨r.1,Z,λ_=>⟨j,Z⟩,λ_=>⟨j,Z,Z⟩,λ_=>⟨j,Z⟩,λu=>?_,λu=>⟨⟨by have:=r.1;omega,Z⟩,z+1,Qr r i u,rfl,by have:=r.1;omega⟩⟩;have e:=Yg r i u;rw[e]at u ⊢;refine⟨by simp only[qL];omega,by simp only[qL];omega,⟨Z,Z⟩,x+1,⟨Z,Z,Z⟩,⟨?_,rfl,(sD j u).symm⟩,Z⟩;rw[sD j u,qF];have e:=TU r i;exact⟨⟨Z,Z⟩,x+1,⟨Z,Z,Z⟩,⟨by rw[zg j e],rfl,(zg j e).symm⟩,Z⟩;have G:=oj b l g x;have v:x=min (l.length:Int) f:=Z;refine⟨λh=>⟨by simp only[qL];omega,by simp only[qL];omega,qF,?_⟩,λh=>?_⟩;unfold bQ Ij;rw[if_pos Z,<- v];unfold bQ Ij;rw[if_neg Z,<- v,wB]
def KS6:ai yv G0 K6:=
 af aHI<|af aHD<|af (ae λ(i,_,g,_)=>aHy i g [] [] [] [] [])<|af aHH<|af aHC<|af (ae λ(i,_,e,_)=>aHx i [] [] e [] [] [])<|af aHG<|af aHB<|af (ae λ(i,(g,u,e,r,j,f),b,_)=>zC2 λ(h:idx i (Df r)/\b=r)=>by obtain⟨h,rfl⟩:=h;exact(aHw i g u e b j f).weaken λ_=>h)<|af aHF<|af aHA<|af (ae λ(i,(g,u,e,r,j,f),b,_)=>zC2 λ(h:idx i (Df j)/\b=j)=>by obtain⟨h,rfl⟩:=h;exact(aHv i g u e r b f).weaken λ_=>h)<|af aHE<|af aHz<|af (ae λ(i,_,f,_)=>aHu i [] [] [] [] [] f) KS5
def aH8(b:LC)(h O:LB)(X:Lo)(T:Ll)(V:Lk):ah yv G0 167 [.dat I 1,.dat I 6,.dat (.sl C) b,.fn 166 [.ip N (b,h,O,X,T,V)],.fn 168 []] [] ⟨True,.dat (.sl Fa) (bQ 1 6 (aL b h) (bI b)),[]⟩:=by
 refine zE (A:=(lvA [(4,[0,1,7,10,11,12,13,15,16,24,25,28,29]),(7,[0,1,7,10,11,12,13,15,16,24,25,28,29])] (JU 1 6 (aL b h) (bI b)))) (p:=let f:=aL b h;let c1:=Df b;let c2:=Ey c1 6;let A:=(b,h,O,X,T,V);let c4:=Eh c1 6;let c5:=[((1:Int),(6:Int),(2:Int))];let c6:=bQ 1 6 f (bI b);(True->L5 1 0 ((∃x,let c7:=aZ 1 f (bI b) x;dU x (Df f) 6/\T4 (1:Int) (6:Int) b Z0 1 0 0 (Dk c7=0/\c7=Dt (Int×Int×Int)/\c2=c2/\0=x/\Q2 A A b (c7=Dt (Int×Int×Int)/\True)))/\∀(x:Int),let L:=Df f;let c9:=aZ 1 f (bI b) x;let g:=Dk c9;let c12:=x+1;let c13:=g+Dk c5;let c14:=Ee c9 c5;dU x L 6->(Dn x c2->L5 1 0 ((∃e,cF f (bI b) x e/\L3 (1:Int) (6:Int) b Z0 1 0 0 g x (T2 c2 x A A b (0=e/\z8 A A b c9)))/\∀(e:Int),let c15:=Dn e 3;let G:=Du [b8 f x,rule2 f x,cC (bI b) x] (Dc e) 0;let z:=Dw G 0;let v:=[((1:Int),x,G)];let i:=g+Dk v;let u:=e+1;cF f (bI b) x e->(c15->0<=e/\e<Ea 3/\(Dc e=0->idx x c1)/\(Dc e=1->KC x c1)/\(Dc e=2->idx x c1)/\(z->g=g/\(i*24)<=140737488355328/\i<=9223372036854775807/\inR .i64 c12/\∃y,let r:=aZ 1 f (bI b) y;dU y L 6/\(T4 (1:Int) (6:Int) b Z0 1 0 0 (i=Dk r/\c2=c2/\c12=y/\Q2 A A b (Ee c9 v=r/\True)))/\Dc (6-y)<Dc (6-x))/\(z=false->inR .i64 u/\∃y,cF f (bI b) x y/\(L3 (1:Int) (6:Int) b Z0 1 0 0 g x (T2 c2 x A A b (u=y/\z8 A A b c9)))/\Dc (3-y)<Dc (3-e)))/\(c15=false->inR .i64 c12/\∃y,let j:=aZ 1 f (bI b) y;
  dU y L 6/\(T4 (1:Int) (6:Int) b Z0 1 0 0 (g=Dk j/\c2=c2/\c12=y/\Q2 A A b (c9=j/\True)))/\Dc (6-y)<Dc (6-x))))/\(Dn x c2=false->(c4->g=g/\(c13*24)<=140737488355328/\c13<=9223372036854775807/\Dk c14=c13/\c14=c6/\True)/\(c4=false->g=g/\c9=c6/\True))))) KS6 λ_=>?_
 have hm:(aL b h).length=b.length:=fA b h;refine Z9 ?_;exact JS hm (by decide) (by decide)
def aH7(T:LC)(z b:LB)(O:Lo)(G:Ll)(L:Lk):ah yv G0 170 [.dat I 2,.dat I 6,.dat (.sl S) b,.fn 169 [.ip N (T,z,b,O,G,L)],.fn 171 []] [] ⟨True,.dat (.sl Fa) (bQ 2 6 (b) (cN b)),[]⟩:=by
 refine zE (A:=(lvA [(4,[0,1,7,10,11,12,13,15,16,24,25,28,29]),(7,[0,1,7,10,11,12,13,15,16,24,25,28,29])] (JU 2 6 (b) (cN b)))) (p:=let X:=Df b;let V:=Ey X 6;let A:=(T,z,b,O,G,L);let c3:=Eh X 6;let c4:=[((2:Int),(6:Int),(2:Int))];let c5:=bQ 2 6 b (cN b);(True->L5 1 0 ((∃x,let c6:=aZ 2 b (cN b) x;dU x X 6/\T4 (2:Int) (6:Int) b Z0 1 0 0 (Dk c6=0/\c6=Dt (Int×Int×Int)/\V=V/\0=x/\Q2 A A b (c6=Dt (Int×Int×Int)/\True)))/\∀(x:Int),let c7:=aZ 2 b (cN b) x;let f:=Dk c7;let g:=x+1;let i:=f+Dk c4;let c12:=Ee c7 c4;dU x X 6->(Dn x V->L5 1 0 ((∃e,cF b (cN b) x e/\L3 (2:Int) (6:Int) b Z0 1 0 0 f x (T2 V x A A b (0=e/\z8 A A b c7)))/\∀(e:Int),let c13:=Dn e 3;let c14:=Du [b8 b x,rule2 b x,cC (cN b) x] (Dc e) 0;let c15:=Dw c14 0;let v:=[((2:Int),x,c14)];let h:=f+Dk v;let u:=e+1;cF b (cN b) x e->(c13->0<=e/\e<Ea 3/\(Dc e=0->idx x X)/\(Dc e=1->KC x X)/\(Dc e=2->idx x X)/\(c15->f=f/\(h*24)<=140737488355328/\h<=9223372036854775807/\inR .i64 g/\∃y,let r:=aZ 2 b (cN b) y;dU y X 6/\(T4 (2:Int) (6:Int) b Z0 1 0 0 (h=Dk r/\V=V/\g=y/\Q2 A A b (Ee c7 v=r/\True)))/\Dc (6-y)<Dc (6-x))/\(c15=false->inR .i64 u/\∃y,cF b (cN b) x y/\(L3 (2:Int) (6:Int) b Z0 1 0 0 f x (T2 V x A A b (u=y/\z8 A A b c7)))/\Dc (3-y)<Dc (3-e)))/\(c13=false->inR IntKind.i64 g/\∃y,let j:=aZ 2 b (cN b) y;
  dU y X 6/\(T4 (2:Int) (6:Int) b Z0 1 0 0 (f=Dk j/\V=V/\g=y/\Q2 A A b (c7=j/\True)))/\Dc (6-y)<Dc (6-x))))/\(Dn x V=false->(c3->f=f/\(i*24)<=140737488355328/\i<=9223372036854775807/\Dk c12=i/\c12=c5/\True)/\(c3=false->f=f/\c7=c5/\True))))) KS6 λ_=>?_
 have hm:(b).length=b.length:=rfl;refine Z9 ?_;exact JS hm (by decide) (by decide)
def aH6(v:LC)(j i:LB)(b:Lo)(r:Ll)(u:Lk):ah yv G0 173 [.dat I 3,.dat I 12,.dat (.sl Of) b,.fn 172 [.ip N (v,j,i,b,r,u)],.fn 174 [.ip N (v,j,i,b,r,u)]] [] ⟨True,.dat (.sl Fa) (bQ 3 12 (aN b) (fD (v,j,i,b,r,u))),[]⟩:=by
 refine zE (A:=(lvA [(4,[0,1,7,10,11,12,13,15,16,24,25,28,29]),(7,[0,1,7,10,11,12,13,15,16,24,25,28,29])] (JU 3 12 (aN b) (fD (v,j,i,b,r,u))))) (p:=let g:=Df (aN b);let A:=(v,j,i,b,r,u);let c2:=fD A;let c3:=Df b;let c4:=Ey c3 12;let c5:=Eh c3 12;let c6:=[((3:Int),(12:Int),(2:Int))];let c7:=bQ 3 12 (aN b) c2;(True->L5 1 0 ((∃x,let X:=aZ 3 (aN b) c2 x;dU x g 12/\T4 (3:Int) (12:Int) b Z0 1 0 0 (Dk X=0/\X=Dt (Int×Int×Int)/\c4=c4/\0=x/\Q3 A A A b (X=Dt (Int×Int×Int)/\True)))/\∀(x:Int),let c9:=aZ 3 (aN b) c2 x;let f:=Dk c9;let c12:=x+1;let c13:=f+Dk c6;let c14:=Ee c9 c6;dU x g 12->(Dn x c4->L5 1 0 ((∃e,cF (aN b) c2 x e/\L3 (3:Int) (12:Int) b Z0 1 0 0 f x (T6 c4 x A A A b (0=e/\v6 A A A b c9)))/\∀(e:Int),let c15:=Dn e 3;let V:=Du [b8 (aN b) x,rule2 (aN b) x,cC c2 x] (Dc e) 0;let T:=Dw V 0;let O:=[((3:Int),x,V)];let h:=f+Dk O;let L:=e+1;cF (aN b) c2 x e->(c15->0<=e/\e<Ea 3/\(Dc e=0->idx x c3)/\(Dc e=1->KC x c3)/\(Dc e=2->idx x c3/\b=b)/\(T->f=f/\(h*24)<=140737488355328/\h<=9223372036854775807/\inR .i64 c12/\∃y,let G:=aZ 3 (aN b) c2 y;dU y g 12/\(T4 (3:Int) (12:Int) b Z0 1 0 0 (h=Dk G/\c4=c4/\c12=y/\Q3 A A A b (Ee c9 O=G/\True)))/\Dc (12-y)<Dc (12-x))/\(T=false->inR .i64 L/\∃y,cF (aN b) c2 x y/\(L3 (3:Int) (12:Int) b Z0 1 0 0 f x (T6 c4 x A A A b (L=y/\v6 A A A b c9)))/\Dc (3-y)<Dc (3-e)))/\(c15=false->inR .i64 c12/\∃y,let z:=aZ 3 (aN b) c2 y;
  dU y g 12/\(T4 (3:Int) (12:Int) b Z0 1 0 0 (f=Dk z/\c4=c4/\c12=y/\Q3 A A A b (c9=z/\True)))/\Dc (12-y)<Dc (12-x))))/\(Dn x c4=false->(c5->f=f/\(c13*24)<=140737488355328/\c13<=9223372036854775807/\Dk c14=c13/\c14=c7/\True)/\(c5=false->f=f/\c9=c7/\True))))) KS6 λ_=>?_
 have hm:(aN b).length=b.length:=map_length _ b;refine Z9 ?_;exact JS hm (by decide) (by decide)
def aH5(v:LC)(j i:LB)(u:Lo)(b:Ll)(r:Lk):ah yv G0 177 [.dat I 4,.dat I 40,.dat (.sl Ln) b,.fn 176 [.ip N (v,j,i,u,b,r)],.fn 178 [.ip N (v,j,i,u,b,r)]] [] ⟨True,.dat (.sl Fa) (bQ 4 40 (aO b) (eQ (v,j,i,u,b,r))),[]⟩:=by
 refine zE (A:=(lvA [(4,[0,1,7,10,11,12,13,15,16,24,25,28,29]),(7,[0,1,7,10,11,12,13,15,16,24,25,28,29])] (JU 4 40 (aO b) (eQ (v,j,i,u,b,r))))) (p:=let g:=Df (aO b);let A:=(v,j,i,u,b,r);let c2:=eQ A;let c3:=Df b;let c4:=Ey c3 40;let c5:=Eh c3 40;let c6:=[((4:Int),(40:Int),(2:Int))];let c7:=bQ 4 40 (aO b) c2;(True->L5 1 0 ((∃x,let X:=aZ 4 (aO b) c2 x;dU x g 40/\T4 (4:Int) (40:Int) b Z0 1 0 0 (Dk X=0/\X=Dt (Int×Int×Int)/\c4=c4/\0=x/\Q3 A A A b (X=Dt (Int×Int×Int)/\True)))/\∀(x:Int),let c9:=aZ 4 (aO b) c2 x;let f:=Dk c9;let c12:=x+1;let c13:=f+Dk c6;let c14:=Ee c9 c6;dU x g 40->(Dn x c4->L5 1 0 ((∃e,cF (aO b) c2 x e/\L3 (4:Int) (40:Int) b Z0 1 0 0 f x (T6 c4 x A A A b (0=e/\v6 A A A b c9)))/\∀(e:Int),let c15:=Dn e 3;let V:=Du [b8 (aO b) x,rule2 (aO b) x,cC c2 x] (Dc e) 0;let T:=Dw V 0;let O:=[((4:Int),x,V)];let h:=f+Dk O;let L:=e+1;cF (aO b) c2 x e->(c15->0<=e/\e<Ea 3/\(Dc e=0->idx x c3)/\(Dc e=1->KC x c3)/\(Dc e=2->idx x c3/\b=b)/\(T->f=f/\(h*24)<=140737488355328/\h<=9223372036854775807/\inR .i64 c12/\∃y,let G:=aZ 4 (aO b) c2 y;dU y g 40/\(T4 (4:Int) (40:Int) b Z0 1 0 0 (h=Dk G/\c4=c4/\c12=y/\Q3 A A A b (Ee c9 O=G/\True)))/\Dc (40-y)<Dc (40-x))/\(T=false->inR .i64 L/\∃y,cF (aO b) c2 x y/\(L3 (4:Int) (40:Int) b Z0 1 0 0 f x (T6 c4 x A A A b (L=y/\v6 A A A b c9)))/\Dc (3-y)<Dc (3-e)))/\(c15=false->inR .i64 c12/\∃y,let z:=aZ 4 (aO b) c2 y;
  dU y g 40/\(T4 (4:Int) (40:Int) b Z0 1 0 0 (f=Dk z/\c4=c4/\c12=y/\Q3 A A A b (c9=z/\True)))/\Dc (40-y)<Dc (40-x))))/\(Dn x c4=false->(c5->f=f/\(c13*24)<=140737488355328/\c13<=9223372036854775807/\Dk c14=c13/\c14=c7/\True)/\(c5=false->f=f/\c9=c7/\True))))) KS6 λ_=>?_
 have hm:(aO b).length=b.length:=map_length _ b;refine Z9 ?_;exact JS hm (by decide) (by decide)
def aH4(V:LC)(L G:LB)(T:Lo)(O:Ll)(b:Lk):ah yv G0 181 [.dat I 5,.dat I 4,.dat (.sl Kl) b,.fn 180 [.ip N (V,L,G,T,O,b)],.fn 182 []] [] ⟨True,.dat (.sl Fa) (bQ 5 4 (aP b) (bP b)),[]⟩:=by
 refine zE (A:=(lvA [(4,[0,1,7,10,11,12,13,15,16,24,25,28,29]),(7,[0,1,7,10,11,12,13,15,16,24,25,28,29])] (JU 5 4 (aP b) (bP b)))) (p:=let g:=Df (aP b);let c1:=Df b;let c2:=Ey c1 4;let A:=(V,L,G,T,O,b);let c4:=Eh c1 4;let c5:=[((5:Int),(4:Int),(2:Int))];let c6:=bQ 5 4 (aP b) (bP b);(True->L5 1 0 ((∃x,let c7:=aZ 5 (aP b) (bP b) x;dU x g 4/\T4 (5:Int) (4:Int) b Z0 1 0 0 (Dk c7=0/\c7=Dt (Int×Int×Int)/\c2=c2/\0=x/\Q2 A A b (c7=Dt (Int×Int×Int)/\True)))/\∀(x:Int),let h:=aZ 5 (aP b) (bP b) x;let X:=Dk h;let f:=x+1;let c12:=X+Dk c5;let c13:=Ee h c5;dU x g 4->(Dn x c2->L5 1 0 ((∃e,cF (aP b) (bP b) x e/\L3 (5:Int) (4:Int) b Z0 1 0 0 X x (T2 c2 x A A b (0=e/\z8 A A b h)))/\∀(e:Int),let c14:=Dn e 3;let c15:=Du [b8 (aP b) x,rule2 (aP b) x,cC (bP b) x] (Dc e) 0;let z:=Dw c15 0;let v:=[((5:Int),x,c15)];let i:=X+Dk v;let u:=e+1;cF (aP b) (bP b) x e->(c14->0<=e/\e<Ea 3/\(Dc e=0->idx x c1)/\(Dc e=1->KC x c1)/\(Dc e=2->idx x c1)/\(z->X=X/\(i*24)<=140737488355328/\i<=9223372036854775807/\inR .i64 f/\∃y,let r:=aZ 5 (aP b) (bP b) y;dU y g 4/\(T4 (5:Int) (4:Int) b Z0 1 0 0 (i=Dk r/\c2=c2/\f=y/\Q2 A A b (Ee h v=r/\True)))/\Dc (4-y)<Dc (4-x))/\(z=false->inR .i64 u/\∃y,cF (aP b) (bP b) x y/\(L3 (5:Int) (4:Int) b Z0 1 0 0 X x (T2 c2 x A A b (u=y/\z8 A A b h)))/\Dc (3-y)<Dc (3-e)))/\(c14=false->inR .i64 f/\∃y,let j:=aZ 5 (aP b) (bP b) y;
  dU y g 4/\(T4 (5:Int) (4:Int) b Z0 1 0 0 (X=Dk j/\c2=c2/\f=y/\Q2 A A b (h=j/\True)))/\Dc (4-y)<Dc (4-x))))/\(Dn x c2=false->(c4->X=X/\(c12*24)<=140737488355328/\c12<=9223372036854775807/\Dk c13=c12/\c13=c6/\True)/\(c4=false->X=X/\h=c6/\True))))) KS6 λ_=>?_
 have hm:(aP b).length=b.length:=map_length _ b;refine Z9 ?_;exact JS hm (by decide) (by decide)
def KS7:ai yv G0 K7:=
 af (ae λ(k,m,b,(r,f,e,j,g,i),_,_)=>zC2 λ(h:k=1/\m=6/\b=r)=>by obtain⟨rfl,rfl,rfl⟩:=h;exact((aH8 b f e j g i).weaken λ_=>trivial)) <|
 af (ae λ(k,m,b,(r,f,e,j,g,i),_,_)=>zC2 λ(h:k=2/\m=6/\b=e)=>by obtain⟨rfl,rfl,rfl⟩:=h;exact((aH7 r f b j g i).weaken λ_=>trivial)) <|
 af (ae λ(k,m,b,(r,f,e,j,g,i),u,_)=>zC2 λ(h:k=3/\m=12/\b=j/\u=(r,f,e,j,g,i))=>by obtain⟨rfl,rfl,rfl,rfl⟩:=h;exact((aH6 r f e b g i).weaken λ_=>trivial)) <|
 af (ae λ(k,m,b,(r,f,e,j,g,i),u,_)=>zC2 λ(h:k=4/\m=40/\b=g/\u=(r,f,e,j,g,i))=>by obtain⟨rfl,rfl,rfl,rfl⟩:=h;exact((aH5 r f e j b i).weaken λ_=>trivial)) <|
 af (ae λ(k,m,b,(r,f,e,j,g,i),_,_)=>zC2 λ(h:k=5/\m=4/\b=i)=>by obtain⟨rfl,rfl,rfl⟩:=h;exact((aH4 r f e j g b).weaken λ_=>trivial))<|KS6
def lO(e b:Int)(l:List ByteArray)(g:List Bool)(h:0<=b):(bQ e b l g).length<=b.toNat+1:=by
 unfold bQ Ij;have:=oj e l g (min l.length b);rw[qF];split<;>simp only[qL,xR]<;>omega
def DV(f:LC)(g b:LB)(i:Lo)(h:Ll)(e:Lk):dw (f,g,b,i,h,e)=Ge (f,g,b,i,h,e)++(bQ 1 6 (aL f g) (bI f)++(bQ 2 6 b (cN b)++(bQ 3 12 (aN i) (fD (f,g,b,i,h,e))++(bQ 4 40 (aO h) (eQ (f,g,b,i,h,e))++bQ 5 4 (aP e) (bP e))))):=by
 unfold dw aH;rw[show(Int.toNat 6-1)=5 from rfl,show List.range 5=[0,1,2,3,4]from rfl];simp only[qAh,qDm,wB];rfl
abbrev y5:=DT [.row N] (λ_=>True) (λ(n,_)=>.buf 0 (Dk (dw n))) λ(n,_)=>.buf 169 Fa (dw n) []
def XE:eO 121 y5:=rI λ(((f,z,g,j,i,h):Net),_)=>by
 refine zE (A:=az) (p:=let X:=(5:Int)=(5:Int)/\(4:Int)=(4:Int)/\h=h;let c36:=(2:Int)=(2:Int)/\(6:Int)=(6:Int)/\g=g;let c35:=(1:Int)=(1:Int)/\(6:Int)=(6:Int)/\f=f;let c1:=Dw (Df z) (Df f);let c2:=[((1:Int),(-1:Int),(1:Int))];let A:=Dk c2;let c4:=bQ 1 6 (aL f z) (bI f);let e:=Dk c4;let c6:=A+e;let c7:=Ee c2 c4;let c8:=bQ 2 6 g (cN g);let c9:=Dk c8;let y:=c6+c9;let b:=(f,z,g,j,i,h);let c34:=(4:Int)=(4:Int)/\(40:Int)=(40:Int)/\i=i/\b=b;let c33:=(3:Int)=(3:Int)/\(12:Int)=(12:Int)/\j=j/\b=b;let c12:=Ee c7 c8;let c13:=bQ 3 12 (aN j) (fD b);let c14:=Dk c13;let c15:=y+c14;let c16:=Ee c12 c13;let V:=bQ 4 40 (aO i) (eQ b);let c18:=Dk V;let x:=c15+c18;let c20:=Ee c16 V;let T:=bQ 5 4 (aP h) (bP h);let c22:=Dk T;let O:=x+c22;let L:=dw b;let c25:=Dk L;let v:=e+c9;let c27:=Ee c4 c8;let u:=v+c14;let c29:=Ee c27 c13;let r:=u+c18;let c31:=Ee c29 V;let G:=r+c22;
  (True->(c1->(A*24)<=140737488355328/\A<=9223372036854775807/\c35/\A=A/\(c6*24)<=140737488355328/\c6<=9223372036854775807/\c36/\Dk c7=c6/\(y*24)<=140737488355328/\y<=9223372036854775807/\c33/\Dk c12=y/\(c15*24)<=140737488355328/\c15<=9223372036854775807/\c34/\Dk c16=c15/\(x*24)<=140737488355328/\x<=9223372036854775807/\X/\Dk c20=x/\(O*24)<=140737488355328/\O<=9223372036854775807/\O=c25/\Ee c20 T=L/\True)/\(c1=false->c35/\(e*24)<=140737488355328/\e<=9223372036854775807/\c36/\e=e/\(v*24)<=140737488355328/\v<=9223372036854775807/\c33/\Dk c27=v/\(u*24)<=140737488355328/\u<=9223372036854775807/\c34/\Dk c29=u/\(r*24)<=140737488355328/\r<=9223372036854775807/\X/\Dk c31=r/\(G*24)<=140737488355328/\G<=9223372036854775807/\G=c25/\Ee c31 T=L/\True))) KS7 λ_=>?_
 have h1:=lO 1 6 (aL f z) (bI f) (by decide);have h2:=lO 2 6 g (cN g) (by decide);have h3:=lO 3 12 (aN j) (fD (f,z,g,j,i,h)) (by decide);have h4:=lO 4 40 (aO i) (eQ (f,z,g,j,i,h)) (by decide);have h5:=lO 5 4 (aP h) (bP h) (by decide);rw[DV];refine Z9 ?_;refine⟨λhne=>?_,λhe=>?_⟩;rw[show Ge (f,z,g,j,i,h)=[(1,-1,1)]from if_neg λe=>hne (yS Int.ofNat e)];generalize bQ 1 6 _ _=a1 at *;generalize bQ 2 6 _ _=a2 at *;generalize bQ 3 12 _ _=a3 at *;generalize bQ 4 40 _ _=a4 at *;generalize bQ 5 4 _ _=a5 at *;simp only[qF,qL,vO]
 and_intros<;>first|omega|rfl
 rw[show Ge (f,z,g,j,i,h)=[]from if_pos (Int.ofNat.inj he)];generalize bQ 1 6 _ _=a1 at *;generalize bQ 2 6 _ _=a2 at *;generalize bQ 3 12 _ _=a3 at *;generalize bQ 4 40 _ _=a4 at *;generalize bQ 5 4 _ _=a5 at *;simp only[qF,kR,vO]
 and_intros<;>first|omega|rfl
abbrev M:Ty:=.sl R
def upN(k n:Int):Prop:=0<=k/\k<=n
def cZ(n:Net):Bool:=jo n&&n.2.2.2.1.all λo=>decide (o.2.2.2.2.2.2.length<=30)
def UD(n:Net)(k i:Int):Prop:=cZ n=true/\1<=k/\k<=5/\0<=i/\i<(ak n k).length
def Jt(n:Net)(k i:Int):Bool:=(gu n k).getD i.toNat false
def bu(n:Net)(k i:Int):List ByteArray:=(ak n k).take i.toNat
def aw(n:Net)(k i:Int):List (Int×Int×Int):=aH n k++aZ k (ak n k) (gu n k) i
def nUp(n:Net)(k i:Int):Prop:=0<=i/\i<=(ak n k).length/\i<=bU k
def kUp(k:Int):Prop:=1<=k/\k<=6
def PN(b:List (Int×List Bool×Li))(k:Int):Prop:=0<=k/\k<=b.length/\(b.take k.toNat).all (λc=>oW c.2.1 c.2.2)=true
def N4(b:Lo)(k:Int):Prop:=0<=k/\k<=b.length/\(b.take k.toNat).all (λo=>decide (o.2.2.2.2.2.2.length<=30))=true
def oY(l:List ByteArray):Bool:=l.all λs=>decide (s.size<=40)
def F4(n:Net)(k:Int):Prop:=1<=k/\k<=6/\∀j:Int,1<=j->j<k->oY (ak n j)=true
def YM(l:List ByteArray)(i:Int):Prop:=0<=i/\i<=l.length/\oY (l.take i.toNat)=true
def Vx(n:Net):Bool:=jo n&&(n.1.all λc=>oW c.2.1 c.2.2)&&(n.2.2.2.1.all λo=>decide (o.2.2.2.2.2.2.length<=30))&&oY (ak n 1)&&oY (ak n 2)&&oY (ak n 3)&&oY (ak n 4)&&oY (ak n 5)
def pz(a b:Lj):Bool:=a==b
def EZ(a b:Lj)(k:Int):Prop:=0<=k/\k<=a.length/\a.length=b.length/\a.length<=1000000/\a.take k.toNat=b.take k.toNat
def E0(a b:Lj)(i k:Int):Prop:=0<=k/\k<=(a.getD i.toNat []).length/\(a.getD i.toNat []).length=(b.getD i.toNat []).length/\(a.getD i.toNat []).length<=1000000/\(a.getD i.toNat []).take k.toNat=(b.getD i.toNat []).take k.toNat
def mild(a:Lj):Prop:=a.length<=1000000/\∀r∈a,r.length<=1000000
def noF(n:Net):Bool:=(dw n).isEmpty
def K8:Kt:=kOr 121 y5 K7
def UG(n:Net)(k:Int)(b slot:Nat)(st:St)(xs:List ByteArray):Option Spec:=some {α:=Int,inv:=λi=>upN i (Df (ak n k)),st:=λi=>dD (put st [(slot,.dat I i),(5,.buf 100 (Dk (bu n k i)))]) 100 (.buf 9 S (bu n k i) []),μ:=λi=>Dc (Di (Df (ak n k)) i)}
def aFt(n:Net):Ann:=⟨λe b=>match e with
 |5=>UG n 1 5 6 b []|12=>UG n 2 12 7 b []|17=>UG n 3 17 8 b []|22=>UG n 4 22 9 b []|27=>UG n 5 27 10 b []|_=>none,λ_ _=>none,λ_ _=>none⟩
def aEQ(a b:Lj):Ann:=⟨λe st=>match e with
 |4=>some {α:=Int,inv:=λk=>EZ a b k,st:=λk=>put st [(5,.dat I k)],μ:=λk=>Dc (Di (Df a) k)}|9=>match st.sig.T 5 with
  |.dat (.int .i64) i=>some {α:=Int,inv:=λk=>E0 a b i k,st:=λk=>put st [(6,.dat I k)],μ:=λk=>Dc (Di (Df (Du a (Dc i) [])) k)}|_=>none
 |_=>none,λ_ _=>none,λ_ _=>none⟩
abbrev CJ:=aj [.row N,.val I] (λ(n,_,_)=>jo n=true) λ(n,k,_)=>.dat (.sl S) (ak n k)
abbrev t8:=aj [.row N,.val I,.val I] (λ(n,k,i,_)=>UD n k i) λ(n,k,i,_)=>.dat .bool (Jt n k i)
def K9:Kt:=kOr 83 CJ <|
 kOr 267 t8 K8
def aFQ(l:List ByteArray)(i:Int):Ann:=Z8 5 Int (uN l i) (λb k=>put b [(10,.dat I k)]) λk=>Dc (Di i k)
def aKK(n:Net):Ann:=⟨λb st=>match b with
 |4=>some {α:=Int,inv:=λk=>PN n.1 k,st:=λk=>put st [(3,.dat I k)],μ:=λk=>Dc (Di (Df n.1) k)}|9=>some {α:=Int,inv:=λk=>N4 n.2.2.2.1 k,st:=λk=>put st [(4,.dat I k)],μ:=λk=>Dc (Di (Df n.2.2.2.1) k)}|14=>some {α:=Int,inv:=λk=>F4 n k,st:=λk=>put st [(5,.dat I k)],μ:=λk=>Dc (Di 6 k)}|18=>match st.sig.T 5 with
  |.dat (.int .i64) k=>some {α:=Int,inv:=λi=>YM (ak n k) i,st:=λi=>put st [(7,.dat I i)],μ:=λi=>Dc (Di (Df (ak n k)) i)}|_=>none
 |_=>none,λ_ _=>none,λ_ _=>none⟩
abbrev OW:=aj [.row N] (λ_=>True) λ(n,_)=>.dat .bool (Vx n)
def K10:Kt:=kOr 215 (aj [.row N,.val I,.val (.sl S),.val I] (λ(n,k,l,i,_)=>UD n k i/\l=ak n k) λ(n,k,_,i,_)=>.dat I (pg (ak n k) (gu n k) i)) <|
 kOr 42 OW K9
def Yn(n:Net):Ann:=⟨λb st=>match b with
 |5=>some {α:=Int,inv:=λk=>kUp k,st:=λk=>dD (put st [(4,.dat I k),(3,.buf 0 (Dk (aH n k)))]) 0 (.buf 169 Fa (aH n k) []),μ:=λk=>Dc (Di 6 k)}|9=>match st.sig.T 4 with
  |.dat (.int .i64) k=>some {α:=Int,inv:=λi=>nUp n k i,st:=λi=>dD (put st [(6,.dat I i),(3,.buf 0 (Dk (aw n k i)))]) 0 (.buf 169 Fa (aw n k i) []),μ:=λi=>Dc (Di (Df (ak n k)) i)}|_=>none
 |_=>none,λ_ _=>none,λ_ _=>none⟩
abbrev tU:=DT [.row N] (λ(n,_)=>cZ n=true) (λ(n,_)=>.buf 0 (Dk (dw n))) λ(n,_)=>.buf 169 Fa (dw n) []
def K11:Kt:=kOr 151 tU K10
abbrev nA:=aj [.row N] (λ(n,_)=>cZ n=true) λ(n,_)=>.dat .bool (noF n)
def K12:Kt:=kOr 216 nA K11
def KS8:ai yv G0 K8:=af XE KS7
def LN{n:Net}{k i:Int}(e:0<=i)(b:i<=(ak n k).length):(bu n k i).length=i.toNat:=by
 unfold bu;rw[qP];omega
def IA{n:Net}{k i:Int}(e:0<=i)(b:i<(ak n k).length):bu n k (i+1)=bu n k i++[(ak n k).getD i.toNat ⟨#[]⟩]:=by
 unfold bu;rw[show(i+1).toNat=i.toNat+1 by omega,wW,qA,qB (show i.toNat<(ak n k).length by omega)];rfl
def LO{n:Net}{k i:Int}(e:i<=(ak n k).length)(b:¬i<(ak n k).length):bu n k i=ak n k:=by
 unfold bu;exact qO Z
def Iy{n:Net}{k:Int}{m:Nat}{el:Int->ByteArray}(r:(ak n k).length=m)(hm:m<=100)(i:∀x,0<=x->x<(m:Int)->(ak n k).getD x.toNat ⟨#[]⟩=el x){R:List ByteArray}(j:R=ak n k):
  (∃x,upN x (ak n k).length/\(bu n k x).length=0/\bu n k x=[]/\0=x/\bu n k x=[])/\
   ∀(x:Int),upN x (ak n k).length->
    (x<(m:Int)->0<=x/\x<(m:Int)/\((bu n k x).length+[el x].length)*16<=140737488355328/\(bu n k x).length+[el x].length<=9223372036854775807/\inR .i64 (x+1)/\
     ∃y,upN y (ak n k).length/\((bu n k x).length+[el x].length=(bu n k y).length/\x+1=y/\bu n k x++[el x]=bu n k y)/\(((ak n k).length:Int)-y).toNat<(((ak n k).length:Int)-x).toNat)/\
    (¬x<(m:Int)->bu n k x=R):=by
 refine⟨⟨0,⟨qH _,qI _⟩,rfl,rfl,rfl,rfl⟩,λx ⟨e,g⟩=>⟨λb=>?_,λh=>by rw[j];exact LO g Z⟩⟩;have u:=LN e g;have f:=IA e (show x<((ak n k).length:Int) by omega);rw[i x e b]at f;refine⟨e,b,by simp only[qL];omega,by simp only[qL];omega,⟨Z,Z⟩,x+1,⟨Z,Z⟩,⟨by rw[f,qF],rfl,f.symm⟩,Z⟩
def Gy(i:LC)(e b:LB)(h:Lo)(f:Ll)(g:Lk)(j:jo (i,e,b,h,f,g)=true):i.length<=10/\e.length<=10/\b.length<=10/\h.length<=16/\f.length<=50/\g.length<=8:=vT j
def aBj:eO 83 CJ:=ae λ(((r,f,g,j,h,i):Net),(k:Int),_)=>by
 refine zE (A:=(lvA [(5,[2,4,5,6,7,8,9,10,11]),(12,[2,4,5,7,8,9,10,11]),(17,[2,4,5,8,9,10,11]),(22,[2,4,5,9,10,11]),(27,[2,4,5,10])] (aFt (r,f,g,j,h,i)))) (p:=let c5:=ByteArray.mk #[];let e:=(r,f,g,j,h,i);let c2:=Eb k 1;let A:=Df (ak e 1);let c4:=[ByteArray.mk #[]];let T:=ak e k;let c7:=Eb k 2;let c8:=Df (ak e 2);let c9:=Eb k 3;let O:=Df (ak e 3);let c11:=Df j;let c13:=Eb k 4;let V:=Df (ak e 4);let c15:=Df h;let c16:=((0:Int),(0:Int));let c18:=Eb k 5;let L:=Df (ak e 5);let c20:=Df i;(jo e->(c2->(∃x,let c22:=bu e 1 x;upN x A/\L5 e Z0 (Dk c22=0/\c22=Dt ByteArray/\0=x/\k=k/\c22=Dt ByteArray/\True))/\∀(x:Int),let c23:=Dn x (Df r);let c24:=Dn x (Df f);let c25:=bu e 1 x;let b:=Dk c25;let c27:=[Du f (Dc x) c5];let c28:=b+Dk c27;let X:=x+1;let c30:=b+(Dk c4);upN x A->(c23->(c24->0<=x/\x<Df f/\b=b/\(c28*16)<=140737488355328/\c28<=9223372036854775807/\inR .i64 X/\∃y,let c31:=bu e 1 y;upN y A/\(L5 e Z0 (c28=Dk c31/\X=y/\k=k/\Ee c25 c27=c31/\True))/\Dc (A-y)<Dc (A-x))/\(c24=false->b=b/\(c30*16)<=140737488355328/\c30<=9223372036854775807/\inR .i64 X/\∃y,let c32:=bu e 1 y;upN y A/\(L5 e Z0 (c30=Dk c32/\X=y/\k=k/\Ee c25 c4=c32/\True))/\Dc (A-y)<Dc (A-x)))/\(c23=false->b=b/\c25=T/\True))/\(c2=false->(c7->(∃x,let c33:=bu e 2 x;upN x c8/\L5 e Z0 (Dk c33=0/\c33=Dt ByteArray/\0=x/\k=k/\c33=Dt ByteArray/\True))/\∀(x:Int),let c34:=Dn x (Df g);let c35:=bu e 2 x;let G:=Dk c35;let c37:=[Du g (Dc x) c5];let c38:=G+Dk c37;let c39:=x+1;
  upN x c8->(c34->0<=x/\x<Df g/\G=G/\(c38*16)<=140737488355328/\c38<=9223372036854775807/\inR .i64 c39/\∃y,let c40:=bu e 2 y;upN y c8/\(L5 e Z0 (c38=Dk c40/\c39=y/\k=k/\Ee c35 c37=c40/\True))/\Dc (c8-y)<Dc (c8-x))/\(c34=false->G=G/\c35=T/\True))/\(c7=false->(c9->(∃x,let c41:=bu e 3 x;upN x O/\L5 e Z0 (Dk c41=0/\c41=Dt ByteArray/\0=x/\k=k/\c41=Dt ByteArray/\True))/\∀(x:Int),let c42:=bu e 3 x;let z:=Dk c42;let c44:=[(Du j (Dc x) (ByteArray.mk #[],(0:Int),(0:Int),(0:Int),(0:Int),(0:Int),Dt ByteArray)).1];let c45:=z+Dk c44;let c46:=x+1;upN x O->(Dn x c11->0<=x/\x<c11/\z=z/\(c45*16)<=140737488355328/\c45<=9223372036854775807/\inR .i64 c46/\∃y,let c47:=bu e 3 y;upN y O/\(L5 e Z0 (c45=Dk c47/\c46=y/\k=k/\Ee c42 c44=c47/\True))/\Dc (O-y)<Dc (O-x))/\(Dn x c11=false->z=z/\c42=T/\True))/\(c9=false->(c13->(∃x,let c48:=bu e 4 x;upN x V/\L5 e Z0 (Dk c48=0/\c48=Dt ByteArray/\0=x/\k=k/\c48=Dt ByteArray/\True))/\∀(x:Int),let c49:=bu e 4 x;let v:=Dk c49;let c51:=[(Du h (Dc x) (ByteArray.mk #[],(0:Int),(0:Int),(0:Int),c16)).1];let c52:=v+Dk c51;let c53:=x+1;upN x V->(Dn x c15->0<=x/\x<c15/\v=v/\(c52*16)<=140737488355328/\c52<=9223372036854775807/\inR .i64 c53/\∃y,let c54:=bu e 4 y;upN y V/\(L5 e Z0 (c52=Dk c54/\c53=y/\k=k/\Ee c49 c51=c54/\True))/\Dc (V-y)<Dc (V-x))/\(Dn x c15=false->v=v/\c49=T/\True))/\(c13=false->(c18->(∃x,let c55:=bu e 5 x;
  upN x L/\L5 e Z0 (Dk c55=0/\c55=Dt ByteArray/\0=x/\c55=Dt ByteArray/\True))/\∀(x:Int),let c56:=bu e 5 x;let u:=Dk c56;let c58:=[(Du i (Dc x) (ByteArray.mk #[],c16)).1];let c59:=u+Dk c58;let c60:=x+1;upN x L->(Dn x c20->0<=x/\x<c20/\u=u/\(c59*16)<=140737488355328/\c59<=9223372036854775807/\inR .i64 c60/\∃y,let c61:=bu e 5 y;upN y L/\(L5 e Z0 (c59=Dk c61/\c60=y/\Ee c56 c58=c61/\True))/\Dc (L-y)<Dc (L-x))/\(Dn x c20=false->u=u/\c56=T/\True))/\(c18=false->T=Dt ByteArray/\True))))))) KS8 λhp=>?_
 obtain⟨l1,l2,l3,l4,l5,l6⟩:=Gy r f g j h i hp;refine Z9 ?_;refine⟨λT=>?_,λV=>⟨λT=>?_,λh2=>⟨λT=>?_,λh3=>⟨λT=>?_,λh4=>⟨λT=>?_,λh5=>?_⟩⟩⟩⟩⟩;subst T;have hl:(ak (r,f,g,j,h,i) 1).length=r.length:=fA r f;obtain⟨b1,b2⟩:=Iy (n:=(r,f,g,j,h,i)) (k:=1) (el:=λx=>f.getD x.toNat ⟨#[]⟩) (R:=ak (r,f,g,j,h,i) 1) hl Z (λx h0 V=>Ak h0 V) rfl;refine⟨b1,λx hx=>⟨λhlt=>⟨λhn=>⟨hx.1,hn,((b2 x hx).1 hlt).2.2⟩,λhn=>?_⟩,(b2 x hx).2⟩⟩;have e:f.getD x.toNat ⟨#[]⟩=⟨#[]⟩:=by rw[qA,zD (by have:=hx.1;omega)];rfl
 have:=((b2 x hx).1 hlt).2.2;simp only[e]at this;exact this;subst T;exact Iy (n:=(r,f,g,j,h,i)) (k:=2) (m:=g.length) (el:=λx=>g.getD x.toNat ⟨#[]⟩) rfl Z (λx _ _=>rfl) rfl;subst T;exact Iy (n:=(r,f,g,j,h,i)) (k:=3) (m:=j.length) (el:=λx=>(j.getD x.toNat (⟨#[]⟩,0,0,0,0,0,[])).1) (map_length _ j) Z (λx h0 V=>QF _ h0 V) rfl;subst T;exact Iy (n:=(r,f,g,j,h,i)) (k:=4) (m:=h.length) (el:=λx=>(h.getD x.toNat (⟨#[]⟩,0,0,0,0,0)).1) (map_length _ h) Z (λx h0 V=>QF _ h0 V) rfl;subst T;exact Iy (n:=(r,f,g,j,h,i)) (k:=5) (m:=i.length) (el:=λx=>(i.getD x.toNat (⟨#[]⟩,0,0)).1) (map_length _ i) Z (λx h0 V=>QF _ h0 V) rfl;unfold ak;rw[if_neg V,if_neg h2,if_neg h3,if_neg h4,if_neg h5]
def Gz{n:Net}:cZ n=true↔jo n=true/\∀o∈n.2.2.2.1,o.2.2.2.2.2.2.length<=30:=by
 unfold cZ;rw[qC,qQ];simp only[qE]
def getD_mem{α:Type}{l:List α}{i:Nat}{d:α}(h:i<l.length):l.getD i d∈l:=by
 rw[qA,qB h];exact wL h
def SX:eO 267 t8:=ae λ(((j,x,u,g,h,f):Net),(k:Int),(i:Int),_)=>by
 refine zE (A:=az) (p:=let v:=Dc i;let b:=(j,x,u,g,h,f);let A:=Eb k 1;let y:=Du j v ((0:Int),Dt Bool,Dt Int);let r:=Jt b k i;let L:=Eb k 3;let O:=(Du g v (ByteArray.mk #[],(0:Int),(0:Int),(0:Int),(0:Int),(0:Int),Dt ByteArray));let T:=Eb k 4;let V:=((0:Int),(0:Int));let G:=Eb k 5;let z:=(Du f v (ByteArray.mk #[],V)).2;let e:=cP z.1 0 1439;(UD b k i->(A->0<=i/\i<Df j/\True/\aA y.1 y.2.1 y.2.2=r/\True)/\(A=false->(L->0<=i/\i<Df g/\LI b O/\dt b O=r/\True)/\(L=false->(T->0<=i/\i<Df h/\jo b/\dN b (Du h v (ByteArray.mk #[],(0:Int),(0:Int),(0:Int),V))=r/\True)/\(T=false->(G->0<=i/\i<Df f/\True/\Q4 e ((e->0<=i)/\(e->i<Df f)/\Q4 e ((e->True)/\(Dh true e->e)/\Dz e (cP z.2 0 1439) false=r/\True)))/\(G=false->true=r/\True)))))) KS8 λ⟨L,X,V,r,b⟩=>?_;obtain⟨O,T⟩:=Gz.1 L;refine Z9 ?_;refine⟨λy=>?_,λh1=>⟨λy=>?_,λh3=>⟨λy=>?_,λh4=>⟨λy=>?_,λh5=>?_⟩⟩⟩⟩;subst y;have v:i<(j.length:Int):=by rw[show(ak (j,x,u,g,h,f) 1).length=j.length from fA j x]at b;exact b
 exact⟨r,v,(iw (λc:Int×List Bool×Li=>aA c.1 c.2.1 c.2.2) j _ _ _ Z).symm⟩;subst y;have v:i<(g.length:Int):=by rw[show(ak (j,x,u,g,h,f) 3).length=g.length from map_length _ g]at b;exact b
 exact⟨r,v,⟨O,T _ (getD_mem (by show i.toNat<g.length;omega))⟩,(iw (dt (j,x,u,g,h,f)) g _ _ _ Z).symm⟩;subst y;have v:i<(h.length:Int):=by rw[show(ak (j,x,u,g,h,f) 4).length=h.length from map_length _ h]at b;exact b
 exact⟨r,v,O,(iw (dN (j,x,u,g,h,f)) h _ _ _ Z).symm⟩;subst y;have v:i<(f.length:Int):=by rw[show(ak (j,x,u,g,h,f) 5).length=f.length from map_length _ f]at b;exact b
 exact⟨r,v,λ_=>r,λ_=>v,(iw lq f _ _ _ Z).symm⟩;have:k=2:=by omega
 subst this;have v:i<(u.length:Int):=b;exact(iw (λ_:ByteArray=>true) u _ ⟨#[]⟩ _ Z).symm
def iY{α:Type}{a b:List α}{k:Nat}{d:α}(h:a.take k=b.take k)(i:k<a.length)(g:k<b.length)(f:a.getD k d=b.getD k d):a.take (k+1)=b.take (k+1):=by
 rw[qA,qA,qB i,qB g]at f;have e:a[k]=b[k]:=f;rw[wW,wW,qB i,qB g,h,e]
def EY{a b:Lj}(h:a≠b):false=pz a b:=by unfold pz;exact(qAr.2 h).symm
def KS9:ai yv G0 K9:=
 af aBj<|af SX KS8
def N5{n:Net}{k i:Int}(h:UD n k i):i<(ak n k).length/\(ak n k).length<=100:=by
 obtain⟨x,X,V,T,v⟩:=h;obtain⟨q,_⟩:=Gz.1 x;obtain⟨g,r,j,f,b,e⟩:=n;obtain⟨O,L,G,A,z,y⟩:=Gy g r j f b e q;refine⟨v,?_⟩;have u:k=1\/k=2\/k=3\/k=4\/k=5:=Z;rcases u with rfl|rfl|rfl|rfl|rfl;rw[show(ak (g,r,j,f,b,e) 1).length=g.length from fA g r];omega;show j.length<=100;omega;rw[show(ak (g,r,j,f,b,e) 3).length=f.length from map_length _ f];omega;rw[show(ak (g,r,j,f,b,e) 4).length=b.length from map_length _ b];omega;rw[show(ak (g,r,j,f,b,e) 5).length=e.length from map_length _ e];omega
def aBB(k i:Int)(u:LC)(f b:LB)(r:Lo)(h:Ll)(j:Lk):ah yv G0 215 [net u f b r h j,.dat I k,.dat (.sl S) (ak (u,f,b,r,h,j) k),.dat I i] [] ⟨UD (u,f,b,r,h,j) k i,.dat I (pg (ak (u,f,b,r,h,j) k) (gu (u,f,b,r,h,j) k) i),[]⟩:=by
 refine zE (A:=(lvA [(5,[1,2,3,4,8,10,11])] (aFQ (ak (u,f,b,r,h,j) k) i))) (p:=let V:=ByteArray.mk #[];let g:=(u,f,b,r,h,j);let e:=ak g k;let z:=Df e;let A:=Du e (Dc i) V;let G:=Dj (bV A);let v:=pg e (gu g k) i;let L:=Dj (Jt g k i);(UD g k i->0<=i/\i<z/\True/\(G->1=v/\True)/\(G=false->(∃x,uN e i x/\Q3 k e i g (0=x/\True))/\∀(x:Int),let c8:=Fz (Du e (Dc x) V) A;let O:=x+1;uN e i x->(Dn x i->0<=x/\x<z/\0<=i/\i<z/\(c8->4=v/\True)/\(c8=false->inR .i64 O/\∃y,uN e i y/\(Q3 k e i g (O=y/\True))/\Dc (i-y)<Dc (i-x)))/\(Dn x i=false->UD g k i/\(L->1=v/\True)/\(L=false->0=v/\True))))) KS9 λhp=>?_;obtain⟨X,hl⟩:=N5 hp;have h0:0<=i:=hp.2.2.2.1;refine Z9 ?_;refine⟨h0,X,λG=>?_,λG=>⟨lx h0,λx v=>⟨λL=>⟨v.1,Z,h0,X,λhe=>?_,λhne=>⟨⟨by have:=v.1;omega,Z⟩,x+1,ly v L X hne,rfl,by have:=v.1;omega⟩⟩,λO=>⟨hp,λT=>?_,λT=>?_⟩⟩⟩⟩;have e:b8 (ak (u,f,b,r,h,j) k) i=1:=if_neg (by unfold lr;rw[G];decide);unfold pg;rw[if_pos (by rw[e];decide),e];have e:b8 (ak (u,f,b,r,h,j) k) i=0:=if_pos G;have z:=P5 v L X he;unfold pg;rw[if_neg (by rw[e];decide),if_pos (by rw[<- z];decide),z];have e:b8 (ak (u,f,b,r,h,j) k) i=0:=if_pos G;have z:=l7 v O;unfold pg;rw[if_neg (by rw[e];decide),if_neg (by rw[<- z];decide)];unfold cC;rw[if_neg (by intro g;rw[show Jt (u,f,b,r,h,j) k i=_ from g]at T;cases T)];have e:b8 (ak (u,f,b,r,h,j) k) i=0:=if_pos G;have z:=l7 v O;unfold pg;rw[if_neg (by rw[e];decide),if_neg (by rw[<- z];decide)];unfold Jt at T;unfold cC;rw[if_pos T]
def Pm{n:Net}(h:Vx n=true->False):false=Vx n:=by
 cases e:Vx n with
 |false=>rfl|true=>exact(h e).elim
def oC{n:Net}:Vx n=true↔jo n=true/\(n.1.all λc=>oW c.2.1 c.2.2)=true/\(n.2.2.2.1.all λo=>decide (o.2.2.2.2.2.2.length<=30))=true/\∀j:Int,1<=j->j<6->oY (ak n j)=true:=by
 unfold Vx;simp only[qC,qCi];constructor;rintro⟨g,f,e,b,y,x,v,u⟩;refine⟨g,f,e,λj r i=>?_⟩;have h:j=1\/j=2\/j=3\/j=4\/j=5:=Z;rcases h with rfl|rfl|rfl|rfl|rfl<;>assumption;rintro⟨g,f,e,b⟩;exact⟨g,f,e,b 1 (by decide) (by decide),b 2 (by decide) (by decide),b 3 (by decide) (by decide),b 4 (by decide) (by decide),b 5 (by decide) (by decide)⟩
def Zk{n:Net}(h:Vx n=true):cZ n=true:=by
 obtain⟨e,_,b,_⟩:=oC.1 h;unfold cZ;rw[e,b];rfl
def aH3:eO 42 OW:=ae λ(((u,O,L,r,T,V):Net),_)=>by
 refine zE (A:=(lvA [(4,[1,2,3,4,5,6,7]),(9,[1,2,4,5,6,7]),(14,[1,2,5,6,7]),(18,[1,2,5,6,7])] (aKK (u,O,L,r,T,V)))) (p:=let g:=Df u;let A:=Eh g 10;let i:=Dj A;let c4:=Dz A true (Eh (Df O) 10);let j:=Dj c4;let c6:=Dz c4 true (Eh (Df L) 10);let v:=Dj c6;let c8:=Df r;let c9:=Dz c6 true (Eh c8 16);let X:=Dj c9;let c11:=Dz c9 true (Eh (Df T) 50);let z:=Dj c11;let c13:=Dz c11 true (Eh (Df V) 8);let e:=(u,O,L,r,T,V);let h:=Vx e;(True->Q4 i ((Dh true i->i)/\Q4 j ((Dh true j->j)/\Q4 v ((Dh true v->v)/\Q4 X ((Dh true X->X)/\Q4 z ((Dh true z->z)/\(c13->false=h/\True)/\(c13=false->(∃x,PN u x/\e=e/\0=x/\True)/\∀(x:Int),let c16:=(Du u (Dc x) ((0:Int),Dt Bool,Dt Int)).2;let c17:=Dj (oW c16.1 c16.2);let c18:=x+1;PN u x->(Dn x g->0<=x/\x<g/\True/\(c17->false=h/\True)/\(c17=false->inR IntKind.i64 c18/\∃y,PN u y/\(e=e/\c18=y/\True)/\Dc (g-y)<Dc (g-x)))/\(Dn x g=false->(∃xa,N4 r xa/\e=e/\0=xa/\True)/\∀(xb:Int),let c19:=Eh (Df (Du r (Dc xb) (ByteArray.mk #[],(0:Int),(0:Int),(0:Int),(0:Int),(0:Int),Dt ByteArray)).2.2.2.2.2.2) 30;let c20:=xb+1;N4 r xb->(Dn xb c8->0<=xb/\xb<c8/\(c19->false=h/\True)/\(c19=false->inR IntKind.i64 c20/\∃y,N4 r y/\(e=e/\c20=y/\True)/\Dc (c8-y)<Dc (c8-xb)))/\(Dn xb c8=false->(∃xba,F4 e xba/\e=e/\1=xba/\True)/\∀(b:Int),let c21:=Ef b 5;let G:=Df (ak e b);let c23:=b+1;F4 e b->(c21->jo e/\(∃f,YM (ak e b) f/\Q2 e b (ak e b) (0=f/\True))/\∀(f:Int),let c24:=Eh (Eo (Du (ak e b) (Dc f) (ByteArray.mk #[]))) 40;let c25:=f+1;
  YM (ak e b) f->(Dn f G->0<=f/\f<G/\(c24->false=h/\True)/\(c24=false->inR .i64 c25/\∃y,YM (ak e b) y/\(Q2 e b (ak e b) (c25=y/\True))/\Dc (G-y)<Dc (G-f)))/\(Dn f G=false->inR .i64 c23/\∃y,F4 e y/\(e=e/\c23=y/\True)/\Dc (6-y)<Dc (6-b)))/\(c21=false->true=h/\True))))))))))) KS9 λhp=>?_
 refine Z9 ?_;refine⟨λh=>Pm λg=>?_,λh=>?_⟩;obtain⟨l1,l2,l3,l4,l5,l6⟩:=Gy u O L r T V (oC.1 g).1;omega;have hl:jo (u,O,L,r,T,V)=true:=qU (by show u.length<=10/\O.length<=10/\L.length<=10/\r.length<=16/\T.length<=50/\V.length<=8;omega);refine⟨⟨qH _,qI _,by simp⟩,λx ⟨x0,x1,x2⟩=>⟨λv=>⟨x0,v,λhb=>Pm λg=>?_,λhg=>⟨⟨Z,Z⟩,x+1,⟨Z,Z,?_⟩,rfl,Z⟩⟩,λhge=>?_⟩⟩;have:=jW (l:=u) (p:=λc=>oW c.2.1 c.2.2) (d:=(0,[],[])) (k:=x.toNat) Z hb;rw[(oC.1 g).2.1]at this;cases this;rw[show(x+1).toNat=x.toNat+1 by omega];exact dz (d:=(0,[],[])) x2 Z hg;have hcs:(u.all λc=>oW c.2.1 c.2.2)=true:=by rwa [qO Z]at x2
 refine⟨⟨qH _,qI _,by simp⟩,λz ⟨z0,z1,z2⟩=>⟨λv=>⟨z0,v,λhb=>Pm λg=>?_,λhg=>⟨⟨Z,Z⟩,z+1,⟨Z,Z,?_⟩,rfl,Z⟩⟩,λhge=>?_⟩⟩;have:=jW (l:=r) (p:=λo=>decide (o.2.2.2.2.2.2.length<=30)) (d:=(⟨#[]⟩,0,0,0,0,0,[])) (k:=z.toNat) Z (vF Z);rw[(oC.1 g).2.2.1]at this;cases this;rw[show(z+1).toNat=z.toNat+1 by omega];exact dz (d:=(⟨#[]⟩,0,0,0,0,0,[])) z2 Z (qU Z);have hfs:(r.all λo=>decide (o.2.2.2.2.2.2.length<=30))=true:=by rwa [qO Z]at z2
 refine⟨⟨qH _,by decide,λj h1 h2=>Z⟩,λk ⟨k0,k1,k2⟩=>⟨λhk=>?_,λhk=>?_⟩⟩;have hlen:(ak (u,O,L,r,T,V) k).length<=100:=by
  by_cases hz:(ak (u,O,L,r,T,V) k).length=0;omega;exact(N5 (n:=(u,O,L,r,T,V)) (k:=k) (i:=0) ⟨by unfold cZ;rw[hl];exact hfs,k0,hk,qH _,Z⟩).2
 refine⟨hl,⟨qH _,qI _,by simp[oY]⟩,λi ⟨i0,i1,i2⟩=>⟨λv=>⟨i0,v,λhb=>Pm λg=>?_,λhg=>⟨⟨Z,Z⟩,i+1,⟨Z,Z,?_⟩,rfl,Z⟩⟩,λhge=>⟨⟨Z,Z⟩,k+1,⟨Z,Z,λj h1 h2=>?_⟩,rfl,Z⟩⟩⟩;have:=jW (l:=ak (u,O,L,r,T,V) k) (p:=λs=>decide (s.size<=40)) (d:=⟨#[]⟩) (k:=i.toNat) Z (vF Z);have h2:=(oC.1 g).2.2.2 k k0 Z;unfold oY at h2;rw[h2]at this;cases this;rw[show(i+1).toNat=i.toNat+1 by omega];exact dz (d:=⟨#[]⟩) i2 Z (qU Z);by_cases e:j=k;subst e;rwa [qO Z]at i2;exact k2 j h1 Z;exact(oC.2 ⟨hl,hcs,hfs,λj h1 h2=>k2 j h1 Z⟩).symm
def aKh:ai yv G0 K10:=
 af (ae λ((r,e,b,j,f,g),k,l,i,_)=>zC2 λ(h:UD (r,e,b,j,f,g) k i/\l=ak (r,e,b,j,f,g) k)=>by obtain⟨h,rfl⟩:=h;exact(aBB k i r e b j f g).weaken λ_=>h)<|af aH3 KS9
def rh(k:Int):4<=bU k/\bU k<=40:=by unfold bU;split<;>(try split)<;>(try split)<;>omega
def mA{n:Net}{k:Int}(h:1<=k):aH n (k+1)=aH n k++bQ k (bU k) (ak n k) (gu n k):=by
 unfold aH;rw[show(k+1).toNat-1=(k.toNat-1)+1 by omega,zS,qAs,<- vO];congr 1;simp only[qAh,qDm,wB];rw[show((k.toNat-1:Nat):Int)+1=k by omega]
def uy(n:Net):∀(j:Nat),(aH n (j+1)).length<=1+41*j
 |0=>by
  have e:aH n ((0:Nat)+1)=Ge n:=by unfold aH;simp
  rw[e];unfold Ge;split<;>simp
 |j+1=>by
  have b:=uy n j;have e:=mA (n:=n) (k:=(j:Int)+1) Z;have g:=(rh ((j:Int)+1)).1;have f:=(rh ((j:Int)+1)).2;have:=lO ((j:Int)+1) (bU ((j:Int)+1)) (ak n ((j:Int)+1)) (gu n ((j:Int)+1)) Z;rw[show(((j+1:Nat):Int)+1)=(j:Int)+1+1 by omega,e,qF];omega
def GF{n:Net}{k:Int}(e:1<=k)(b:k<=6):(aH n k).length<=250:=by
 have:=uy n (k.toNat-1);rw[show((k.toNat-1:Nat):Int)+1=k by omega]at this;omega
def Uk(n:Net)(k:Int):aw n k 0=aH n k:=by unfold aw;rw[L9,wB]
def aFg{n:Net}{k i:Int}(e:0<=i)(b:pg (ak n k) (gu n k) i≠0):aw n k (i+1)=aw n k i++[(k,i,pg (ak n k) (gu n k) i)]:=by
 unfold aw;rw[sD e b,vO]
def aIl{n:Net}{k i:Int}(e:0<=i)(b:pg (ak n k) (gu n k) i=0):aw n k (i+1)=aw n k i:=by
 unfold aw;rw[zg e b]
def aCr{n:Net}{k i:Int}(e:1<=k)(b:i=min ((ak n k).length:Int) (bU k))(h:((ak n k).length:Int)>bU k):aw n k i++[(k,bU k,2)]=aH n (k+1):=by
 rw[mA e];unfold aw bQ Ij;rw[if_pos Z,<- b,vO]
def aIm{n:Net}{k i:Int}(e:1<=k)(b:i=min ((ak n k).length:Int) (bU k))(h:¬((ak n k).length:Int)>bU k):aw n k i=aH n (k+1):=by
 rw[mA e];unfold aw bQ Ij;rw[if_neg Z,<- b,wB]
def oX{n:Net}{k i:Int}(e:1<=k)(b:k<=6)(f:i<=bU k):(aw n k i).length<=300:=by
 have:=GF (n:=n) e b;have:=oj k (ak n k) (gu n k) i;have:=(rh k).2;unfold aw;rw[qF];omega
def SH:eO 151 tU:=rI λ(((i,f,j,v,r,u):Net),_)=>by
 refine zE (A:=(lvA [(5,[1,2,3,4,5,6,7]),(9,[1,2,3,4,5,6,7])] (Yn (i,f,j,v,r,u)))) (p:=let e:=(i,f,j,v,r,u);let A:=Dw (Df f) (Df i);let T:=[((1:Int),(-1:Int),(1:Int))];let z:=Dk T;let g:=dw e;(cZ e->(A->(z*24)<=140737488355328/\z<=9223372036854775807/\(∃x,kUp x/\L5 e Z0 (z=Dk (aH e x)/\1=x/\T=aH e x/\True))/\∀(x:Int),let c6:=Ef x 5;let c7:=Dk (aH e x);let V:=Df (ak e x);let c9:=Eh V (bU x);let c10:=[(x,bU x,(2:Int))];let h:=x+1;kUp x->(c6->jo e/\(∃b,nUp e x b/\L5 e Z0 (c7=Dk (aw e x b)/\L5 x (ak e x) (0=b/\aH e x=aw e x b/\True)))/\∀(b:Int),let c13:=Dz (Dn b V) (Dn b (bU x)) false;let c14:=pg (ak e x) (gu e x) b;let c15:=Dw c14 0;let O:=Dk (aw e x b);let c17:=[(x,b,c14)];let c18:=O+Dk c17;let c19:=b+1;let c20:=O+(Dk c10);
  nUp e x b->L4 (Dn b V) ((Dn b V->True)/\L7 (Dn b V) ((Dh true (Dn b V)->Dn b V)/\(c13->(UD e x b/\ak e x=ak e x)/\(c15->O=O/\(c18*24)<=140737488355328/\c18<=9223372036854775807/\inR .i64 c19/\∃y,nUp e x y/\(L5 e Z0 (c18=Dk (aw e x y)/\L5 x (ak e x) (c19=y/\Ee (aw e x b) c17=aw e x y/\True)))/\Dc (V-y)<Dc (V-b))/\(c15=false->inR .i64 c19/\∃y,nUp e x y/\(L5 e Z0 (O=Dk (aw e x y)/\L5 x (ak e x) (c19=y/\aw e x b=aw e x y/\True)))/\Dc (V-y)<Dc (V-b)))/\(c13=false->True/\(c9->True/\O=O/\(c20*24)<=140737488355328/\c20<=9223372036854775807/\inR .i64 h/\∃y,kUp y/\(L5 e Z0 (c20=Dk (aH e y)/\h=y/\Ee (aw e x b) c10=aH e y/\True))/\Dc (6-y)<Dc (6-x))/\(c9=false->inR .i64 h/\∃y,kUp y/\(L5 e Z0 (O=Dk (aH e y)/\h=y/\aw e x b=aH e y/\True))/\Dc (6-y)<Dc (6-x))))))/\(c6=false->c7=Dk g/\aH e x=g/\True))/\(A=false->(∃x,kUp x/\L5 e Z0 (Dk (aH e x)=0/\aH e x=Dt (Int×Int×Int)/\1=x/\aH e x=Dt (Int×Int×Int)/\True))/\∀(x:Int),let c21:=Ef x 5;let c22:=Dk (aH e x);let G:=Df (ak e x);let c24:=Eh G (bU x);let c25:=[(x,bU x,(2:Int))];let c27:=x+1;kUp x->(c21->jo e/\(∃b,nUp e x b/\L5 e Z0 (c22=Dk (aw e x b)/\L5 x (ak e x) (0=b/\aH e x=aw e x b/\True)))/\∀(b:Int),let c28:=Dz (Dn b G) (Dn b (bU x)) false;let c29:=pg (ak e x) (gu e x) b;let c30:=Dw c29 0;let L:=Dk (aw e x b);let c32:=[(x,b,c29)];let c33:=L+Dk c32;
  let X:=b+1;let c35:=L+(Dk c25);nUp e x b->L4 (Dn b G) ((Dn b G->True)/\L7 (Dn b G) ((Dh true (Dn b G)->Dn b G)/\(c28->(UD e x b/\ak e x=ak e x)/\(c30->L=L/\(c33*24)<=140737488355328/\c33<=9223372036854775807/\inR .i64 X/\∃y,nUp e x y/\(L5 e Z0 (c33=Dk (aw e x y)/\L5 x (ak e x) (X=y/\Ee (aw e x b) c32=aw e x y/\True)))/\Dc (G-y)<Dc (G-b))/\(c30=false->inR .i64 X/\∃y,nUp e x y/\(L5 e Z0 (L=Dk (aw e x y)/\L5 x (ak e x) (X=y/\aw e x b=aw e x y/\True)))/\Dc (G-y)<Dc (G-b)))/\(c28=false->True/\(c24->True/\L=L/\(c35*24)<=140737488355328/\c35<=9223372036854775807/\inR .i64 c27/\∃y,kUp y/\(L5 e Z0 (c35=Dk (aH e y)/\c27=y/\Ee (aw e x b) c25=aH e y/\True))/\Dc (6-y)<Dc (6-x))/\(c24=false->inR .i64 c27/\∃y,kUp y/\(L5 e Z0 (L=Dk (aH e y)/\c27=y/\aw e x b=aH e y/\True))/\Dc (6-y)<Dc (6-x))))))/\(c21=false->c22=Dk g/\aH e x=g/\True)))) aKh λhp=>?_
 have hl:=(Gz.1 hp).1;have hd1:f.length≠i.length->aH (i,f,j,v,r,u) 1=[(1,-1,1)]:=λh=>by
  have e:aH (i,f,j,v,r,u) 1=Ge (i,f,j,v,r,u)++[]:=rfl;rw[e,wB];exact if_neg h
 have hd0:f.length=i.length->aH (i,f,j,v,r,u) 1=[]:=λh=>by
  have e:aH (i,f,j,v,r,u) 1=Ge (i,f,j,v,r,u)++[]:=rfl;rw[e,wB];exact if_pos h
 have fin:∀(x:Int),kUp x->¬x<=5->aH (i,f,j,v,r,u) x=dw (i,f,j,v,r,u):=λx T h=>by
  have:x=6:=by have:=T.2;omega
  subst this;rfl
 refine Z9 ?_;have body:∀(x:Int),kUp x->(x<=5->jo (i,f,j,v,r,u)=true/\(∃z,nUp (i,f,j,v,r,u) x z/\(aH (i,f,j,v,r,u) x).length=(aw (i,f,j,v,r,u) x z).length/\0=z/\aH (i,f,j,v,r,u) x=aw (i,f,j,v,r,u) x z)/\
   ∀(z:Int),nUp (i,f,j,v,r,u) x z->(z<((ak (i,f,j,v,r,u) x).length:Int)/\z<bU x->UD (i,f,j,v,r,u) x z/\
     (pg (ak (i,f,j,v,r,u) x) (gu (i,f,j,v,r,u) x) z≠0->((aw (i,f,j,v,r,u) x z).length+[(x,z,pg (ak (i,f,j,v,r,u) x) (gu (i,f,j,v,r,u) x) z)].length)*24<=140737488355328/\(aw (i,f,j,v,r,u) x z).length+[(x,z,pg (ak (i,f,j,v,r,u) x) (gu (i,f,j,v,r,u) x) z)].length<=9223372036854775807/\
       inR .i64 (z+1)/\∃y,nUp (i,f,j,v,r,u) x y/\((aw (i,f,j,v,r,u) x z).length+[(x,z,pg (ak (i,f,j,v,r,u) x) (gu (i,f,j,v,r,u) x) z)].length=(aw (i,f,j,v,r,u) x y).length/\z+1=y/\aw (i,f,j,v,r,u) x z++[(x,z,pg (ak (i,f,j,v,r,u) x) (gu (i,f,j,v,r,u) x) z)]=aw (i,f,j,v,r,u) x y)/\
        (((ak (i,f,j,v,r,u) x).length:Int)-y).toNat<(((ak (i,f,j,v,r,u) x).length:Int)-z).toNat)/\
     (pg (ak (i,f,j,v,r,u) x) (gu (i,f,j,v,r,u) x) z=0->inR .i64 (z+1)/\∃y,nUp (i,f,j,v,r,u) x y/\((aw (i,f,j,v,r,u) x z).length=(aw (i,f,j,v,r,u) x y).length/\z+1=y/\aw (i,f,j,v,r,u) x z=aw (i,f,j,v,r,u) x y)/\(((ak (i,f,j,v,r,u) x).length:Int)-y).toNat<(((ak (i,f,j,v,r,u) x).length:Int)-z).toNat))/\
    ((z<((ak (i,f,j,v,r,u) x).length:Int)->¬z<bU x)->
     (((ak (i,f,j,v,r,u) x).length:Int)>bU x->((aw (i,f,j,v,r,u) x z).length+[(x,bU x,(2:Int))].length)*24<=140737488355328/\(aw (i,f,j,v,r,u) x z).length+[(x,bU x,(2:Int))].length<=9223372036854775807/\
       inR .i64 (x+1)/\∃y,kUp y/\((aw (i,f,j,v,r,u) x z).length+[(x,bU x,(2:Int))].length=(aH (i,f,j,v,r,u) y).length/\x+1=y/\aw (i,f,j,v,r,u) x z++[(x,bU x,2)]=aH (i,f,j,v,r,u) y)/\(6-y).toNat<(6-x).toNat)/\
     (¬((ak (i,f,j,v,r,u) x).length:Int)>bU x->inR .i64 (x+1)/\∃y,kUp y/\((aw (i,f,j,v,r,u) x z).length=(aH (i,f,j,v,r,u) y).length/\x+1=y/\aw (i,f,j,v,r,u) x z=aH (i,f,j,v,r,u) y)/\(6-y).toNat<(6-x).toNat)))/\
   (¬x<=5->(aH (i,f,j,v,r,u) x).length=(dw (i,f,j,v,r,u)).length/\aH (i,f,j,v,r,u) x=dw (i,f,j,v,r,u)):=by
  intro x T;have hlim:=rh x;refine⟨λhx5=>⟨hl,⟨0,⟨qH _,qI _,Z⟩,by rw[Uk],rfl,(Uk _ _).symm⟩,λz ⟨z0,z1,z2⟩=>⟨λ⟨hz1,hz2⟩=>?_,λhz=>?_⟩⟩,λh=>⟨by rw[fin x T h],fin x T h⟩⟩;have hlen:=oX (n:=(i,f,j,v,r,u)) T.1 T.2 z2;refine⟨⟨hp,T.1,hx5,z0,hz1⟩,λhe=>?_,λhe=>?_⟩;have e:=aFg z0 he;exact⟨by simp only[qL];omega,by simp only[qL];omega,⟨Z,Z⟩,z+1,⟨Z,Z,Z⟩,⟨by rw[e,qF],rfl,e.symm⟩,Z⟩;have e:=aIl z0 he;exact⟨⟨Z,Z⟩,z+1,⟨Z,Z,Z⟩,⟨by rw[e],rfl,e.symm⟩,Z⟩;have hlen:=oX (n:=(i,f,j,v,r,u)) T.1 T.2 z2;have hmin:z=min ((ak (i,f,j,v,r,u) x).length:Int) (bU x):=by
   by_cases g:z<((ak (i,f,j,v,r,u) x).length:Int);have:=hz g;omega;omega
  have hx1:=T.1;refine⟨λh=>?_,λh=>?_⟩;have e:=aCr T.1 hmin h;exact⟨by simp only[qL];omega,by simp only[qL];omega,⟨Z,Z⟩,x+1,⟨Z,Z⟩,⟨by rw[<- e,qF],rfl,e⟩,Z⟩;have e:=aIm T.1 hmin h;exact⟨⟨Z,Z⟩,x+1,⟨Z,Z⟩,⟨by rw[e],rfl,e⟩,Z⟩
 refine⟨λhne=>⟨by decide,by decide,⟨1,⟨by decide,by decide⟩,?_,rfl,?_⟩,body⟩,λhe=>⟨⟨1,⟨by decide,by decide⟩,?_,?_,rfl,?_⟩,body⟩⟩;rw[hd1 Z];rw[hd1 Z];rw[hd0 Z];rfl;rw[hd0 Z];rw[hd0 Z]
def aKg:ai yv G0 K11:=af SH aKh
def Hq:eO 216 nA:=ae λ(((i,e,b,h,f,g):Net),_)=>by
 refine zE (A:=az) (p:=let j:=(i,e,b,h,f,g);let r:=Dk (dw j);(cZ j->cZ j/\r=r/\Eb (Int.ofNat r) 0=noF j/\True)) aKg λj=>?_;refine Z9 ?_;refine⟨j,?_⟩;unfold noF;cases dw (i,e,b,h,f,g)with
 |nil=>rfl|cons a l=>simp;omega
def aKf:ai yv G0 K12:=af Hq aKg
def aFa(a b:Int)(xs:Li):Prop:=0<=a/\a<12/\0<=b/\b<12/\xs.length=144
def lH(xs:Li)(a b len:Int):Li:=fP xs a b len
def ja(k:Int):Li:=(List.range 144).map λi=>if i<k.toNat then(if i/12=i%12 then 0 else -1)else 0
def jN(e:Ll)(k:Int):Li:=(e.take k.toNat).foldl (λb l=>fP b (bn l) (lTo l) (bg l)) MB
def fwD(e:Ll)(o a b:Int):Li:=fwN e (o*144+a*12+b).toNat
def bZ(b:Ll):Li:=cJ b
def noP(n:Net):Prop:=noF n=true
def zy(n:Net):Lj:=if noF n then Zq n.2.2.2.1.length n.2.2.2.2.1 else[]
def tu(m:Nat)(e:Ll)(b:Nat):Bool:=(List.range m).any λa=>decide (cell (cJ e) a b=-1)
def aU(m:Int)(e:Ll)(k:Int):List (Int×Int×Int):=(List.range k.toNat).filterMap λb:Nat=>if tu m.toNat e b then some (3,(b:Int),111)else none
def fa(n:Net):List (Int×Int×Int):=if noF n then aU n.2.2.2.1.length n.2.2.2.2.1 n.2.2.2.1.length else dw n
def xy(m:Int)(e:Ll)(b k:Int):Prop:=0<=k/\k<=m/\(List.range k.toNat).all (λa=>decide (cell (cJ e) a b.toNat≠-1))=true
def cA(m:Int)(b:Ll)(k:Int):Lj:=(List.range k.toNat).map (jR m.toNat b)
def LL(m k:Int):Li:=(List.range m.toNat).map λi=>if i<k.toNat then -1 else 0
def bfD(b:Ll)(m a r i:Int):Li:=(b.take i.toNat).foldl fB (bfN b m.toNat a.toNat r.toNat)
def uX(d:Lj)(b k:Int):Bool:=(List.range k.toNat).any λa=>decide ((d.getD a []).getD b.toNat 0<0)
def aS(n:Net):Bool:=(fa n).isEmpty
abbrev cx:List (Int×List Bool×Li):=[(0,[true,true,true,true,true,false,false],[])]
abbrev nx:List ByteArray:=[⟨#[99]⟩]
abbrev ox:List ByteArray:=[⟨#[112]⟩,⟨#[113]⟩]
def U3(args:List AV)(m:Mem):Option jY:=match args,m with|[.dat (.int .i64) a,.dat (.int .i64) b,.dat (.int .i64) len,.ptr 1 g 0 0],[(1,.buf el (.int .i64) xs [])]=>if g=144/\el=166 then some ⟨aFa a b xs,.tup [],[(1,.buf 166 I (lH xs a b len) [])]⟩else none|_,_=>none
def K13:Kt:=kOr 184 U3 K12
def Yl(b:Ll):Ann:=⟨λe s=>match e with
 |3=>some {α:=Int,inv:=λk=>upN k 12,st:=λk=>dD (put s [(12,.dat I k)]) 1 (.buf 166 I (ja (Ei 12 k)) []),μ:=λk=>Dc (Di 12 k)}|6=>match s.sig.T 12 with
  |.dat (.int .i64) a=>some {α:=Int,inv:=λk=>upN k 12,st:=λk=>dD (put s [(15,.dat I k)]) 1 (.buf 166 I (ja (Dq (Ei 12 a) k)) []),μ:=λk=>Dc (Di 12 k)}|_=>none
 |14=>some {α:=Int,inv:=λk=>upN k (Df b),st:=λk=>dD (put s [(31,.dat I k)]) 1 (.buf 166 I (jN b k) []),μ:=λk=>Dc (Di (Df b) k)}|19=>some {α:=Int,inv:=λk=>upN k 12,st:=λk=>dD (put s [(44,.dat I k)]) 1 (.buf 166 I (fwD b k 0 0) []),μ:=λk=>Dc (Di 12 k)}|22=>match s.sig.T 44 with
  |.dat (.int .i64) o=>some {α:=Int,inv:=λk=>upN k 12,st:=λk=>dD (put s [(47,.dat I k)]) 1 (.buf 166 I (fwD b o k 0) []),μ:=λk=>Dc (Di 12 k)}|_=>none
 |25=>match s.sig.T 44,s.sig.T 47 with
  |.dat (.int .i64) o,.dat (.int .i64) a=>some {α:=Int,inv:=λk=>upN k 12,st:=λk=>dD (put s [(50,.dat I k)]) 1 (.buf 166 I (fwD b o a k) []),μ:=λk=>Dc (Di 12 k)}|_,_=>none
 |_=>none,λ_ _=>none,λ_ _=>none⟩
abbrev tV:=aj [.row N] (λ(n,_)=>noP n) λ(n,_)=>.av I (bZ n.2.2.2.2.1)
def K14:Kt:=kOr 122 tV K13
def aDm(e:Lo)(f:Ll):Ann:=⟨λg s=>match g with
 |6=>some {α:=Int,inv:=λk=>upN k (Df e),st:=λk=>dD (put s [(18,.dat I k),(3,.buf 0 (Dk (aU (Df e) f k)))]) 0 (.buf 169 Fa (aU (Df e) f k) []),μ:=λk=>Dc (Di (Df e) k)}|9=>match s.sig.T 18 with
  |.dat (.int .i64) b=>some {α:=Int,inv:=λk=>xy (Df e) f b k,st:=λk=>put s [(24,.dat I k),(3,.buf 0 (Dk (aU (Df e) f b)))],μ:=λk=>Dc (Di (Df e) k)}|_=>none
 |_=>none,λ_ _=>none,λ_ _=>none⟩
def aFh(b:Lo)(e:Ll):Ann:=⟨λf s=>match f with
 |5=>some {α:=Int,inv:=λk=>upN k (Df b),st:=λk=>dD (put s [(4,.dat I k),(3,.buf 100 (Dk (cA (Df b) e k)))]) 100 (.buf 37 R (cA (Df b) e k) []),μ:=λk=>Dc (Di (Df b) k)}|9=>some {α:=Int,inv:=λk=>upN k (Df b),st:=λk=>dD (put s [(6,.dat I k)]) 0 (.buf 3 I (LL (Df b) k) []),μ:=λk=>Dc (Di (Df b) k)}|14=>match s.sig.T 4 with
  |.dat (.int .i64) a=>some {α:=Int,inv:=λk=>upN k (Df b),st:=λk=>dD (put s [(7,.dat I k)]) 0 (.buf 3 I (bfD e (Df b) a k 0) []),μ:=λk=>Dc (Di (Df b) k)}|_=>none
 |17=>match s.sig.T 4,s.sig.T 7 with
  |.dat (.int .i64) a,.dat (.int .i64) r=>some {α:=Int,inv:=λk=>upN k (Df e),st:=λk=>dD (put s [(8,.dat I k)]) 0 (.buf 3 I (bfD e (Df b) a r k) []),μ:=λk=>Dc (Di (Df e) k)}|_,_=>none
 |_=>none,λf s=>match f with
 |22=>some (put (frz [0] s) [(35,.top)])|_=>none,λ_ _=>none⟩
abbrev DC:=aj [.row N] (λ_=>True) λ(n,_)=>.dat (.sl Fa) (fa n)
abbrev Cj:=aj [.row N] (λ(n,_)=>cZ n=true) λ(n,_)=>.dat M (zy n)
def K15:Kt:=kOr 57 DC <|
 kOr 152 Cj K14
def aCs(e:Lo)(f:Ll)(d:Lj):Ann:=⟨λg s=>match g with
 |6=>some {α:=Int,inv:=λk=>upN k (Df e),st:=λk=>dD (put s [(5,.dat I k),(3,.buf 0 (Dk (aU (Df e) f k)))]) 0 (.buf 169 Fa (aU (Df e) f k) []),μ:=λk=>Dc (Di (Df e) k)}|10=>match s.sig.T 5 with
  |.dat (.int .i64) b=>some {α:=Int,inv:=λk=>upN k (Df e),st:=λk=>put s [(7,.dat I k),(6,.dat .bool (uX d b k))],μ:=λk=>Dc (Di (Df e) k)}|_=>none
 |_=>none,λ_ _=>none,λ_ _=>none⟩
abbrev yo:=aj [.row N] (λ(n,_)=>cZ n=true) λ(n,_)=>.dat (.sl Fa) (fa n)
def K16:Kt:=kOr 108 yo K15
def sx{n:Net}:noF n=true↔dw n=[]:=by unfold noF;rw[zB]
def zh{e b:Int}{l:List ByteArray}{g:List Bool}(x:0<=b)(h:bQ e b l g=[]):(l.length:Int)<=b/\∀i:Int,0<=i->i<l.length->pg l g i=0:=by
 unfold bQ at h;obtain⟨j,f⟩:=qCe.1 h;have u:(l.length:Int)<=b:=by
  unfold Ij at f;split at f;cases f;omega
 refine⟨u,λi r v=>?_⟩;unfold aZ at j;rw[qDg]at j;have:=j i.toNat (qW.2 Z);rw[qY r]at this;split at this;assumption;cases this
def rJ{l:List ByteArray}{g:List Bool}{i:Int}(h:pg l g i=0):b8 l i=0/\rule2 l i=0/\cC g i=0:=by
 unfold pg at h;by_cases e:b8 l i=0;rw[if_neg (by simp[e])]at h;by_cases b:rule2 l i=0;rw[if_neg (by simp[b])]at h;exact⟨e,b,h⟩;rw[if_pos b]at h;exact(b h).elim;rw[if_pos e]at h;exact(e h).elim
def BF{g:List Bool}{i:Int}(h:cC g i=0):g.getD i.toNat false=true:=by
 unfold cC at h;cases b:g.getD i.toNat false with
 |true=>rfl|false=>rw[b]at h;cases h
def ku(b:LC)(f e:LB)(j:Lo)(i:Ll)(g:Lk)(h:noF (b,f,e,j,i,g)=true):f.length=b.length/\bQ 1 6 (aL b f) (bI b)=[]/\bQ 2 6 e (cN e)=[]/\bQ 3 12 (aN j) (fD (b,f,e,j,i,g))=[]/\bQ 4 40 (aO i) (eQ (b,f,e,j,i,g))=[]/\bQ 5 4 (aP g) (bP g)=[]:=by
 have:=sx.1 h;rw[DV]at this;simp only[qCe]at this;obtain⟨r,z,y,x,v,u⟩:=this;refine⟨?_,z,y,x,v,u⟩;unfold Ge at r;split at r;assumption;cases r
def kB{n:Net}{l:Line}(h:dN n l=true):0<=bn l/\bn l<n.2.2.2.1.length/\0<=lTo l/\lTo l<n.2.2.2.1.length/\bn l≠lTo l/\(0<=lAt l/\lAt l<=1439)/\1<=bg l/\bg l<=5000:=by
 unfold dN cY cP at h;simp only[qC,qE]at h;obtain⟨⟨⟨⟨⟨f,e⟩,i⟩,g⟩,b⟩,j⟩:=h;exact⟨f.1,f.2,e.1,e.2,i,g,b.1,b.2⟩
def fV(r:LC)(g f:LB)(e:Lo)(b:Ll)(j:Lk)(h:noF (r,g,f,e,b,j)=true):bW e.length b/\b.length<=40:=by
 obtain⟨_,_,_,z,y,_⟩:=ku r g f e b j h;obtain⟨l3,e3⟩:=zh (by decide) z;obtain⟨X,O⟩:=zh (by decide) y;have V:(aN e).length=e.length:=map_length _ e;have T:(aO b).length=b.length:=map_length _ b;refine⟨⟨Z,λl x=>?_⟩,Z⟩;obtain⟨i,u⟩:=kY.1 x;have v:i<b.length:=(qG.1 u).1;have:=BF (rJ (O i Z Z)).2.2;rw[show(eQ (r,g,f,e,b,j))=b.map (dN (r,g,f,e,b,j))from rfl,iw (dN (r,g,f,e,b,j)) b (i:Int).toNat l false Z,qA,show(i:Int).toNat=i by omega,u]at this;obtain⟨g1,g2,g3,g4,L,_,G,A⟩:=kB this;exact⟨g1,g2,g3,g4,L,G,A⟩
def md(xs:Li)(a b len:Int):(lH xs a b len).length=xs.length:=jr xs a b len
def Qx{xs:Li}{a b len:Int}(h:xs.getD (a.toNat*12+b.toNat) 0=-1\/len<xs.getD (a.toNat*12+b.toNat) 0):xs.set (a.toNat*12+b.toNat) len=lH xs a b len:=by
 unfold lH fP cell;rw[show(decide (xs.getD (a.toNat*12+b.toNat) 0=-1)||decide (len<xs.getD (a.toNat*12+b.toNat) 0))=true by simpa using h];rfl
def Qy{xs:Li}{a b len:Int}(f:xs.getD (a.toNat*12+b.toNat) 0≠-1)(e:¬len<xs.getD (a.toNat*12+b.toNat) 0):xs=lH xs a b len:=by
 unfold lH fP cell;rw[show(decide (xs.getD (a.toNat*12+b.toNat) 0=-1)||decide (len<xs.getD (a.toNat*12+b.toNat) 0))=false by rw[qBt];exact⟨vF f,vF e⟩];rfl
def aA8(a b len:Int)(xs:Li):ah yv G0 184 [.dat I a,.dat I b,.dat I len,.ptr 1 144 0 0] [(1,.buf 166 I xs [])] ⟨aFa a b xs,.tup [],[(1,.buf 166 I (lH xs a b len) [])]⟩:=by
 refine zE (A:=az) (p:=let f:=En 0 12 a;let g:=Ea 12;let h:=lH xs a b len;let j:=En f 1 b;let r:=Du xs j 0;let u:=Eb r (-1);let e:=Dj u;let i:=e->Dk xs=144;let v:=Dz u true (Dn len r);(aFa a b xs->Dk xs<=Dk h/\Dk xs=144/\0<=a/\a<Ea 12/\En 0 12 g<=144/\Dk xs=144/\0<=b/\b<Ea 12/\En f 1 g<=144/\Dk xs=144/\L4 e (i/\(e->0<=a)/\(e->a<Ea 12)/\(e->En 0 12 g<=144)/\L7 e (i/\(e->0<=b)/\(e->b<Ea 12)/\(e->En f 1 g<=144)/\L4 e (i/\L7 e ((Dh true e->e)/\(v->Dk xs=144/\0<=a/\a<Ea 12/\En 0 12 g<=144/\Dk xs=144/\0<=b/\b<Ea 12/\En f 1 g<=144/\Dk xs=144/\Em xs j len=h/\T3 (Dk xs))/\(v=false->xs=h/\T3 (Dk xs)))))))) aKf λ⟨x,v,u,r,j⟩=>?_;have e:=md xs a b len;refine Z9 ?_
 and_intros
 all_goals try (intros;omega)
 .intro h
  and_intros
  all_goals try omega
  exact Qx h
 rintro⟨i,g⟩;exact Qy i g
def U2:∀args m c,U3 args m=some c->ah yv G0 184 args m c:=by
 intro args m c h;unfold U3 at h;split at h;split at h;rename_i e;obtain⟨rfl,rfl⟩:=e;cases h;exact aA8 _ _ _ _;cases h;cases h
def aKe:ai yv G0 K13:=af U2 aKf
def uv(k:Int):(ja k).length=144:=by unfold ja;rw[vG,vC]
def QV:List.replicate 144 0=ja 0:=by
 unfold ja;apply xM;intro i;rw[wY,qX];by_cases h:i<144;rw[if_pos h,vP h];simp;rw[if_neg h,zD (by rw[vC];omega)];rfl
def Va{x y:Int}(v:0<=x)(j:x<12)(u:0<=y)(f:y<12)(r:x≠y):(ja (12*x+y)).set (x.toNat*12+y.toNat) (-1)=ja (12*x+(y+1)):=by
 apply xM;intro i;rw[yK,uv];unfold ja;rw[qX,qX];by_cases h:i<144;rw[vP h];simp only[zY];by_cases e:x.toNat*12+y.toNat=i;subst e;rw[if_pos rfl,if_pos h,if_pos Z,if_neg Z];rw[if_neg e];congr 1;by_cases g:i<(12*x+y).toNat;have b:i<(12*x+(y+1)).toNat:=by omega
 rw[if_pos g,if_pos b];have b:¬i<(12*x+(y+1)).toNat:=by omega
 rw[if_neg g,if_neg b];rw[if_neg Z,zD (by rw[vC];omega)];rfl
def QW{x:Int}(h:0<=x)(b:x<12):ja (12*x+x)=ja (12*x+(x+1)):=by
 unfold ja;apply zK;intro i e;have:=qW.1 e;by_cases g:i<(12*x+x).toNat;have f:i<(12*x+(x+1)).toNat:=by omega
 rw[if_pos g,if_pos f];rw[if_neg g];split;rw[if_pos Z];rfl
def Vb(b:Ll):ja (12*12)=jN b 0:=by
 unfold jN ja MB;rw[show(Int.toNat 0)=0 from rfl,qCq,List.foldl_nil];apply zK;intro i e;rw[if_pos (by have:=qW.1 e;omega)]
def FX(b:Ll)(k:Int):(jN b k).length=144:=rc _
def LZ{b:Ll}{k:Int}(f:0<=k)(e:k<b.length)(d:Line):lH (jN b k) (b.getD k.toNat d).2.1 (b.getD k.toNat d).2.2.1 (b.getD k.toNat d).2.2.2.2.1=jN b (k+1):=by
 unfold jN;rw[show(k+1).toNat=k.toNat+1 by omega,wW,qA,qB (show k.toNat<b.length by omega),qAg];rfl
def QK(b:Ll){k:Int}(h:¬k<b.length):jN b k=fwD b 0 0 0:=by
 unfold jN;rw[qO Z];rfl
def DR(e:Ll)(o a b:Int):(fwD e o a b).length=144:=sH e _
def aC1{b:Ll}{o a:Int}:fwD b o a 12=fwD b o (a+1) 0:=by
 unfold fwD;congr 2;omega
def aC2{b:Ll}{o:Int}:fwD b o 12 0=fwD b (o+1) 0 0:=by
 unfold fwD;congr 2;omega
def O5{e:Ll}{o a b:Int}(g:0<=o)(f:o<12)(r:0<=a)(j:a<12)(i:0<=b)(h:b<12):fwD e o a (b+1)=EP (fwD e o a b) (o.toNat*144+a.toNat*12+b.toNat):=by
 unfold fwD;rw[show(o*144+a*12+(b+1)).toNat=(o.toNat*144+a.toNat*12+b.toNat)+1 by omega,show(o*144+a*12+b).toNat=o.toNat*144+a.toNat*12+b.toNat by omega,Gk]
def aC0{e:Ll}{o a b:Int}(i:0<=o)(h:o<12)(g:0<=a)(v:a<12)(f:0<=b)(u:b<12)
  (r:(fwD e o a b).getD (a.toNat*12+o.toNat) 0≠-1) (j:(fwD e o a b).getD (o.toNat*12+b.toNat) 0≠-1):
  lH (fwD e o a b) a b ((fwD e o a b).getD (a.toNat*12+o.toNat) 0+(fwD e o a b).getD (o.toNat*12+b.toNat) 0)=fwD e o a (b+1):=by
 rw[O5 i h g v f u];unfold EP;rw[show(o.toNat*144+a.toNat*12+b.toNat)/12%12=a.toNat by omega,show(o.toNat*144+a.toNat*12+b.toNat)/144=o.toNat by omega,show(o.toNat*144+a.toNat*12+b.toNat)%12=b.toNat by omega];unfold cell;rw[show((fwD e o a b).getD (a.toNat*12+o.toNat) 0 != -1&&(fwD e o a b).getD (o.toNat*12+b.toNat) 0 != -1)=true by simp only[qC,qDf];exact⟨r,j⟩,qAy];unfold lH;rw[qY g,qY f]
def aFI{e:Ll}{o a b:Int}(i:0<=o)(f:o<12)(v:0<=a)(u:a<12)(r:0<=b)(j:b<12)
  (h:(fwD e o a b).getD (a.toNat*12+o.toNat) 0≠-1->(fwD e o a b).getD (o.toNat*12+b.toNat) 0=-1):fwD e o a b=fwD e o a (b+1):=by
 rw[O5 i f v u r j];unfold EP;rw[show(o.toNat*144+a.toNat*12+b.toNat)/12%12=a.toNat by omega,show(o.toNat*144+a.toNat*12+b.toNat)/144=o.toNat by omega,show(o.toNat*144+a.toNat*12+b.toNat)%12=b.toNat by omega];unfold cell;rw[show((fwD e o a b).getD (a.toNat*12+o.toNat) 0 != -1&&(fwD e o a b).getD (o.toNat*12+b.toNat) 0 != -1)=false by
  rw[Bool.and_eq_false_imp];intro g;rw[qDf]at g;rw[h g];rfl,qAz]
def SI:eO 122 tV:=ae λ(((cs,ns,os,fs,j,ks):Net),_)=>by
 refine zE (A:=(lvA [(3,[1,2,3,4,5,6,8,9,10,11,12,15,29,30,31,44,47,50]),(6,[1,2,3,4,5,6,8,9,10,11,12,15,29,30,31,44,47,50]),(14,[2,3,6,8,9,10,11,29,30,31,44,47,50]),(19,[2,3,6,9,10,11,44,47,50]),(22,[2,3,6,9,10,11,44,47,50]),(25,[2,3,6,9,10,11,44,47,50])] (Yl j))) (p:=let h:=Ea 12;let L:=(cs,ns,os,fs,j,ks);let b:=Gg 144 0;let i:=Df j;(noP L->(∃x,upN x 12/\T4 L 144 0 0 144 0 0 (0=x/\b=b/\b=ja (12*x)/\True))/\∀(x:Int),let c5:=Dn x 12;let A:=12*x;let c7:=ja A;let c8:=x+1;upN x 12->(c5->(∃g,upN g 12/\L3 L 144 0 0 144 0 0 x x (0=g/\b=b/\c7=ja (A+g)/\True))/\∀(g:Int),let c9:=Dn g 12;let V:=g+1;upN g 12->(c9->(Dw x g->Dk (ja (A+g))=144/\0<=x/\x<Ea 12/\En 0 12 h<=144/\Dk (ja (A+g))=144/\0<=g/\g<Ea 12/\En (En 0 12 x) 1 h<=144/\Dk (ja (A+g))=144/\inR .i64 V/\∃y,upN y 12/\(L3 L 144 0 0 144 0 0 x x (V=y/\b=b/\Em (ja (A+g)) (En (En 0 12 x) 1 g) (-1)=ja (A+y)/\True))/\Dc (12-y)<Dc (12-g))/\(Dw x g=false->inR .i64 V/\∃y,upN y 12/\(L3 L 144 0 0 144 0 0 x x (V=y/\b=b/\ja (A+g)=ja (A+y)/\True))/\Dc (12-y)<Dc (12-g)))/\(c9=false->inR .i64 c8/\∃y,upN y 12/\(T4 L 144 0 0 144 0 0 (c8=y/\b=b/\ja (A+g)=ja (12*y)/\True))/\Dc (12-y)<Dc (12-x)))/\(c5=false->(∃xa,upN xa i/\L3 144 0 0 144 0 0 144 0 0 (L5 j i (0=xa/\b=b/\c7=jN j xa/\True)))/\∀(xb:Int),let O:=(Du j (Dc xb) (ByteArray.mk #[],(0:Int),(0:Int),(0:Int),(0:Int),(0:Int))).2;let c15:=lH (jN j xb) O.1 O.2.1 O.2.2.2.1;let c16:=xb+1;
  upN xb i->(Dn xb i->0<=xb/\xb<i/\L3 1 0 1 1 0 1 1 0 1 (L5 1 0 (aFa O.1 O.2.1 (jN j xb)/\Dk (jN j xb)<=Dk c15/\inR .i64 c16/\∃y,upN y i/\(L3 144 0 0 144 0 0 144 0 0 (L5 j i (c16=y/\b=b/\c15=jN j y/\True)))/\Dc (i-y)<Dc (i-xb))))/\(Dn xb i=false->(∃X,upN X 12/\L3 144 0 0 144 0 0 144 0 0 (0=X/\b=b/\jN j xb=fwD j X 0 0/\True))/\∀(e:Int),let c17:=Dn e 12;let G:=fwD j e 0 0;let c19:=e+1;upN e 12->(c17->(∃f,upN f 12/\L3 144 0 0 144 0 0 144 0 0 (L5 e e (0=f/\b=b/\G=fwD j e f 0/\True)))/\∀(f:Int),let c20:=Dn f 12;let c21:=fwD j e f 0;let c23:=f+1;upN f 12->(c20->(∃r,upN r 12/\L3 144 0 0 144 0 0 144 0 0 (Q3 e f e f (0=r/\b=b/\c21=fwD j e f r/\True)))/\∀(r:Int),let c24:=Dn r 12;let z:=fwD j e f r;let v:=Dk z;let c27:=Du z (En (En 0 12 f) 1 e) 0;let u:=Dw c27 (-1);let c12:=u->v=144;let c29:=Du z (En (En 0 12 e) 1 r) 0;let c30:=Dz u (Dw c29 (-1)) false;let c31:=c27+c29;let c32:=lH z f r c31;let T:=r+1;
  upN r 12->(c24->v=144/\0<=f/\f<Ea 12/\En 0 12 h<=144/\v=144/\0<=e/\e<Ea 12/\En (En 0 12 f) 1 h<=144/\v=144/\L4 u (c12/\(u->0<=e)/\(u->e<Ea 12)/\(u->En 0 12 h<=144)/\L7 u (c12/\(u->0<=r)/\(u->r<Ea 12)/\(u->En (En 0 12 e) 1 h<=144)/\L4 u (c12/\L4 u ((Dh true u->u)/\(c30->v=144/\0<=f/\f<Ea 12/\En 0 12 h<=144/\v=144/\0<=e/\e<Ea 12/\En (En 0 12 f) 1 h<=144/\v=144/\v=144/\0<=e/\e<Ea 12/\En 0 12 h<=144/\v=144/\0<=r/\r<Ea 12/\En (En 0 12 e) 1 h<=144/\v=144/\inR .i64 c31/\aFa f r z/\v<=Dk c32/\inR .i64 T/\∃y,upN y 12/\(L3 144 0 0 144 0 0 144 0 0 (Q3 e f e f (T=y/\b=b/\c32=fwD j e f y/\True)))/\Dc (12-y)<Dc (12-r))/\(c30=false->inR .i64 T/\∃y,upN y 12/\(L3 144 0 0 144 0 0 144 0 0 (Q3 e f e f (T=y/\b=b/\z=fwD j e f y/\True)))/\Dc (12-y)<Dc (12-r)))))))/\(c24=false->inR IntKind.i64 c23/\∃y,upN y 12/\(L3 144 0 0 144 0 0 144 0 0 (L5 e e (c23=y/\b=b/\z=fwD j e y 0/\True)))/\Dc (12-y)<Dc (12-f)))/\(c20=false->inR .i64 c19/\∃y,upN y 12/\(L3 144 0 0 144 0 0 144 0 0 (c19=y/\b=b/\c21=fwD j y 0 0/\True))/\Dc (12-y)<Dc (12-e)))/\(c17=false->Dk G=144/\0=0/\Dk G=144/\Dk b=144/\0=0/\Dk b=144/\Dk G=144/\Dk G=144/\0=0/\Dk G=144/\G=bZ j/\True))))) aKe λhp=>?_
 obtain⟨ok,hls⟩:=fV cs ns os fs j ks hp;refine Z9 ?_;have L:upN 0 12:=⟨by decide,by decide⟩;refine⟨⟨0,L,rfl,QV⟩,λx ⟨x0,x1⟩=>⟨λhx=>⟨⟨0,L,rfl,by rw[qDq]⟩,λy ⟨y0,y1⟩=>⟨λhy=>⟨λhne=>?_,λhe=>?_⟩,λhy=>?_⟩⟩,λhx=>?_⟩⟩
 .have:=uv (12*x+y)
  and_intros
  all_goals try omega
  exact⟨y+1,⟨Z,Z⟩,⟨rfl,Va x0 hx y0 hy hne⟩,Z⟩
 subst he;exact⟨⟨Z,Z⟩,x+1,⟨Z,Z⟩,⟨rfl,QW x0 hx⟩,Z⟩;have:y=12:=by omega
 subst this;exact⟨⟨Z,Z⟩,x+1,⟨Z,Z⟩,⟨rfl,by congr 1;omega⟩,Z⟩;have ex:x=12:=Z;subst ex;refine⟨⟨0,⟨qH _,qI _⟩,rfl,Vb j⟩,λk ⟨k0,k1⟩=>⟨λhk=>?_,λhk=>?_⟩⟩;have ho:=ok.at_ _ (getD_mem (l:=j) (i:=k.toNat) (d:=(⟨#[]⟩,0,0,0,0,0)) Z);have hn:=ok.n12;unfold bn lTo at ho;have e1:=FX j k;refine⟨k0,hk,⟨Z,Z,Z,Z,e1⟩,by rw[md]<;>exact qM _,⟨Z,Z⟩,k+1,⟨Z,Z⟩,⟨rfl,LZ k0 hk _⟩,Z⟩;refine⟨⟨0,L,rfl,QK j hk⟩,λo ⟨o0,o1⟩=>⟨λho=>⟨⟨0,L,rfl,rfl⟩,λa ⟨a0,a1⟩=>⟨λha=>⟨⟨0,L,rfl,rfl⟩,λb ⟨b0,b1⟩=>⟨λhb=>?_,λhb=>?_⟩⟩,λha=>?_⟩⟩,λho=>?_⟩⟩
 .have e1:=DR j o a b;have bd1:=Ju ok (k:=(o*144+a*12+b).toNat) Z (a:=a.toNat) (b:=o.toNat) Z Z;have bd2:=Ju ok (k:=(o*144+a*12+b).toNat) Z (a:=o.toNat) (b:=b.toNat) Z Z;have bd1:-1<=(fwD j o a b).getD (a.toNat*12+o.toNat) 0/\(fwD j o a b).getD (a.toNat*12+o.toNat) 0<=20480000:=bd1;have bd2:-1<=(fwD j o a b).getD (o.toNat*12+b.toNat) 0/\(fwD j o a b).getD (o.toNat*12+b.toNat) 0<=20480000:=bd2
  and_intros
  all_goals try (intros;omega)
  .rintro⟨h1,h2⟩;have e2:=md (fwD j o a b) a b ((fwD j o a b).getD (a.toNat*12+o.toNat) 0+(fwD j o a b).getD (o.toNat*12+b.toNat) 0);have e3:=aC0 o0 ho a0 ha b0 hb h1 h2
   and_intros
   all_goals try omega
   exact⟨b+1,⟨Z,Z⟩,⟨rfl,e3⟩,Z⟩
  intro h;exact⟨⟨Z,Z⟩,b+1,⟨Z,Z⟩,⟨rfl,aFI o0 ho a0 ha b0 hb h⟩,Z⟩
 have:b=12:=by omega
 subst this;exact⟨⟨Z,Z⟩,a+1,⟨Z,Z⟩,⟨rfl,aC1⟩,Z⟩;have:a=12:=by omega
 subst this;exact⟨⟨Z,Z⟩,o+1,⟨Z,Z⟩,⟨rfl,aC2⟩,Z⟩
 .have:o=12:=by omega
  subst this;have e1:=DR j 12 0 0;have e2:(Gg 144 (0:Int)).length=144:=wS
  and_intros
  all_goals try omega
  rfl
def aJl:ai yv G0 K14:=af SI aKe
def N6{n:Net}(h:¬(((dw n).length:Nat):Int)>0):noF n=true:=sx.2 (vY Z)
def Ix{n:Net}(h:(((dw n).length:Nat):Int)>0):noF n=false:=by
 cases e:noF n with
 |false=>rfl|true=>rw[sx.1 e]at h;simp at h
def NP:(Gg 144 (0:Int)).length=144:=wS
def H7(b:Ll):(bZ b).length=144:=sH b _
def kq(m:Int)(b:Ll):aU m b 0=[]:=rfl
def xf(m:Int)(b:Ll)(k:Int):(aU m b k).length<=k.toNat:=by
 unfold aU;exact wJ (qDk _ _) (by rw[vC];exact qM _)
def xe{m:Int}{b:Ll}{k:Int}(e:0<=k)(h:tu m.toNat b k.toNat=true):aU m b (k+1)=aU m b k++[(3,k,111)]:=by
 unfold aU;rw[show(k+1).toNat=k.toNat+1 by omega,zS,qBi];simp[qY e,h]
def BK{m:Int}{b:Ll}{k:Int}(h:tu m.toNat b k.toNat=false)(e:0<=k):aU m b (k+1)=aU m b k:=by
 unfold aU;rw[show(k+1).toNat=k.toNat+1 by omega,zS,qBi];simp[h]
def QA{m:Int}{e:Ll}{a b:Int}(g:0<=a)(f:a<m)(h:(bZ e).getD (a.toNat*12+b.toNat) 0=-1):tu m.toNat e b.toNat=true:=
 xI.2 ⟨a.toNat,qW.2 Z,qU h⟩
def LR{m:Int}{e:Ll}{a b:Int}(hm:xy m e b a)(j:a<m)(h:(bZ e).getD (a.toNat*12+b.toNat) 0≠-1):xy m e b (a+1):=by
 obtain⟨i,g,f⟩:=hm;refine⟨Z,Z,?_⟩;rw[show(a+1).toNat=a.toNat+1 by omega,zS,gV,f];simp only[qAc,List.all_nil,kM,zV];exact qU h
def QH{m:Int}{e:Ll}{a b:Int}(hm:xy m e b a)(j:¬a<m):tu m.toNat e b.toNat=false:=by
 obtain⟨i,h,g⟩:=hm;have:a=m:=Z;subst this;unfold tu;rw[qAi];intro x f;have:=qQ.1 g x f;simpa using this
def aBM:eO 57 DC:=ae λ(((cs,T,O,j,e,V):Net),_)=>by
 refine zE (A:=(lvA [(6,[1,2,3,4,5,6,17,18,23,24]),(9,[1,2,3,4,5,6,17,18,23,24])] (aDm j e))) (p:=let g:=(cs,T,O,j,e,V);let u:=dw g;let r:=Dk u;let A:=Eh (Int.ofNat r) 0;let G:=fa g;let b:=Df j;(True->True/\r=r/\(A->r=r/\u=G/\True)/\(A=false->noP g/\Dk (Gg 144 0)=144/\0=0/\Dk (Gg 144 0)=144/\Dk (bZ e)=144/\(∃x,upN x b/\L5 g Z0 (r=Dk (aU b e x)/\Q3 144 0 0 b (0=x/\u=aU b e x/\T3 (bZ e))))/\∀(x:Int),let h:=Dk (aU b e x);let c8:=[((3:Int),x,(111:Int))];let z:=h+Dk c8;let i:=x+1;upN x b->(Dn x b->(∃f,xy b e x f/\L3 g Z0 h 144 0 0 x b x (b=b/\0=f/\T7 (aU b e x) (bZ e)))/\∀(f:Int),let v:=Eb (Du (bZ e) (En (En 0 12 f) 1 x) 0) (-1);let L:=f+1;xy b e x f->(Dn f b->Dk (bZ e)=144/\0<=f/\f<Ea 12/\En 0 12 (Ea 12)<=144/\Dk (bZ e)=144/\0<=x/\x<Ea 12/\En (En 0 12 f) 1 (Ea 12)<=144/\Dk (bZ e)=144/\(v->h=h/\(z*24)<=140737488355328/\z<=9223372036854775807/\inR .i64 i/\∃y,upN y b/\(L5 g Z0 (z=Dk (aU b e y)/\Q3 144 0 0 b (i=y/\Ee (aU b e x) c8=aU b e y/\T3 (bZ e))))/\Dc (b-y)<Dc (b-x))/\(v=false->inR IntKind.i64 L/\∃y,xy b e x y/\(L3 g Z0 h 144 0 0 x b x (b=b/\L=y/\T7 (aU b e x) (bZ e)))/\Dc (b-y)<Dc (b-f)))/\(Dn f b=false->inR .i64 i/\∃y,upN y b/\(L5 g Z0 (h=Dk (aU b e y)/\Q3 144 0 0 b (i=y/\aU b e x=aU b e y/\T3 (bZ e))))/\Dc (b-y)<Dc (b-x)))/\(Dn x b=false->h=h/\aU b e x=G/\True)))) aJl λ_=>?_
 refine Z9 ?_;refine⟨λh=>by unfold fa;rw[Ix h];rfl,λh=>?_⟩;have g:=N6 h;have X:=sx.1 g;obtain⟨ok,hls⟩:=fV cs T O j e V g;have hn:=ok.n12;have e1:=H7 e;refine⟨g,NP,NP,e1,⟨0,⟨qH _,qI _⟩,by rw[X,kq],rfl,by rw[X,kq]⟩,λb ⟨b0,b1⟩=>⟨λhb=>⟨⟨qH _,qI _,by simp⟩,λa L=>⟨λr=>?_,λG=>?_⟩⟩,λhb=>?_⟩⟩
 .have a0:=L.1;have hl:=xf (j.length:Int) e b
  and_intros
  all_goals try (intros;omega)
  intro he;have u:=xe b0 (QA a0 r he);exact⟨by simp only[qL];omega,by simp only[qL];omega,⟨Z,Z⟩,b+1,⟨Z,Z⟩,⟨by rw[u,qF],rfl,u.symm⟩,Z⟩;intro z;exact⟨⟨Z,Z⟩,a+1,LR L r z,rfl,Z⟩
 have u:=BK (QH L G) b0;exact⟨⟨Z,Z⟩,b+1,⟨Z,Z⟩,⟨by rw[u],rfl,u.symm⟩,Z⟩;have:b=j.length:=by omega
 subst this;unfold fa;rw[g];rfl
def aCn{α:Type}(m:Nat)(x:α):List.replicate m x=(List.range m).map λ_=>x:=by
 apply xM;intro i;rw[wY,qX];by_cases h:i<m;rw[if_pos h,vP h];rfl;rw[if_neg h,zD (by rw[vC];omega)];rfl
def TD{α:Type}(f:Nat->α)(m i:Nat)(x:α):((List.range m).map f).set i x=(List.range m).map λj=>if j=i then x else f j:=by
 apply xM;intro j;rw[yK,qX,qX,vG,vC];by_cases h:j<m;rw[vP h];by_cases e:i=j;subst e;rw[if_pos rfl,if_pos h];simp;rw[if_neg e];simp only[zY];rw[if_neg λg:j=i=>e g.symm];rw[zD (by rw[vC];omega)];simp only[Option.map_none];split;rw[if_neg Z];rfl
def mH:∀(e:Ll) (b:Li),(e.foldl fB b).length=b.length|[],_=>rfl|l::e,b=>by rw[kG,mH e,mG]
def oJ(b:Ll)(m a:Nat):∀r,(bfN b m a r).length=m|0=>by show(nN m a).length=m;simp[nN]|r+1=>by rw[vw];unfold G6;rw[mH,oJ b m a r]
def EB(b:Ll)(m:Nat)(a r i:Int):(bfD b m a r i).length=m:=by
 unfold bfD;rw[mH,oJ,qR]
def Wc{m:Nat}{f:Ll}(g:bW m f){e:Li}(i:e.length=m){l:Line}(j:l∈f){K:Int}(h:∀b,at1 e b<=K):∀b,at1 (fB e l) b<=K+5000:=by
 intro b;have o:=g.at_ l j;rw[rW (by rw[i];omega)];have u:=h b;have r:=h (bn l).toNat;split<;>omega
def Ao{m:Nat}{i:Ll}(g:bW m i):∀(f:Ll) (e:Li) (K:Int),(∀l∈f,l∈i)->e.length=m->(∀b,at1 e b<=K)->∀b,at1 (f.foldl fB e) b<=K+5000*f.length
 |[],_,_,_,_,h=>λb=>by have:=h b;simpa using this|l::f,e,K,j,r,h=>λb=>by
  have:=Ao g f (fB e l) (K+5000) (λx u=>j x (by simp[u])) (by rw[mG];exact r) (Wc g r (j l (by simp)) h) b;rw[kG,wO];omega
def aAn{m:Nat}{e:Ll}(g:bW m e)(f:e.length<=40)(a:Nat):∀(r:Nat) b,at1 (bfN e m a r) b<=200000*r
 |0,b=>by
  show at1 (nN m a) b<=_;unfold at1 nN;rw[qA,qX];by_cases h:b<m;rw[vP h];simp only[zY,qK];split<;>omega;rw[zD (by rw[vC];omega)];simp
 |r+1,b=>by
  rw[vw];have:=Ao g e (bfN e m a r) (200000*r) (λ_ h=>h) (oJ e m a r) (aAn g f a r) b;unfold G6;omega
def aGa{m:Nat}{f:Ll}(g:bW m f)(h:f.length<=40){a r i:Int}(u:r<=m):∀b,at1 (bfD f m a r i) b<=3000000:=by
 intro b;have A:=Ao g (f.take i.toNat) (bfN f m a.toNat r.toNat) (200000*r.toNat) (λx j=>qAk j) (oJ f m _ _) (aAn g h _ _) b;have z:(f.take i.toNat).length<=40:=by rw[qP];omega
 have v:=g.n12;have y:r.toNat<=12:=Z;have e:bfD f m a r i=(f.take i.toNat).foldl fB (bfN f m a.toNat r.toNat):=by unfold bfD;rw[qR]
 rw[e];omega
def ZS{m:Nat}{b:Ll}{a r i:Int}(f:0<=i)(e:i<b.length)(d:Line):bfD b m a r (i+1)=fB (bfD b m a r i) (b.getD i.toNat d):=by
 unfold bfD;rw[show(i+1).toNat=i.toNat+1 by omega,wW,qA,qB (show i.toNat<b.length by omega),qAg];rfl
def Wg{m:Nat}{b:Ll}{a r i:Int}(e:0<=r)(f:¬i<b.length):bfD b m a r i=bfD b m a (r+1) 0:=by
 unfold bfD;rw[qO Z,show(r+1).toNat=r.toNat+1 by omega,vw];rfl
def FR(m:Nat)(k:Int):(LL m k).length=m:=by unfold LL;simp
def UH(m:Nat):List.replicate m 0=LL m 0:=by
 rw[aCn];unfold LL;apply zK;intro i _;rw[if_neg Z]
def YJ{m:Nat}{k:Int}(f:0<=k):(LL m k).set k.toNat (-1)=LL m (k+1):=by
 unfold LL;rw[TD];apply zK;intro j _;by_cases e:j=k.toNat;have g:j<(k+1).toNat:=by omega
 rw[if_pos e,if_pos g];rw[if_neg e];by_cases g:j<k.toNat;have b:j<(k+1).toNat:=by omega
 rw[if_pos g,if_pos b];have b:¬j<(k+1).toNat:=by omega
 rw[if_neg g,if_neg b]
def UI(e:Ll){m:Nat}{a b:Int}(g:¬b<m):(LL m b).set a.toNat 0=bfD e m a 0 0:=by
 unfold LL;rw[TD];show _=nN (m:Int).toNat a.toNat;unfold nN;apply zK;intro j f;have:=qW.1 f;rw[if_pos (show j<b.toNat by omega)]
def Rx{b:Li}{l:Line}(f:b.getD l.2.1.toNat 0≥0)(e:b.getD l.2.2.1.toNat 0<0\/b.getD l.2.2.1.toNat 0>b.getD l.2.1.toNat 0+l.2.2.2.2.1):
  b.set l.2.2.1.toNat (b.getD l.2.1.toNat 0+l.2.2.2.2.1)=fB b l:=by
 unfold fB at1 bn lTo bg;rw[show(decide (0<=b.getD l.2.1.toNat 0)&&(decide (b.getD l.2.2.1.toNat 0<0)||decide (b.getD l.2.2.1.toNat 0>b.getD l.2.1.toNat 0+l.2.2.2.2.1)))=true by
  simp only[qC,yH,qE];exact⟨f,e⟩]
 rfl
def Ry{b:Li}{l:Line}(h:b.getD l.2.1.toNat 0≥0->¬b.getD l.2.2.1.toNat 0<0/\¬b.getD l.2.2.1.toNat 0>b.getD l.2.1.toNat 0+l.2.2.2.2.1):b=fB b l:=by
 unfold fB at1 bn lTo bg;rw[show(decide (0<=b.getD l.2.1.toNat 0)&&(decide (b.getD l.2.2.1.toNat 0<0)||decide (b.getD l.2.2.1.toNat 0>b.getD l.2.1.toNat 0+l.2.2.2.2.1)))=false by
  rw[Bool.and_eq_false_imp];intro g;have:=h (vT g);rw[vF this.1,vF this.2];rfl]
 rfl
def Q5(m:Int)(b:Ll)(k:Int):(cA m b k).length=k.toNat:=by unfold cA;simp
def MN{m:Nat}{b:Ll}(f:bW m b){a:Int}(h:0<=a)(g:a<m):cA m b a++[bfD b m a m 0]=cA m b (a+1):=by
 have e:bfD b m a m 0=jR m b a.toNat:=by
  rw[<- ZR f (show a.toNat<m by omega)];rfl
 rw[e];unfold cA;rw[show(a+1).toNat=a.toNat+1 by omega,zS,zZ,qR];rfl
def aBa:eO 152 Cj:=ae λ(((cs,ns,os,O,g,ks):Net),_)=>by
 refine zE (A:=(lvA [(5,[1,2,3,4,5,6,7,8,9]),(9,[1,2,3,4,5,6,7,8,9]),(14,[1,2,3,4,5,6,7,8,9]),(17,[1,2,3,4,5,6,7,8,9])] (aFh O g))) (p:=let i:=(cs,ns,os,O,g,ks);let c2:=Dj (noF i);let c3:=zy i;let b:=Df O;let h:=Dc b;let c6:=Int.ofNat h;let z:=Df g;(cZ i->cZ i/\(c2->c3=Dt (Li)/\True)/\(c2=false->(∃x,upN x b/\L5 i Z0 (Dk (cA b g x)=0/\cA b g x=Dt (Li)/\0=x/\cA b g x=Dt (Li)/\True))/\∀(x:Int),let r:=Dk (cA b g x);let c10:=x+1;upN x b->(Dn x b->0<=b/\(Ea 8*b)<=281474976710656/\b<=9223372036854775807/\(∃f,upN f b/\T2 i Z0 r x h (0=f/\cA b g x=cA b g x/\Et b (0:Int)=LL b f/\True))/\∀(f:Int),let c11:=Dk (LL b f);let c12:=Ea c11;let c13:=f+1;upN f b->c11=h/\(Dn f c6->c11=h/\0<=f/\f<c12/\c11=h/\inR .i64 c13/\∃y,upN y b/\(T2 i Z0 r x h (c13=y/\cA b g x=cA b g x/\Em (LL b f) (Dc f) (-1)=LL b y/\True))/\Dc (b-y)<Dc (b-f))/\(Dn f c6=false->c11=h/\0<=x/\x<c12/\c11=h/\(∃j,upN j b/\T6 i Z0 r x h f (0=j/\cA b g x=cA b g x/\Em (LL b f) (Dc x) 0=bfD g b x j 0/\True))/\∀(j:Int),let A:=bfD g b x j 0;let c15:=j+1;let c16:=[A];let c17:=r+Dk c16;upN j b->Dk A=h/\(Dn j c6->(∃v,upN v z/\T4 i Z0 r x h f j (0=v/\cA b g x=cA b g x/\A=bfD g b x j v/\True))/\∀(v:Int),let X:=bfD g b x j v;let G:=Dk X;let u:=(Du g (Dc v) (ByteArray.mk #[],(0:Int),(0:Int),(0:Int),(0:Int),(0:Int))).2;let V:=Ea G;let c23:=Du X (Dc u.1) 0;let e:=Ed c23 0;let c27:=Dc u.2.1;let c28:=Du X c27 0;let c29:=Dn c28 0;
  let c8:=Dj c29;let c33:=Dh e c8->0=0;let c26:=Dh e c8->G=h;let T:=Dh e c8->1=1;let L:=Dh e c8;let c30:=c23+u.2.2.2.1;let c31:=Dz e (Dz c29 true (Eh c28 c30)) false;let c32:=v+1;
  upN v z->(Dn v z->0<=v/\v<z/\T2 1 0 1 1 0 (G=h/\0<=u.1/\u.1<V/\G=h/\(e->1=1)/\L4 e ((e->1=1)/\(e->0=0)/\L7 e ((e->G=h)/\(e->0<=u.2.1)/\(e->u.2.1<V)/\L4 e ((e->G=h)/\L7 e (T/\L4 L (T/\c33/\L7 L (c26/\(Dh e c8->0<=u.2.1)/\(Dh e c8->u.2.1<V)/\L4 L (c26/\T/\L4 L (T/\c33/\L7 L (c26/\(Dh e c8->0<=u.1)/\(Dh e c8->u.1<V)/\L4 L (c26/\T/\L4 L (T/\c33/\L7 L ((Dh e c8->inR .i64 c30)/\L7 L (L4 e ((e->Dh e c8->Dh e c8)/\(Dh true e->e)/\(c31->T6 1 1 0 1 1 0 (G=h/\0<=u.1/\u.1<V/\G=h/\Q2 1 1 0 (inR .i64 c30/\G=h/\0<=u.2.1/\u.2.1<V/\G=h/\inR .i64 c32/\∃y,upN y z/\(T4 i Z0 r x h f j (c32=y/\cA b g x=cA b g x/\Em X c27 c30=bfD g b x j y/\True))/\Dc (z-y)<Dc (z-v))))/\(c31=false->inR .i64 c32/\∃y,upN y z/\(T4 i Z0 r x h f j (c32=y/\cA b g x=cA b g x/\X=bfD g b x j y/\True))/\Dc (z-y)<Dc (z-v))))))))))))))))))/\(Dn v z=false->inR .i64 c15/\∃y,upN y b/\(T6 i Z0 r x h f (c15=y/\cA b g x=cA b g x/\X=bfD g b x y 0/\True))/\Dc (b-y)<Dc (b-j)))/\(Dn j c6=false->Q3 i Z0 r x (Dk A=h/\Q3 A f j j (Dk A=h/\T2 A c6 (Dn j c6) (cA b g x) r ((c17*24)<=140737488355328/\c17<=9223372036854775807/\inR .i64 c10/\∃y,upN y b/\(L5 i Z0 (c17=Dk (cA b g y)/\c10=y/\Ee (cA b g x) c16=cA b g y/\True))/\Dc (b-y)<Dc (b-x)))))))/\
  (Dn x b=false->r=r/\cA b g x=c3/\True)))) aJl λhp=>?_
 have z:upN 0 (O.length:Int):=⟨qH _,qI _⟩;have zl:upN 0 (g.length:Int):=⟨qH _,qI _⟩;refine Z9 ?_;refine⟨hp,λh=>by unfold zy;rw[h];rfl,λhno=>⟨⟨0,z,rfl,rfl,rfl,rfl⟩,λa ⟨a0,a1⟩=>⟨λhlt=>?_,λhge=>?_⟩⟩⟩
 .obtain⟨ok,hls⟩:=fV cs ns os O g ks hno;have hn:=ok.n12;refine⟨Z,Z,Z,⟨0,z,rfl,UH _⟩,λb ⟨b0,b1⟩=>⟨FR _ _,λhb=>?_,λhb=>?_⟩⟩
  .have e1:=FR O.length b
   and_intros
   all_goals try (intros;omega)
   exact⟨b+1,⟨Z,Z⟩,⟨rfl,YJ b0⟩,Z⟩
  have e1:=FR O.length b;have e2:=UI g (a:=a) hb
  and_intros
  all_goals try (intros;omega)
  exact⟨0,z,rfl,e2⟩;intro r ⟨r0,r1⟩;have e3:=EB g O.length a r 0;refine⟨e3,λhr=>⟨⟨0,zl,rfl,rfl⟩,λi ⟨i0,i1⟩=>⟨λhi=>?_,λhi=>⟨⟨Z,Z⟩,r+1,⟨Z,Z⟩,⟨rfl,Wg r0 hi⟩,Z⟩⟩⟩,λhr=>?_⟩
  .have e4:=EB g O.length a r i;have bd:=aGa ok hls (a:=a) (i:=i) r1;have o:=ok.at_ _ (getD_mem (l:=g) (i:=i.toNat) (d:=(⟨#[]⟩,0,0,0,0,0)) Z);have nx:=ZS (m:=O.length) (a:=a) (r:=r) i0 hi (⟨#[]⟩,0,0,0,0,0);generalize g.getD i.toNat (⟨#[]⟩,0,0,0,0,0)=l at *;generalize bfD g (O.length:Int) a r i=row at *;have b1':row.getD l.2.1.toNat 0<=3000000:=bd l.2.1.toNat;unfold bn lTo bg at o
   and_intros
   all_goals try (intros;omega)
   rintro⟨h1,h2⟩;exact⟨Z,Z⟩
   .rintro⟨h1,h2⟩
    and_intros
    all_goals try omega
    exact⟨i+1,⟨Z,Z⟩,⟨rfl,by rw[nx];exact Rx h1 h2⟩,Z⟩
   intro h;exact⟨⟨Z,Z⟩,i+1,⟨Z,Z⟩,⟨rfl,by rw[nx];exact Ry h⟩,Z⟩
  .have:r=O.length:=by omega
   subst this;have e5:=Q5 (O.length:Int) g a;have e6:=MN ok a0 hlt;simp only[qL]
   and_intros
   all_goals try (intros;omega)
   exact⟨a+1,⟨Z,Z⟩,⟨by rw[<- e6,qF];rfl,rfl,e6⟩,Z⟩
 have:a=O.length:=by omega
 subst this;unfold zy cA Zq;rw[if_pos hno,qR]
def aKd:ai yv G0 K15:=
 af aBM<|af aBa aJl
def VD(j:LC)(f e:LB)(b:Lo)(g:Ll)(i:Lk)(h:noF (j,f,e,b,g,i)=true):(zy (j,f,e,b,g,i)).length=b.length:=by unfold zy Zq;rw[if_pos h];simp
def JE(j:LC)(g f:LB)(b:Lo)(e:Ll)(i:Lk)(h:noF (j,g,f,b,e,i)=true){a:Nat}(r:a<b.length):(zy (j,g,f,b,e,i)).getD a []=jR b.length e a:=by
 unfold zy Zq;rw[if_pos h];show((List.range b.length).map λa=>jR b.length e a).getD a []=_;rw[qA,qX,vP r];rfl
def Q6{m:Nat}{e:Ll}{a b:Nat}(f:b<m):(jR m e a).getD b 0=cell (cJ e) a b:=by
 unfold jR;rw[qA,qX,vP f,zY,qK]
def MO(m:Nat)(b:Ll)(a:Nat):(jR m b a).length=m:=by unfold jR;simp
def Q9{d:Lj}{b k:Int}(e:0<=k):(uX d b k||decide ((d.getD k.toNat []).getD b.toNat 0<0))=uX d b (k+1):=by
 unfold uX;rw[show(k+1).toNat=k.toNat+1 by omega,zS,qBw];simp
def any_congr{α:Type}{p q:α->Bool}:∀{l:List α},(∀x∈l,p x=q x)->l.any p=l.any q|[],_=>rfl|a::l,h=>by rw[qCw,qCw,h a (by simp),any_congr λx b=>h x (by simp[b])]
def VL(r:LC)(i g:LB)(e:Lo)(f:Ll)(j:Lk)(h:noF (r,i,g,e,f,j)=true){b:Int}(z:0<=b)(y:b<e.length):uX (zy (r,i,g,e,f,j)) b e.length=tu e.length f b.toNat:=by
 obtain⟨v,_⟩:=fV r i g e f j h;have x:=v.n12;unfold uX tu;rw[qR];apply any_congr;intro a u;have u:=qW.1 u;rw[JE r i g e f j h u,Q6 Z];have:=(qp v (a:=a) Z).low b.toNat Z;congr 1;exact propext Z
def Xv:eO 108 yo:=ae λ(((G,u,r,g,f,v):Net),_)=>by
 refine zE (A:=(lvA [(6,[2,3,4,5,6,7]),(10,[2,3,4,5,6,7])] (aCs g f (zy (G,u,r,g,f,v))))) (p:=let A:=(G,u,r,g,f,v);let X:=dw A;let L:=Dk X;let c4:=Eh (Int.ofNat L) 0;let c5:=fa A;let b:=Df g;let h:=zy A;let O:=Df h;(cZ A->cZ A/\L=L/\(c4->L=L/\X=c5/\True)/\(c4=false->cZ A/\(∃x,upN x b/\Value.slice none 0 0=Value.slice none 0 0/\L=Dk (aU b f x)/\h=h/\0=x/\X=aU b f x/\True)/\∀(x:Int),let z:=Dk (aU b f x);let T:=[((3:Int),x,(111:Int))];let j:=z+Dk T;let V:=x+1;upN x b->(Dn x O->(∃e,upN e b/\Q3 Z0 z h x (false=uX h x e/\0=e/\T3 (aU b f x)))/\∀(e:Int),let i:=Dj (uX h x e);let c14:=Du h (Dc e) [];let c15:=e+1;upN e b->(Dn e O->L7 i ((i->0<=e)/\(i->e<O)/\Q4 i ((i->0<=x)/\(i->x<Df c14)/\L7 i ((Dh true i->i)/\inR .i64 c15/\∃y,upN y b/\(Q3 Z0 z h x (Dz (uX h x e) true (Dn (Du c14 (Dc x) 0) 0)=uX h x y/\c15=y/\T3 (aU b f x)))/\Dc (b-y)<Dc (b-e)))))/\(Dn e O=false->(uX h x e->z=z/\(j*24)<=140737488355328/\j<=9223372036854775807/\inR .i64 V/\∃y,upN y b/\(Value.slice none 0 0=Value.slice none 0 0/\j=Dk (aU b f y)/\h=h/\V=y/\Ee (aU b f x) T=aU b f y/\True)/\Dc (b-y)<Dc (b-x))/\(uX h x e=false->inR .i64 V/\∃y,upN y b/\(Value.slice none 0 0=Value.slice none 0 0/\z=Dk (aU b f y)/\h=h/\V=y/\aU b f x=aU b f y/\True)/\Dc (b-y)<Dc (b-x))))/\(Dn x O=false->z=z/\aU b f x=c5/\True)))) aKd λhp=>?_
 have z:upN 0 (g.length:Int):=⟨qH _,qI _⟩;refine Z9 ?_;refine⟨hp,λh=>by unfold fa;rw[Ix h];rfl,λh=>?_⟩;have i:=N6 h;have hf:=sx.1 i;obtain⟨ok,hls⟩:=fV G u r g f v i;have hn:=ok.n12;have hd:=VD G u r g f v i;refine⟨hp,⟨0,z,by rw[hf,kq],rfl,by rw[hf,kq]⟩,λb ⟨b0,b1⟩=>⟨λhb=>⟨⟨0,z,rfl,rfl⟩,λa ⟨a0,a1⟩=>⟨λha=>?_,λha=>?_⟩⟩,λhb=>?_⟩⟩
 .have hr:=JE G u r g f v i (a:=a.toNat) Z;have V:=MO g.length f a.toNat;rw[<- hr]at V
  and_intros
  all_goals try (intros;omega)
  exact⟨a+1,⟨Z,Z⟩,⟨Q9 a0,rfl⟩,Z⟩
 have:a=g.length:=by omega
 subst this;have hl:=xf (g.length:Int) f b;rw[VL G u r g f v i b0 Z];refine⟨λX=>?_,λX=>?_⟩;have L:=xe (m:=g.length) b0 (by rw[qR];exact X);exact⟨by simp only[qL];omega,by simp only[qL];omega,⟨Z,Z⟩,b+1,⟨Z,Z⟩,⟨by rw[L,qF],rfl,L.symm⟩,Z⟩;have L:=BK (m:=g.length) (by rw[qR];exact X) b0;exact⟨⟨Z,Z⟩,b+1,⟨Z,Z⟩,⟨by rw[L],rfl,L.symm⟩,Z⟩;have:b=g.length:=by omega
 subst this;unfold fa;rw[i];rfl
def aKX:ai yv G0 K16:=af Xv aKd
def sI{l:List ByteArray}:(∀i:Int,0<=i->i<l.length->rule2 l i=0)↔l.Pairwise (λa b=>a.toList≠b.toList):=by
 have g:∀i:Nat,∀h:i<l.length,rule2 l (i:Int)=0↔∀j,∀f:j<i,(l[j]'Z).toList≠l[i].toList:=by
  intro i v;unfold rule2 lr;rw[qR,qA,qB v,qK];constructor;intro h j f e;split at h;cases h;rename_i r;refine r (xI.2 ⟨l[j]'Z,wX.2 ⟨j,by rw[qP];omega,by rw[qDc]⟩,?_⟩);rw[e];exact xE _;intro h;rw[if_neg];intro r;obtain⟨w,z,x⟩:=xI.1 r;obtain⟨j,f,rfl⟩:=wX.1 z;rw[qP]at f;rw[qDc]at x;exact h j Z (kN.1 x)
 rw[List.pairwise_iff_getElem];constructor;intro h i j v f u;exact(g j f).1 (h j Z Z) i u;intro h i y A;have:=(g i.toNat Z).2 λj f=>h j i.toNat Z Z f;rwa [qY y]at this
def vj{r e:Int}{l:List ByteArray}{g:List Bool}(T:0<=e):bQ r e l g=[]↔(l.length:Int)<=e/\(∀x∈l,bV x=true)/\l.Pairwise (λa b=>a.toList≠b.toList)/\∀i,i<l.length->g.getD i false=true:=by
 have v:∀i:Nat,∀h:i<l.length,lr l (i:Int)=l[i]:=λi j=>by
  unfold lr;rw[qR,qA,qB j,qK]
 constructor;intro h;obtain⟨y,u⟩:=zh T h;refine⟨y,λx G=>?_,sI.1 λi A z=>(rJ (u i A z)).2.1,λi j=>?_⟩;obtain⟨i,j,rfl⟩:=wX.1 G;have:=(rJ (u i Z Z)).1;unfold b8 at this;rw[v i j]at this;split at this;assumption;cases this;have:=BF (rJ (u i Z Z)).2.2;rwa [qR]at this;rintro⟨y,u,O,L⟩;unfold bQ aZ Ij;rw[if_neg Z,wB,qDg];intro i j;have j:=qW.1 j;have f:i<l.length:=Z;have e1:b8 l (i:Int)=0:=by unfold b8;rw[v i f,if_pos (u _ (wL f))]
 have X:=sI.2 O (i:Int) Z Z;have V:cC g (i:Int)=0:=by unfold cC;rw[qR,if_pos (L i f)]
 have:pg l g (i:Int)=0:=by unfold pg;rw[e1,X,V];rfl
 rw[if_pos this]
def mq{α:Type}{g f:Int}(L:0<=f)(r:α->ByteArray)(e:α->Bool)(xs:List α):bQ g f (xs.map r) (xs.map e)=[] ↔
  (xs.length:Int)<=f/\(∀x∈xs,bV (r x)=true)/\xs.Pairwise (λa b=>(r a).toList≠(r b).toList)/\∀x∈xs,e x=true:=by
 rw[vj L,vG,qAf];constructor;rintro⟨A,z,v,u⟩;refine⟨A,λx h=>z _ (List.mem_map_of_mem h),v,λx h=>?_⟩;obtain⟨i,j,rfl⟩:=wX.1 h;have:=u i j;rwa [qA,qX,qB j,zY,qK]at this;rintro⟨A,z,v,u⟩;refine⟨A,λx h=>?_,v,λi j=>?_⟩;obtain⟨y,G,rfl⟩:=vK.1 h;exact z y G;rw[qA,qX,qB j,zY,qK];exact u _ (wL j)
def nh(r:LC)(g f:LB)(j:Lo)(e:Ll)(i:Lk)(h:noF (r,g,f,j,e,i)=true):(e.length:Int)<=40/\(∀x∈e,bV x.1=true)/\e.Pairwise (λa b=>a.1.toList≠b.1.toList)/\∀x∈e,dN (r,g,f,j,e,i) x=true:=
 (mq (by decide) (λl:Line=>l.1) (dN (r,g,f,j,e,i)) e).1 (ku r g f j e i h).2.2.2.2.1
def Walk.map{f e:Ll}(h:∀l∈f,∃r∈e,bn r=bn l/\lTo r=lTo l/\bg r<=bg l){a b:Nat}{n:Int}(w:Walk f a b n):∃m,m<=n/\Walk e a b m:=by
 induction w with
 |nil=>exact⟨0,qH _,.nil _⟩|snoc l u _ i=>
  obtain⟨m,hm,g⟩:=i;obtain⟨r,j,x,v,y⟩:=h l u;rw[<- x]at g;exact⟨m+bg r,Z,v▸.snoc r j g⟩
def Walk.ends{f e:Ll}(h:∀l∈f,∃r∈e,bn r=bn l/\lTo r=lTo l){a b:Nat}{n:Int}(w:Walk f a b n):∃m,Walk e a b m:=by
 induction w with
 |nil=>exact⟨0,.nil _⟩|snoc l u _ i=>
  obtain⟨m,g⟩:=i;obtain⟨r,j,x,v⟩:=h l u;rw[<- x]at g;exact⟨m+bg r,v▸.snoc r j g⟩
noncomputable def K18:Kt:=K16
abbrev B7:=aj [.row N] (λ(n,_)=>cZ n=true) λ(n,_)=>.dat .bool (aS n)
noncomputable def K19:Kt:=kOr 49 B7 K18
def aGr:ai yv G0 K18:=aKX
def aE{x:Int}(h:-1000000000<=x/\x<=1000000000):inR .i64 x:=by unfold inR;simp only;omega
def eJ(r:LC)(g f:LB)(e:Lo)(i:Ll)(j:Lk)(h:noF (r,g,f,e,i,j)=true):(e.length:Int)<=12/\(∀x∈e,bV x.1=true)/\e.Pairwise (λa b=>a.1.toList≠b.1.toList)/\∀x∈e,dt (r,g,f,e,i,j) x=true:=
 (mq (by decide) (λl:Off=>l.1) (dt (r,g,f,e,i,j)) e).1 (ku r g f e i j h).2.2.2.1
def aAX:eO 49 B7:=ae λ(((i,e,b,h,f,g):Net),_)=>by
 refine zF (c:=mkc K18) (A:=az) aGr gC hm (p:=let j:=(i,e,b,h,f,g);true/\(cZ j->cZ j/\Eb (Df (fa j)) 0=aS j/\True)) ⟨rfl,λj=>?_⟩;refine Z9 ?_;refine⟨j,?_⟩;unfold aS;cases fa (i,e,b,h,f,g)with
 |nil=>rfl|cons a l=>
  show decide _=false;rw[wE];show ¬((((a::l).length:Nat):Int)=0);rw[wO];omega
def aJk:ai yv G0 K19:=af aAX aGr
def D8(r:LC)(i f:LB)(b:Lo)(e:Ll)(j:Lk):fa (r,i,f,b,e,j)=[]↔noF (r,i,f,b,e,j)=true/\aU b.length e b.length=[]:=by
 unfold fa;cases h:noF (r,i,f,b,e,j)with
 |true=>exact⟨λg=>⟨rfl,g⟩,λg=>g.2⟩|false=>
  constructor;intro g;have:noF (r,i,f,b,e,j)=true:=sx.2 g;rw[h]at this;cases this;intro g;cases g.1
def Ky(a b:Int):Int:=a%b
def bG(d:Int):Bool:=decide (-1000000<=d/\d<=1000000)
def uR(d:Int):Prop:=-1000000000000<=d/\d<=1000000000000
def QC(b:Int):Prop:=0<b/\b<=1000000
def dK(z:Int)(w:List Bool)(h:Li)(t:Int):Prop:=aA z w h=true/\-2000000000<=t/\t<=2000000000
def jk(z:Int)(w:List Bool)(h:Li)(d m:Int):Prop:=aA z w h=true/\bG d=true/\0<=m/\m<1440
def bE(z t:Int):Int:=(t+z)/1440
def ID(z t:Int):Int:=(t+z)%1440
def dE(z d m:Int):Int:=d*1440+m-z
abbrev OY:=aj [.val I,.val I] (λ(a,b,_)=>uR a/\QC b) λ(a,b,_)=>.dat I (Ky a b)
abbrev um:=aj [.val I] (λ_=>True) λ(a,_)=>.dat .bool (bG a)
def KT1:Kt:=kOr 211 OY <|
 kOr 212 um K19
abbrev DJ:=aj [.row C,.val I] (λ(c,t,_)=>dK c.1 c.2.1 c.2.2 t) λ(c,t,_)=>.tup [.dat I (bE c.1 t),.dat I (ID c.1 t)]
abbrev Jd:=aj [.row C,.val I,.val I] (λ(c,d,m,_)=>jk c.1 c.2.1 c.2.2 d m) λ(c,d,m,_)=>.dat I (dE c.1 d m)
def KT2:Kt:=kOr 149 DJ <|
 kOr 210 Jd KT1
def aId:eO 211 OY:=ae λ((a:Int),(b:Int),_)=>by
 refine zE (A:=az) (p:=let e:=Dn (Fp a b) 0;let f:=Fp a b+b;(uR a/\QC b->b≠0/\(e->inR .i64 f/\f=Ky a b/\True)/\(e=false->Fp a b=Ky a b/\True))) aJk λ⟨⟨x,v⟩,g,u⟩=>?_;have e:=gZ (a:=a) (b:=b);have z:=kH a (show b≠0 by omega);have y:=xB a g;have j:(b.natAbs:Int)=b:=Int.natAbs_of_nonneg Z;simp only[Es,Dn,Fp,Dq,Ky,inR,qE,wE];by_cases f:0<=a\/b ∣ a;rw[if_pos f]at e;refine⟨Z,λh=>Z,λh=>⟨Z,trivial⟩⟩;rw[if_neg f,j]at e;have r:a%b≠0:=λi=>f (.inr (qDs i));refine⟨Z,λh=>⟨Z,Z,trivial⟩,λh=>Z⟩
def TM:eO 212 um:=ae λ((a:Int),_)=>by
 refine zE (A:=az) (p:=let b:=Ed a (-1000000);(True->L4 b ((Dh true b->b)/\Dz b (Ef a 1000000) false=bG a/\True))) aJk λ_=>⟨λh _=>h,λh=>by simpa[Dh]using h,?_,trivial⟩;rw[jS];simp[bG,Ed,Ef]
def aI5:ai yv G0 KT1:=af aId<|af TM aJk
def aCb:eO 149 DJ:=ae λ(((z:Int),(w:List Bool),(h:Li)),(t:Int),_)=>by
 refine zE (A:=az) (p:=let g:=Dj (aA z w h);let b:=Dj g;let i:=Dz g true (Dn t (-2000000000));let f:=Dj i;let j:=Dz i true (Eh t 2000000000);let r:=Ky (t+z) 1440;let u:=(t+z)-r;let e:=Gf u 1440;(dK z w h t->True/\L4 b ((Dh true b->b)/\L4 f ((Dh true f->f)/\(j->0=bE z t/\0=ID z t/\True)/\(j=false->inR .i64 (t+z)/\(uR (t+z)/\QC 1440)/\inR .i64 u/\Es 1440 0/\inR .i64 e/\e=bE z t/\r=ID z t/\True))))) aI5 λ⟨b,y,x⟩=>?_;obtain⟨⟨v,u,r,j⟩,_⟩:=bD.1 b;have i:¬t < -2000000000:=Z;have g:¬t>2000000000:=Z;simp only[L4,b,i,g,uE,jS,Dh,Dj,zV,qBf,yD,vW,qAn,kL,yL,kV,yX,Dn,Eh,gK,yC,wG,gG,kM,qAw,qAx,qBk,qAv,gJ,Es,Di,Dq,Gf,inR,Ky,bE,ID,uR,QC];have L:=kH (t+z) (show(1440:Int)≠0 by omega);have G:=xB (t+z) (show(0:Int)<1440 by omega);have f:t+z-(t+z)%1440=1440*((t+z)/1440):=Z;rw[f,qDp _ Z];omega
def aER:eO 210 Jd:=ae λ(((z:Int),(w:List Bool),(h:Li)),(d:Int),(m:Int),_)=>by
 refine zE (A:=az) (p:=let j:=Dj (aA z w h);let e:=Dj j;let r:=Dz j true (Dj (bG d));let g:=Dj r;let u:=Dz r true (Dn m 0);let i:=Dj u;let v:=Dz u true (Ed m 1440);let f:=d*1440;let x:=f+m;let b:=x-z;(jk z w h d m->True/\L4 e ((e->True)/\L4 e ((Dh true e->e)/\L4 g ((Dh true g->g)/\L4 i ((Dh true i->i)/\(v->0=dE z d m/\True)/\(v=false->inR .i64 f/\inR .i64 x/\inR .i64 b/\b=dE z d m/\True))))))) aI5 λ⟨e,hd,y,x⟩=>?_;obtain⟨⟨v,u,r,j⟩,_⟩:=bD.1 e;have i:¬m<0:=Z;have g:¬m≥1440:=Z;simp only[L4,e,hd,i,g,uE,jS,Dh,Dj,zV,qBf,yD,vW,qAn,kL,yL,kV,yX,Dn,Ed,gK,yC,wG,gG,kM,qAw,qAx,qBk,qAv,gJ,Di,Dq,Ei,inR,dE];unfold bG at hd;have:=vT hd;omega
def aI2:ai yv G0 KT2:=af aCb<|af aER aI5
def KE(h:Li)(d i:Int):Bool:=decide (h.getD i.toNat 0≥d)
def Y9(h:Li)(i:Int):Prop:=0<=i/\i<h.length
def lk(g:Int->Bool)(n:Int):Int:=(((List.range n.toNat).filter λ(i:Nat)=>!g (i:Int)).length:Int)
def mY(g:Int->Bool)(b:Int->Prop)(n:Int):Prop:=0<=n/\n<=1000000/\(∀i,0<=i->i<n->b i)/\∀i j,0<=i->i<=j->j<n->g i=true->g j=true
def nT(g:Int->Bool)(n i j:Int):Prop:=0<=i/\i<=j/\j<=n/\(0<i->g (i-1)=false)/\(j<n->g j=true)
def atS(h:Li)(d:Int):Int:=lk (KE h d) h.length
def aX(w:List Bool)(h:Li)(d:Int):Bool:=w.getD (d%7).toNat false&&!h.contains d
def p1(x:Int×Int):Int:=x.1
def p2(x:Int×Int):Int:=x.2
def G1(w:List Bool)(h:Li):Prop:=w.length=7/\h.length<=40/\∀i:Nat,i+1<h.length->h.getD i 0<h.getD (i+1) 0
def aB2(g:Int->Bool)(n:Int):Ann:=Z8 2 (Int×Int) (λx=>nT g n (p1 x) (p2 x)) (λs x=>put s [(5,.dat I (p1 x)),(6,.dat I (p2 x))]) λx=>Dc (Di (p2 x) (p1 x))
def KT3:Kt:=λf args m=>match f,args,m with|285,[.dat (.int .i64) i,.ip (.pair (.int .i64) (.pair (.sl .bool) (.sl (.int .i64)))) c,.ip (.int .i64) d],[]=>some ⟨Y9 c.2.2 i,.dat .bool (KE c.2.2 d i),[]⟩|284,[.dat (.int .i64) n,.fn 285 [.ip (.pair (.int .i64) (.pair (.sl .bool) (.sl (.int .i64)))) c,.ip (.int .i64) d]],[]=>some ⟨mY (KE c.2.2 d) (Y9 c.2.2) n,.dat I (lk (KE c.2.2 d) n),[]⟩|_,_,_=>KT2 f args m
def aHf:Ann:=⟨λ_ _=>none,λb s=>match b with
 |3=>some (frz (allNames s) s)|_=>none,λ_ _=>none⟩
def KT4:Kt:=λf args m=>match f,args,m with|283,[.dat (.int .i64) d,.ia .bool w,.ip (.pair (.int .i64) (.pair (.sl .bool) (.sl (.int .i64)))) c],[]=>some ⟨G1 w c.2.2/\uR d,.dat .bool (aX w c.2.2 d),[]⟩|264,[.agg [.dat (.int .i64) z,.dat (.sl .bool) w,.dat (.sl (.int .i64)) h]],[]=>some ⟨Dk w=7,.fn 283 [.ia .bool w,.ip C (z,w,h)],[]⟩|_,_,_=>KT3 f args m
def aAb{h:Li}(b:∀i:Nat,i+1<h.length->h.getD i 0<h.getD (i+1) 0):∀(k i:Nat),i+k+1<h.length->h.getD i 0<h.getD (i+k+1) 0
 |0,i,f=>b i f|k+1,i,f=>by
  have j:=aAb b k i Z;have g:=b (i+k+1) Z;have e:i+(k+1)+1=i+k+1+1:=Z;rw[e];omega
def MD{h:Li}(e:∀i:Nat,i+1<h.length->h.getD i 0<h.getD (i+1) 0){i j:Nat}(b:i<j)(f:j<h.length):h.getD i 0<h.getD j 0:=by
 have:=aAb e (j-i-1) i Z;rwa [show i+(j-i-1)+1=j by omega]at this
def pL{g:Int->Bool}{i:Nat}:∀N:Nat,(∀x:Nat,x<N->g (x:Int)=decide (i<=x))->((List.range N).filter λ(x:Nat)=>!g (x:Int)).length=min i N
 |0,_=>by simp|N+1,h=>by
  rw[zS,yO,qF,pL N λx f=>h x Z];by_cases b:i<=N;have e:g (N:Int)=true:=by rw[h N Z];simpa using b
  simp only[yR,e,yL,gQ,wG,xW,xR];omega;have e:g (N:Int)=false:=by rw[h N Z];simpa using b
  simp only[yR,e,yX,gQ,kT,wO,xR];omega
def search_end{g:Int->Bool}{e:Int->Prop}{n i j:Int}(z:mY g e n)(y:nT g n i j)(O:¬i<j):i=lk g n:=by
 obtain⟨G,_,_,r⟩:=z;obtain⟨v,t1,t2,t3,u⟩:=y;have h:i=j:=Z;subst h;have f:∀x:Nat,x<n.toNat->g (x:Int)=decide (i.toNat<=x):=λx L=>by
  by_cases b:i.toNat<=x;rw[qU b];exact r i x v Z Z (u Z);rw[vF b];cases A:g (x:Int)with
  |false=>rfl|true=>
   have:=r x (i-1) Z Z Z A;rw[t3 Z]at this;cases this
 unfold lk;rw[pL _ f];omega
def X4(n:Int)(b:Int->Prop)(g:Int->Bool):ah yv G0 284 [.dat I n,.clo1 I .bool b g] [] ⟨mY g b n,.dat I (lk g n),[]⟩:=by
 refine zE (A:=(lvA [(2,[1,4,5,6,7])] (aB2 g n))) (p:=let f:=Ty.int .i64;(mY g b n->(∃x,nT g n (p1 x) (p2 x)/\L5 (AV.clo1 f Ty.bool b g) Q1 (0=p1 x/\n=p2 x/\True))/\∀(x:Int×Int),let i:=Dn (p1 x) (p2 x);let h:=p1 x+p2 x;let e:=Gi h 1;let j:=Dj (g e);let r:=e+1;nT g n (p1 x) (p2 x)->(i->inR .i64 h/\inR IntKind.u64 h/\Dl 0 1/\Dc 1<=64/\inR .i64 e/\b e/\(j->inR .i64 r/\∃y,nT g n (p1 y) (p2 y)/\(L5 (AV.clo1 f Ty.bool b g) Q1 (r=p1 y/\p2 x=p2 y/\True))/\Dc (p2 y-p1 y)<Dc (p2 x-p1 x))/\(j=false->∃y,nT g n (p1 y) (p2 y)/\(L5 (AV.clo1 f Ty.bool b g) Q1 (p1 x=p1 y/\e=p2 y/\True))/\Dc (p2 y-p1 y)<Dc (p2 x-p1 x)))/\(i=false->p1 x=lk g n/\True))) aI2 λe=>?_;have u:=e.1;have T:=e.2.1;have r:∀x:Int,0<=x->Gi x 1=x/2:=λx f=>by
  simp only[Gi];rw[show(2:Int) ^ (1:Int).toNat=2 by decide,qCy _ Z]
 simp only[L5,Dj,qBf,yD,vW,yC,gB,Dn,Dl,Dy,Di,Dq,Dx,Dc,qE,wE];refine⟨⟨(0,n),⟨qH _,u,qH _,λh=>absurd h (by simp only[p1];omega),λh=>absurd h (by simp only[p2];omega)⟩,rfl,rfl⟩,λx f=>⟨λv=>?_,λz=>search_end e f z⟩⟩;obtain⟨i,j⟩:=x;obtain⟨O,t1,t2,t3,L⟩:=f;simp only[p1,p2]at O t1 t2 t3 L v ⊢;rw[r (i+j) Z];simp only[inR];refine⟨Z,Z,Z,by decide,Z,e.2.2.1 _ Z Z,λG=>⟨Z,((i+j)/2+1,j),⟨by simp only;omega,by simp only;omega,t2,λ_=>?_,L⟩,⟨rfl,rfl⟩,by simp only;omega⟩,
  λG=>⟨(i,(i+j)/2),⟨O,by simp only;omega,by simp only;omega,t3,λ_=>G⟩,⟨rfl,rfl⟩,by simp only;omega⟩⟩
 simp only[Int.add_sub_cancel];exact G
def aJw(i d:Int)(c:C.den):ah yv G0 285 [.dat I i,.ip C c,.ip I d] [] ⟨Y9 c.2.2 i,.dat .bool (KE c.2.2 d i),[]⟩:=
 zE (A:=az) (p:=(Y9 c.2.2 i->0<=i/\i<Df c.2.2/\Ed (Du c.2.2 (Dc i) 0) d=KE c.2.2 d i/\True)) aI2 λh=>⟨h.1,h.2,rfl,trivial⟩
def TJ(n d:Int)(c:C.den):ah yv G0 284 [.dat I n,.fn 285 [.ip C c,.ip I d]] [] ⟨mY (KE c.2.2 d) (Y9 c.2.2) n,.dat I (lk (KE c.2.2 d) n),[]⟩:=
 (X4 n (Y9 c.2.2) (KE c.2.2 d)).args λC r i h=>by
  obtain⟨u,f,e,g1,g,b,j,g3,g4⟩:=h;exact⟨u,f,e,g1,g,b,j,lW (by kernel_rfl) rfl (λx=>aJw x d c) i g3,g4⟩
def aI1:ai yv G0 KT3:=by
 intro f args m c h;unfold KT3 at h;split at h;cases h;exact aJw _ _ _;cases h;exact TJ _ _ _;exact aI2 _ _ _ _ h
def PT{h:Li}(r:∀i:Nat,i+1<h.length->h.getD i 0<h.getD (i+1) 0)(d:Int):
  0<=atS h d/\atS h d<=h.length/\(∀i:Nat,(i:Int)<atS h d->h.getD i 0<d)/\∀i:Nat,atS h d<=i->i<h.length->d<=h.getD i 0:=by
 have z:∃k:Nat,k<=h.length/\(∀i:Nat,i<k->h.getD i 0<d)/\∀i:Nat,k<=i->i<h.length->d<=h.getD i 0:=by
  have:∀N:Nat,N<=h.length->∃k:Nat,k<=N/\(∀i:Nat,i<k->h.getD i 0<d)/\∀i:Nat,k<=i->i<N->d<=h.getD i 0:=by
   intro N;induction N with
   |zero=>intro _;exact⟨0,qM _,λi r=>Z,λi _ r=>Z⟩
   |succ N L=>
    intro X;obtain⟨k,G,f,g⟩:=L Z;by_cases A:k<N;refine⟨k,Z,f,λi v u=>?_⟩;rcases zT i N with j|j;exact g i v j;have y:i=N:=by omega
    have:=g k (qM _) A;have:=MD r A (show N<h.length by omega);rw[y];omega;have T:k=N:=by omega
    subst T;by_cases hd:h.getD k 0<d;refine⟨k+1,qM _,λi O=>?_,λi v u=>Z⟩;rcases zT i k with j|j;exact f i j;rw[show i=k by omega];exact hd;exact⟨k,Z,f,λi v u=>by rw[show i=k by omega];omega⟩
  exact this h.length (qM _)
 obtain⟨k,G,f,g⟩:=z;have e:atS h d=k:=by
  unfold atS lk;rw[pL (i:=k) _ (λx V=>?_)];omega;unfold KE;simp only[qR];by_cases b:k<=x;rw[qU b];exact qU (g x b Z);have:=f x Z;rw[vF b];exact vF Z
 rw[e];exact⟨Z,Z,λi r=>f i Z,λi v u=>g i Z u⟩
def Vl{w:List Bool}{h:Li}(e:G1 w h)(d:Int):mY (KE h d) (Y9 h) h.length:=by
 refine⟨Z,by have:=e.2.1;omega,λi f v=>⟨f,v⟩,λi j f r x b=>?_⟩;unfold KE at b ⊢;simp only[qE]at b ⊢;rcases Int.lt_or_le i j with g|u;have:=MD e.2.2 (show i.toNat<j.toNat by omega) Z;omega;rw[show j=i by omega];exact b
def aAH{w:List Bool}{h:Li}(x:G1 w h)(d:Int):(decide (atS h d=h.length)||(h.getD (atS h d).toNat 0 != d))=!h.contains d:=by
 obtain⟨A,g1,g2,g3⟩:=PT x.2.2 d;obtain⟨k,z⟩:∃k,k=atS h d:=⟨_,rfl⟩;rw[<- z]at A g1 g2 g3 ⊢;have f:d∈h↔k<h.length/\h.getD k.toNat 0=d:=by
  constructor;intro hm;obtain⟨i,v⟩:=kY.1 hm;have u:=(qG.1 v).1;have e:h.getD i 0=d:=by rw[qA,v];rfl
  have y:k<=i:=by
   rcases Int.lt_or_le (i:Int) k with b|r;have:=g2 i b;omega;exact r
  have g:k.toNat=i:=by
   rcases zT k.toNat i with b|r;have:=MD x.2.2 b u;have:=g3 k.toNat Z Z;omega;omega
  exact⟨Z,by rw[g];exact e⟩;rintro⟨y,g⟩;have b:k.toNat<h.length:=Z;rw[qA,qB b]at g;simp only[qK]at g;rw[<- g];exact wL _
 by_cases hd:d∈h;obtain⟨y,g⟩:=f.1 hd;have:h.contains d=true:=by simpa using hd
 rw[this,g];have:¬k=h.length:=Z;simp[this];have:h.contains d=false:=by simpa using hd
 rw[this];by_cases j:k=h.length;simp[j];have:h.getD k.toNat 0≠d:=λe=>hd (f.2 ⟨Z,e⟩);simp only[j,gK,kV,yX,qDf,ne_eq];exact this
def aB6(d:Int)(wk:List Bool)(c:C.den):ah yv G0 283 [.dat I d,.ia .bool wk,.ip C c] [] ⟨G1 wk c.2.2/\uR d,.dat .bool (aX wk c.2.2 d),[]⟩:=by
 obtain⟨z,w,h⟩:=c;refine zE (A:=aHf) (p:=let g:=Df h;let e:=Ky d 7;let j:=Du wk (Dc e) false;let f:=Dj j;let u:=(z,w,h);let i:=lk (KE h d) g;let r:=Eb i g;let b:=Dj r;(G1 wk h/\uR d->(uR d/\QC 7)/\Dk wk=7/\0<=e/\e<Ea 7/\(f->false=aX wk h d/\True)/\(f=false->L3 d wk u d false d e j j (f=f/\mY (KE h d) (Y9 h) g/\Q4 b ((b->0<=i)/\(b->i<Df h)/\Q4 b ((Dh true b->b)/\Dz r true (Dw (Du h (Dc i) 0) d)=aX wk h d/\True)))))) aI1 λ⟨b,hd⟩=>?_;have i:=Vl b d;obtain⟨r,g1,g2,g3⟩:=PT b.2.2 d;have x:=kH d (show(7:Int)≠0 by omega);have v:=xB d (show(0:Int)<7 by omega);have u:lk (KE h d) (Df h)=atS h d:=rfl;have f:mY (KE h d) (Y9 h) (Df h):=i;simp only[L3,Q4,u,f,uE,jS,Dh,Dj,zV,qBf,yD,vW,qAn,kL,yC,gB,Ky,Du,Dc,Eb,Dw,Dl,Dp,Df,Ea,Dk,qAr];refine⟨⟨hd,Z,Z⟩,b.1,x,by exact_mod_cast v,λe=>?_,λe=>⟨λ_=>r,λj=>Z,?_⟩⟩;unfold aX;rw[e];rfl;unfold aX;rw[e,zV,<- aAH b d];congr 1
def X3(z:Int)(w:List Bool)(h:Li):ah yv G0 264 [cal z w h] [] ⟨Dk w=7,.fn 283 [.ia .bool w,.ip C (z,w,h)],[]⟩:=by
 refine zE (A:=az) (p:=let b:=Gg 7 false;let e:=Gl b w;let f:=(z,w,h);(Dk w=7->L5 0 7 (Dk b=7/\Dk b=7/\Dk e=7/\0=0/\e=w/\T3 f))) aI1 λb=>?_;have b:w.length=7:=b;have e:Gl (Gg 7 false) w=w:=by
  simp only[Gl,Gg,wS,<- b,yQ];rw[yE (by simp),wB]
 refine⟨rfl,rfl,by simp[Dk,Gg],by simp[Dk,Gg],by rw[e];exact b,rfl,e,rfl,trivial⟩
def aGh:ai yv G0 KT4:=by
 intro f args m c h;unfold KT4 at h;split at h;cases h;exact aB6 _ _ _;cases h;exact X3 _ _ _;exact aI1 _ _ _ _ h
def GZ{z:Int}{w:List Bool}{h:Li}(g:aA z w h=true):G1 w h:=by
 obtain⟨⟨_,_,f,e⟩,b⟩:=bD.1 g;exact⟨f,e,b⟩
def Yz{d:Int}(hd:bG d=true):uR d:=by
 unfold bG at hd;have:=vT hd;exact⟨Z,Z⟩
abbrev Jg:=aj [.row C,.val I] (λ(c,d,_)=>aA c.1 c.2.1 c.2.2=true/\bG d=true) λ(c,d,_)=>.dat .bool (aX c.2.1 c.2.2 d)
def aE0:eO 279 Jg:=ae λ(((z:Int),(w:List Bool),(h:Li)),(d:Int),_)=>by
 refine zE (A:=az) (p:=let e:=aA z w h;let b:=Dz e (bG d) false;(aA z w h/\bG d->True/\L4 e ((aA z w h->True)/\(Dh true e->aA z w h)/\L4 b ((b->Dk w=7)/\L7 b ((b->G1 w h/\uR d)/\(Dh true b->b)/\Dz b (aX w h d) false=aX w h d/\True))))) aGh λ⟨b,hd⟩=>?_;have e:=GZ b;simp only[L4,L7,b,hd,jS,Dh,zV,qBf,yD,vW,qAn,kL,gJ,Dk];exact⟨e.1,e,Yz hd⟩
def cD(w:List Bool)(h:Li)(a n:Int):Li:=((List.range n.toNat).map λ(i:Nat)=>a+(i:Int)).filter λd=>aX w h d
def mT(w:List Bool)(h:Li)(a d:Int):Nat:=(((List.range (d-a).toNat).map λ(i:Nat)=>a+(i:Int)).filter λd=>aX w h d).length
def Q7(w:List Bool)(h:Li)(a n:Int):Prop:=G1 w h/\-1000000000<=a/\a<=1000000000/\-100000000<=n/\n<=100000000
def nI(a n d:Int):Prop:=a<=d/\(d<=a+n\/d=a)
def qu(w:List Bool)(h:Li)(d:Int):Option Int:=(cD w h d 60).head?
def ff(w:List Bool)(h:Li)(d:Int):Int:=(qu w h d).getD 0
def d5(w:List Bool)(h:Li)(d:Int):Int:=if(qu w h d).isSome then 0 else 20
def aAt(z:Int)(w:List Bool)(h:Li)(d:Int):Prop:=aA z w h=true/\bG d=true
def isZ(k:Nat):Prop:=k=0
def aFV(w:List Bool)(h:Li)(a n:Int):Ku:=⟨λb y=>match b with
 |1=>some {α:=Int,inv:=λd=>nI a n d,st:=λd=>⟨put y.s [(5,.dat I d)],mT w h a d,true⟩,μ:=λd=>Dc (Di (Dq a n) d)}|_=>none,λ_ _=>none,λb=>b==3⟩
def W4(z a n:Int)(w f:List Bool)(h:Li)(e:
 let c1:=(z,f,h);let c2:=cD w h a n;let c3:=Dk c2;true/\true/\true/\false=false/\∀(l:Nat),Q7 w h a n->(∃x,nI a n x/\(T2 l a n w c1 (a=x/\T3 a))/\0=mT w h a x/\true)/\∀(x:Int),let c4:=Dn x (a+n);let c5:=mT w h a x;let c6:=c5+1;let c7:=x+1;let g:=Dz (aX w h x) (Dj false) false;nI a n x->inR .i64 (a+n)/\(c4->(G1 w h/\uR x)/\(aX w h x->(aX w h x->aX w h x)/\(aX w h x->aX w h x)/\l=l/\true/\nB c2 c5 x/\∀(b:Bool),let c9:=Dz (aX w h x) (Dj b) false;(Dh true (aX w h x)->aX w h x)/\(c9->b->c6=c3)/\(c9=false->inR IntKind.i64 c7/\∃y,nI a n y/\((T2 l a n w c1 (c7=y/\T3 a))/\c6=mT w h a y/\b)/\Dc ((a+n)-y)<Dc ((a+n)-x)))/\(aX w h x=false->L4 (aX w h x) ((Dh true (aX w h x)->aX w h x)/\(g->true->c5=c3)/\(g=false->inR .i64 c7/\∃y,nI a n y/\((T2 l a n w c1 (c7=y/\T3 a))/\c5=mT w h a y/\true)/\Dc ((a+n)-y)<Dc ((a+n)-x)))))/\(c4=false->true->c5=c3)):
  evI (mkc KT4) (aFV w h a n) 265 [.ip I a,.ip I n,.ipv (.fn 283 [.ia .bool w,.ip C (z,f,h)])] ⟨Q7 w h a n,I,cD w h a n⟩:=oE_ e
abbrev Jf:=aj [.row C,.val I,.val I] (λ(c,_,_,_)=>Dk c.2.1=7) λ(c,a,n,_)=>.fn 265 [.ip I a,.ip I n,.ipv (.fn 283 [.ia .bool c.2.1,.ip C c])]
def KR1:Kt:=kOr 213 Jf KT4
def aJq:FuncId->List AV->Option jX:=λf b=>match f,b with|265,[.ip (.int .i64) a,.ip (.int .i64) n,.ipv (.fn 283 [.ia .bool w,.ip (.pair (.int .i64) (.pair (.sl .bool) (.sl (.int .i64)))) c])]=>some ⟨Q7 w c.2.2 a n,I,cD w c.2.2 a n⟩|_,_=>none
def flat(s:St):St:={s with tm:=s.tm.map aD7}
def aIt:Ann:=Z8 4 Nat isZ (λs _=>flat s) λk=>k
noncomputable def aJB(K:Kt):Cfg:=⟨yv,G0,K,λ_=>false,aJq,true,λ_ _ _=>none,λ_=>false⟩
def aEZ:eO 213 Jf:=ae λ(((z:Int),(w:List Bool),(h:Li)),(a:Int),(n:Int),_)=>by
 refine zE (A:=az) (p:=let b:=Ty.bool.sl.pair (Ty.int .i64).sl;(Dk w=7->Dk w=7/\T6 1 0 a n 1 0 (AV.fn 283 [AV.ia Ty.bool w,AV.ip ((Ty.int IntKind.i64).pair b) (z,w,h)]=AV.fn 283 [AV.ia Ty.bool w,AV.ip ((Ty.int .i64).pair b) (z,w,h)]/\True))) aGh λb=>?_;exact⟨b,rfl,rfl,rfl,rfl,rfl,rfl,rfl,trivial⟩
def aI6:ai yv G0 KR1:=af aEZ aGh
def Vu{α:Type}{f:Nat->α}{p:α->Bool}{k:Nat}(g:p (f k)=true):∀N:Nat,k<N->(((List.range N).map f).filter p)[(((List.range k).map f).filter p).length]?=some (f k)
 |0,h=>Z|N+1,h=>by
  rw[zS,zZ,yO];rcases zT k N with i|i;have b:=Vu g N i;rw[vS (qG.1 b).1];exact b;have e:N=k:=by omega
  subst e;rw[vJ (qM _),qBg];simp[g]
def Wl{w:List Bool}{h:Li}{a n x:Int}(j:a<=x)(g:x<a+n)(b:aX w h x=true):nB (cD w h a n) (mT w h a x) x:=by
 have e:a+((x-a).toNat:Int)=x:=Z;have:=Vu (f:=λ(i:Nat)=>a+(i:Int)) (p:=λd=>aX w h d) (k:=(x-a).toNat) (by simp only[e];exact b) n.toNat Z;simp only[e]at this;exact this
def vq{w:List Bool}{h:Li}{a x:Int}(b:a<=x):mT w h a (x+1)=mT w h a x+(if aX w h x then 1 else 0):=by
 unfold mT;rw[show(x+1-a).toNat=(x-a).toNat+1 by omega,zS,zZ,yO,qF];have e:a+((x-a).toNat:Int)=x:=Z;congr 1;simp only[zO,qBx,e,yR,gQ];split<;>simp_all
def PG(w:List Bool)(h:Li)(a:Int):mT w h a a=0:=by
 unfold mT;rw[show(a-a).toNat=0 by omega];rfl
def cnt_end{w:List Bool}{h:Li}{a n x:Int}(b:nI a n x)(e:¬x<a+n):mT w h a x=(cD w h a n).length:=by
 unfold mT cD;obtain⟨g1,g2⟩:=b;rw[show(x-a).toNat=n.toNat by omega]
def aEW(a n:Int)(w:List Bool)(c:C.den):mU yv G0 265 [.ip I a,.ip I n,.ipv (.fn 283 [.ia .bool w,.ip C c])] ⟨Q7 w c.2.2 a n,I,cD w c.2.2 a n⟩:=by
 obtain⟨z,u,h⟩:=c;refine sF (c:=mkc KT4) (A:=aFV w h a n) aGh gC hm ?_;refine W4 z a n w u h ⟨rfl,rfl,rfl,rfl,λl ⟨y,X,V,T,O⟩=>?_⟩;simp only[T2,T3,L4,uE,jS,Dh,Dj,zV,qBf,yD,vW,qAn,kL,yL,yX,kV,qAw,qBk,qAx,kM,gG,yC,gB,wG,xU,reduceCtorEq,qAv,gJ,Dn,Eh,Ed,Ef,Di,Dq,Dx,Dc,Dk,Ea,Ec,qE,wE,gK,qBc];refine⟨⟨a,⟨qH _,.inr rfl⟩,rfl,(PG w h a).symm⟩,λx g=>?_⟩;have e:=g.1;have v:=g.2;refine⟨⟨Z,Z⟩,λi=>⟨⟨y,Z,Z⟩,λf=>?_,λf=>?_⟩,λj=>cnt_end g j⟩;simp only[f,uE,jS,Dh,Dj,zV,qBf,yD,vW,qAn,kL,yL,yX,kV,qAw,qBk,qAx,kM,gG,yC,gB,wG,xU,reduceCtorEq,qAv,gJ,Dn,Eh,Ed,Ef,Di,Dq,Dx,Dc,Dk,Ea,Ec,qE,wE,gK,qBc];refine⟨Wl e i f,λb=>⟨λL r=>(by rw[L]at r;cases r),λG=>⟨⟨Z,Z⟩,x+1,⟨Z,.inl Z⟩,⟨rfl,?_,G⟩,Z⟩⟩⟩;rw[vq e,f];rfl;simp only[f,uE,jS,Dh,Dj,zV,qBf,yD,vW,qAn,kL,yL,yX,kV,qAw,qBk,qAx,kM,gG,yC,gB,wG,xU,reduceCtorEq,qAv,gJ,Dn,Eh,Ed,Ef,Di,Dq,Dx,Dc,Dk,Ea,Ec,qE,wE,gK,qBc];refine⟨⟨Z,Z⟩,x+1,⟨Z,.inl Z⟩,⟨rfl,?_⟩,Z⟩;rw[vq e,f];rfl
def aGw:bh yv G0 aJq:=by
 intro f b c h;unfold aJq at h;split at h;cases h;exact aEW _ _ _ _;cases h
def okd{d:Int}(hd:bG d=true): -1000000<=d/\d<=1000000:=by
 unfold bG at hd;exact vT hd
abbrev Je:=aj [.row C,.val I] (λ(c,d,_)=>aAt c.1 c.2.1 c.2.2 d) λ(c,d,_)=>.tup [.dat I (ff c.2.1 c.2.2 d),.dat I (d5 c.2.1 c.2.2 d)]
def aEU:eO 209 Je:=ae λ(((z:Int),(w:List Bool),(h:Li)),(d:Int),_)=>by
 refine zF (c:=aJB KR1) (A:=aIt) aI6 aGw hm (p:=let b:=Dj (aA z w h);let e:=Dj b;let f:=Dz b true (Dj (bG d));let g:=(z,w,h);let i:=cD w h d 60;true/\(aAt z w h d->True/\L4 e ((e->True)/\L4 e ((Dh true e->e)/\(f->T5 1 0 1 0 1 0 1 0 (0=ff w h d/\1=d5 w h d/\True))/\(f=false->Dk w=7/\Q7 w h d 60/\(∃x,isZ x/\x=0/\z=z/\w=w/\h=h/\d=d/\g=g/\1=1/\0=0/\0=0/\1=1/\0=0/\0=0/\z=z/\w=w/\h=h/\aA z w h=aA z w h/\b=b/\b=b/\f=f/\z=z/\w=w/\h=h/\d=d/\d=d/\(60:Int)=(60:Int)/\w=w/\g=g/\(0:Int)=(0:Int)/\(0:Int)=(0:Int)/\True)/\(∀(x:Nat) (y:Int),isZ x->nB i x y->T5 1 0 1 0 1 0 1 0 (y=ff w h d/\0=d5 w h d/\True))/\∀(x:Nat),isZ x->x=Dk i->T5 1 0 1 0 1 0 1 0 (0=ff w h d/\20=d5 w h d/\True)))))) ⟨rfl,λ⟨f,hd⟩=>?_⟩;have g:=GZ f;have j:=okd hd;simp only[L4,T5,f,hd,uE,jS,Dh,Dj,zV,qBf,yD,vW,qAn,kL,yL,yX,kV,qAw,qBk,qAx,kM,gG,yC,gB,wG,xU,reduceCtorEq,qAv,gJ,Dn,Eh,Ed,Ef,Di,Dq,Dx,Dc,Dk,Ea,Ec,qE,wE,gK,qBc];refine⟨g.1,⟨g,Z,Z,Z,Z⟩,⟨0,rfl,rfl⟩,λx y b e=>?_,λx b i=>?_⟩;have b:x=0:=b;subst b;have:qu w h d=some y:=by
  have e:(cD w h d 60)[0]?=some y:=e;unfold qu;rw[List.head?_eq_getElem?];exact e
 simp[ff,d5,this];have b:x=0:=b;subst b;have:qu w h d=none:=by
  unfold qu;rw[vY i.symm];rfl
 simp[ff,d5,this]
def IL{w:List Bool}{h:Li}{a n y:Int}(b:y∈cD w h a n):a<=y/\y<a+n/\aX w h y=true:=by
 unfold cD at b;obtain⟨g,f⟩:=yI.1 b;obtain⟨i,e,rfl⟩:=vK.1 g;have:=qW.1 e;exact⟨Z,Z,f⟩
abbrev AE(t:TypeId)(e:Int):Value:=.iface t (.int .i64 e)
abbrev Stp:Ty:=.pair I (.pair I (.pair I I))
abbrev Stop:=Int×Int×Int×Int
abbrev Pl:Ty:=.pair I (.pair I (.pair M (.sl M)))
abbrev Plan:=Int×Int×Lj×List (Lj)
def bS(t:Int):Bool:=decide (0<=t/\t<=2000000)
def bX(n:Net)(o:Int):Off:=n.2.2.2.1.getD o.toNat (⟨#[]⟩,0,0,0,0,0,[])
def sB(n:Net)(l:Int):Line:=n.2.2.2.2.1.getD l.toNat (⟨#[]⟩,0,0,0,0,0)
def aB(n:Net)(o:Int):Int×List Bool×Li:=n.1.getD (bX n o).2.2.1.toNat (0,[],[])
def bT(n:Net)(l:Int):Int:=(sB n l).2.1
def x9(n:Net)(l:Int):Int:=(sB n l).2.2.1
def yb(n:Net)(l:Int):Int:=(sB n l).2.2.2.1
def ix(n:Net)(l:Int):Int:=(sB n l).2.2.2.2.1
def jm(n:Net)(o:Int):Prop:=noF n=true/\0<=o/\o<n.2.2.2.1.length
def RL(n:Net)(l:Int):Prop:=noF n=true/\0<=l/\l<n.2.2.2.2.1.length
def br(n:Net)(o l:Int):Bool:=decide (l=-1)||(cY l n.2.2.2.2.1.length&&decide (bT n l=o))
def rowOk(n:Net)(o:Int)(b:Li):Bool:=decide ((b.length:Int)=n.2.2.2.1.length)&&b.all (br n o)
def l8(n:Net)(nx:Lj):Bool:=decide ((nx.length:Int)=n.2.2.2.1.length)&&(List.range nx.length).all λi=>rowOk n i (nx.getD i [])
def du(nx:Lj):Prop:=nx.length<=1000000/\∀r∈nx,r.length<=1000000
def ql(n:Net)(nx:Lj)(k:Int):Prop:=0<=k/\k<=nx.length/\(nx.length:Int)=n.2.2.2.1.length/\∀i:Nat,(i:Int)<k->rowOk n i (nx.getD i [])=true
def H4(n:Net)(o:Int)(b:Li)(k:Int):Prop:=0<=k/\k<=b.length/\(b.length:Int)=n.2.2.2.1.length/\∀i:Nat,(i:Int)<k->br n o (b.getD i 0)=true
def d0F(c:Int×List Bool×Li)(m t:Int):Int:=if m<ID c.1 t then bE c.1 t+1 else bE c.1 t
def jf(c:Int×List Bool×Li)(m t:Int):Int:=if d5 c.2.1 c.2.2 (d0F c m t)=0 then dE c.1 (ff c.2.1 c.2.2 (d0F c m t)) m else 0
def mS(c:Int×List Bool×Li)(m t:Int):Int:=d5 c.2.1 c.2.2 (d0F c m t)
def MH(c:Int×List Bool×Li)(m t:Int):Prop:=aA c.1 c.2.1 c.2.2=true/\0<=m/\m<1440/\-1000000<=t/\t<=100000000
def aF(n:Net)(o t:Int):Int:=t+(bX n o).2.2.2.2.1*(bX n o).2.2.2.2.2.1
def iq(n:Net)(o t:Int):Prop:=jm n o/\-1000000000<=t/\t<=1000000000
def pS(n:Net)(l t:Int):Int:=if bS t=true then jf (aB n (bT n l)) (yb n l) t else 0
def uW(n:Net)(l t:Int):Int:=if bS t=true then mS (aB n (bT n l)) (yb n l) t else 1
def isZero(e:Int):Bool:=decide (e=0)
def KR2:Kt:=kOr 209 Je KR1
def aC3(n:Net)(nx:Lj):Ann:=⟨λb s=>match b with
 |4=>some {α:=Int,inv:=λk=>ql n nx k,st:=λk=>put s [(19,.dat I k)],μ:=λk=>Dc (Di (Df nx) k)}|9=>match s.sig.T 19,s.sig.T 32 with
  |.dat (.int .i64) o,.dat (.sl (.int .i64)) row=>some {α:=Int,inv:=λk=>H4 n o row k,st:=λk=>put s [(34,.dat I k)],μ:=λk=>Dc (Di (Df row) k)}|_,_=>none
 |_=>none,λ_ _=>none,λ_ _=>none⟩
abbrev tZ:=aj [.val I,.val I] (λ_=>True) λ(i,l,_)=>.dat .bool (cY i l)
abbrev rx:=aj [.val I] (λ_=>True) λ(t,_)=>.dat .bool (bS t)
abbrev yu:=aj [.ptr N] (λ_=>True) λ(n,_)=>.dat .bool (aS n)
abbrev yz:=aj [.ptr N,.val I] (λ(n,o,_)=>jm n o) λ(n,o,_)=>cal (aB n o).1 (aB n o).2.1 (aB n o).2.2
abbrev yy:=aj [.row C,.val I,.val I] (λ(c,m,t,_)=>MH c m t) λ(c,m,t,_)=>.tup [.dat I (jf c m t),.dat I (mS c m t)]
abbrev yx:=aj [.ptr N,.val I,.val I] (λ(n,o,t,_)=>iq n o t) λ(n,o,t,_)=>.dat I (aF n o t)
def KR3:Kt:=kOr 136 tZ <|
 kOr 282 rx <|
 kOr 93 yu <|
 kOr 201 yz <|
 kOr 200 yy <|
 kOr 263 yx <|
 kOr 203 (aj [.val I,.val I] (λ(_,e,_)=>True/\isZero e=true) λ(v,_,_)=>.dat I v) <|
 kOr 205 (aj [.val .bool] (λ(b,_)=>True/\b=true) λ_=>.tup []) KR2
def EE:ai yv G0 KR2:=af aEU aI6
def fJ(b:LC)(f g:LB)(e:Lo)(i:Ll)(j:Lk){o:Int}(h:jm (b,f,g,e,i,j) o):0<=(bX (b,f,g,e,i,j) o).2.2.1/\(bX (b,f,g,e,i,j) o).2.2.1<b.length/\aA (aB (b,f,g,e,i,j) o).1 (aB (b,f,g,e,i,j) o).2.1 (aB (b,f,g,e,i,j) o).2.2=true/\1<=(bX (b,f,g,e,i,j) o).2.2.2.2.1/\(bX (b,f,g,e,i,j) o).2.2.2.2.1<=4/\1<=(bX (b,f,g,e,i,j) o).2.2.2.2.2.1/\(bX (b,f,g,e,i,j) o).2.2.2.2.2.1<=240:=by
 obtain⟨r,A,v⟩:=h;have v:o<e.length:=v;have x:bX (b,f,g,e,i,j) o∈e:=by
  show e.getD o.toNat _∈e;rw[qA,qB Z,qK];exact wL _
 have u:=(eJ b f g e i j r).2.2.2 _ x;unfold dt cY cP at u;simp only[qC,qE]at u;obtain⟨⟨⟨⟨⟨⟨_,g1⟩,_⟩,_⟩,_⟩,g2⟩,g3⟩:=u;have g1:0<=(bX (b,f,g,e,i,j) o).2.2.1/\(bX (b,f,g,e,i,j) o).2.2.1<(b.length:Int):=g1;have z:=((vj (by decide)).1 (ku b f g e i j r).2.1).2.2.2;have y:(aL b f).length=b.length:=by unfold aL;simp
 have:=z (bX (b,f,g,e,i,j) o).2.2.1.toNat Z;unfold bI at this;rw[iw (λc:Int×List Bool×Li=>aA c.1 c.2.1 c.2.2) b _ (0,[],[]) false Z]at this;exact⟨g1.1,g1.2,this,g2.1,g2.2,g3.1,g3.2⟩
def yd(j:LC)(g f:LB)(e:Lo)(b:Ll)(i:Lk){l:Int}(h:RL (j,g,f,e,b,i) l):0<=bT (j,g,f,e,b,i) l/\bT (j,g,f,e,b,i) l<e.length/\0<=x9 (j,g,f,e,b,i) l/\x9 (j,g,f,e,b,i) l<e.length/\0<=yb (j,g,f,e,b,i) l/\yb (j,g,f,e,b,i) l<=1439/\1<=ix (j,g,f,e,b,i) l/\ix (j,g,f,e,b,i) l<=5000:=by
 obtain⟨r,A,u⟩:=h;have u:l<b.length:=u;have x:sB (j,g,f,e,b,i) l∈b:=by
  show b.getD l.toNat _∈b;rw[qA,qB Z,qK];exact wL _
 obtain⟨g1,g2,g3,g4,G,v,z,y⟩:=kB ((nh j g f e b i r).2.2.2 _ x);exact⟨g1,g2,g3,g4,v.1,v.2,z,y⟩
def qt{w:List Bool}{h:Li}{d:Int}(e:d5 w h d=0):d<=ff w h d/\ff w h d<d+60/\aX w h (ff w h d)=true:=by
 unfold d5 at e;unfold ff;cases b:qu w h d with
 |none=>rw[b]at e;simp at e|some y=>
  have:y∈cD w h d 60:=qCk (by unfold qu at b;rw[b];rfl);exact IL this
def VJ{c:Int×List Bool×Li}{m t:Int}(e:MH c m t): -1000<=d0F c m t/\d0F c m t<=100000:=by
 obtain⟨b,r,j,i,h⟩:=e;obtain⟨⟨g,f,_,_⟩,_⟩:=bD.1 b;unfold d0F bE;split<;>omega
def dj{d:Int}(e:-1000000<=d)(b:d<=1000000):bG d=true:=by
 unfold bG;exact qU ⟨e,b⟩
def SR:eO 136 tZ:=ae λ((i:Int),(l:Int),_)=>by
 refine zE (A:=az) (p:=let b:=Ed i 0;(True->L7 b ((Dh true b->b)/\Dz b (Dn i l) false=cY i l/\True))) EE λ_=>⟨λh _=>h,λh _=>h,λh=>by simpa[Dh]using h,?_,trivial⟩;unfold cY;simp only[Dz,Ed,Dn,kQ];by_cases h:0<=i<;>simp[h]
def Qf:eO 282 rx:=ae λ((t:Int),_)=>by
 refine zE (A:=az) (p:=let b:=Ed t 0;(True->L4 b ((Dh true b->b)/\Dz b (Ef t 2000000) false=bS t/\True))) EE λ_=>⟨λh _=>h,λh=>by simpa[Dh]using h,?_,trivial⟩;unfold bS;simp only[Dz,Ed,Ef,kQ];by_cases h:0<=t<;>simp[h]
def SQ(v e:Int):ah yv G0 203 [.dat I v,.dat I e] [] ⟨True/\isZero e=true,.dat I v,[]⟩/\dA yv G0 203 [.dat I v,.dat I e] [] ⟨True,isZero e,AE 40 e⟩:=by
 refine zC (c:=mkc KR2) (A:=az) (q:=⟨True,isZero e,AE 40 e⟩) EE gC hm tG (p:=let b:=Dw e 0;let f:=chainOf (Value.iface 40 (Value.int .i64 e));true/\(True->(b->(true->True/\(false=false->isZero e=false/\true/\f=f))/\True)/\(b=false->isZero e/\T3 v))) ⟨rfl,λ_=>⟨λh=>⟨λ_=>⟨trivial,λ_=>⟨?_,rfl,rfl⟩⟩,trivial⟩,λh=>⟨?_,rfl,trivial⟩⟩⟩;unfold isZero;simpa[Dw]using h;unfold isZero;simpa[Dw]using h
def Hn(b:Bool):ah yv G0 205 [.dat .bool b] [] ⟨True/\b=true,.tup [],[]⟩/\dA yv G0 205 [.dat .bool b] [] ⟨True,b,AE 40 1⟩:=by
 refine zC (c:=mkc KR2) (A:=az) (q:=⟨True,b,AE 40 1⟩) EE gC hm tG (p:=let e:=chainOf (Value.iface 40 (Value.int .i64 (1:Int)));true/\(True->(Dj b->(true->True/\(false=false->b=false/\true/\e=e))/\True)/\(Dj b=false->b/\True))) ⟨rfl,λ_=>⟨λh=>⟨λ_=>⟨trivial,λ_=>⟨?_,rfl,rfl⟩⟩,trivial⟩,λh=>⟨?_,trivial⟩⟩⟩;simpa[Dj]using h;simpa[Dj]using h
def Br{n:Net}:aS n=decide (((fa n).length:Int)=0):=by
 unfold aS;cases fa n with
 |nil=>rfl|cons a l=>simp;omega
def Xy:eO 93 yu:=ae λ(((i,e,b,h,f,g):Net),_)=>zE (A:=az) (p:=let j:=(i,e,b,h,f,g);(True->True/\Eb (Df (fa j)) 0=aS j/\True)) EE λ_=>⟨trivial,by rw[Br];rfl,trivial⟩
def XB:eO 201 yz:=ae λ(((e,h,g,b,i,j):Net),(o:Int),_)=>by
 refine zE (A:=az) (p:=let v:=(e,h,g,b,i,j);let f:=(Du b (Dc o) (ByteArray.mk #[],(0:Int),(0:Int),(0:Int),(0:Int),(0:Int),Dt ByteArray)).2.2.1;let r:=Du e (Dc f) ((0:Int),Dt Bool,Dt Int);let u:=aB v o;(jm v o->0<=o/\o<Df b/\0<=f/\f<Df e/\Q3 1 0 1 0 (r.1=u.1/\r.2.1=u.2.1/\r.2.2=u.2.2/\True))) EE λf=>?_;obtain⟨g1,g2,_⟩:=fJ e h g b i j f;exact⟨f.2.1,f.2.2,g1,g2,rfl,rfl,rfl,rfl,rfl,rfl,rfl,trivial⟩
def XA:eO 200 yy:=ae λ((c:C.den),(m:Int),(t:Int),_)=>by
 obtain⟨z,w,h⟩:=c;refine zE (A:=az) (p:=let j:=(z,w,h);let r:=Dn m (ID z t);let b:=bE z t+1;let u:=d5 w h b;let v:=Dw u 0;let e:=jf j m t;let f:=mS j m t;let L:=ff w h b;let x:=d5 w h (bE z t);let i:=Dw x 0;let g:=ff w h (bE z t);(MH j m t->dK z w h t/\(r->inR .i64 b/\aAt z w h b/\(v->0=e/\u=f/\True)/\(v=false->jk z w h L m/\dE z L m=e/\0=f/\True))/\(r=false->aAt z w h (bE z t)/\(i->0=e/\x=f/\True)/\(i=false->jk z w h g m/\dE z g m=e/\0=f/\True)))) EE λG=>?_;obtain⟨b1,b2⟩:=VJ G;obtain⟨j,T,O,X,V⟩:=id G;refine Z9 ?_;have b:∀d,d=d0F (z,w,h) m t->aAt z w h d/\(¬d5 w h d=0->(0:Int)=jf (z,w,h) m t/\d5 w h d=mS (z,w,h) m t)/\(d5 w h d=0->jk z w h (ff w h d) m/\dE z (ff w h d) m=jf (z,w,h) m t/\(0:Int)=mS (z,w,h) m t):=by
  rintro d rfl;refine⟨⟨j,dj Z Z⟩,λf=>⟨(if_neg f).symm,rfl⟩,λf=>?_⟩;obtain⟨y,x,v⟩:=qt f;exact⟨⟨j,dj Z Z,T,O⟩,(if_pos f).symm,f.symm⟩
 refine⟨⟨j,Z,Z⟩,λr=>?_,λu=>?_⟩;have e:bE z t+1=d0F (z,w,h) m t:=(if_pos r).symm;obtain⟨y,x,v⟩:=b _ e;exact⟨by unfold inR;simp only;omega,y,x,v⟩;have e:bE z t=d0F (z,w,h) m t:=(if_neg u).symm;exact b _ e
def Xz:eO 263 yx:=ae λ(((j,g,f,b,h,i):Net),(o:Int),(t:Int),_)=>by
 refine zE (A:=az) (p:=let e:=(j,g,f,b,h,i);let r:=(Du b (Dc o) (ByteArray.mk #[],(0:Int),(0:Int),(0:Int),(0:Int),(0:Int),Dt ByteArray)).2.2.2.2;let u:=r.1*r.2.1;let v:=t+u;(iq e o t->0<=o/\o<Df b/\0<=o/\o<Df b/\inR .i64 u/\inR .i64 v/\v=aF e o t/\True)) EE λz=>?_;obtain⟨r,T,O⟩:=z;obtain⟨_,_,_,g1,g2,g3,g4⟩:=fJ j g f b h i r;obtain⟨x,v⟩:∃x,x=(bX (j,g,f,b,h,i) o).2.2.2.2.1:=⟨_,rfl⟩;obtain⟨y,u⟩:∃y,y=(bX (j,g,f,b,h,i) o).2.2.2.2.2.1:=⟨_,rfl⟩;rw[<- v]at g1 g2;rw[<- u]at g3 g4;have L:0<=x*y:=qAm Z Z;have G:x*y<=4*240:=kP g2 g4 Z Z;have e:aF (j,g,f,b,h,i) o t=t+x*y:=by rw[v,u];rfl
 refine⟨r.2.1,r.2.2,r.2.1,r.2.2,?_,?_,rfl,trivial⟩;show inR .i64 ((bX (j,g,f,b,h,i) o).2.2.2.2.1*(bX (j,g,f,b,h,i) o).2.2.2.2.2.1);rw[<- v,<- u];unfold inR;simp only;omega;show inR .i64 (t+(bX (j,g,f,b,h,i) o).2.2.2.2.1*(bX (j,g,f,b,h,i) o).2.2.2.2.2.1);rw[<- v,<- u];unfold inR;simp only;omega
def aG7:ai yv G0 KR3:=af SR<|af Qf<|af Xy<|af XB<|af XA<|af Xz<|af (ae λ(v,e,_)=>(SQ v e).1)<|af (ae λ(b,_)=>(Hn b).1) EE
def pu{n:Net}{nx:Lj}(b:(nx.length:Int)=n.2.2.2.1.length):l8 n nx=true↔∀i:Nat,(i:Int)<nx.length->rowOk n i (nx.getD i [])=true:=by
 unfold l8;simp only[qC,qE,qQ,qW];exact⟨λh i e=>h.2 i Z,λh=>⟨b,λi e=>h i Z⟩⟩
def qm{n:Net}{o:Int}{b:Li}(g:(b.length:Int)=n.2.2.2.1.length):rowOk n o b=true↔∀i:Nat,(i:Int)<b.length->br n o (b.getD i 0)=true:=by
 unfold rowOk;simp only[qC,qE,qQ];refine⟨λh i e=>h.2 _ ?_,λh=>⟨g,λx f=>?_⟩⟩;rw[qA,qB Z,qK];exact wL _;obtain⟨i,e,rfl⟩:=wX.1 f;have:=h i Z;rw[qA,qB e,qK]at this;exact this
def ZL(n:Net)(o l:Int):Dz (Dw l (-1)) (Dz (Dj (cY l (Df n.2.2.2.2.1))) true (Dw (bT n l) o)) false=!br n o l:=by
 unfold br;simp only[Dz,Dw,Dj,Df];by_cases h:l=-1;simp[h];have e:(l != -1)=true:=by simpa using h
 rw[e];cases hi:cY l n.2.2.2.2.1.length;simp[h];by_cases b:bT n l=o<;>simp[h,b]
abbrev t6:=aj [.ptr N,.val M] (λ(_,nx,_)=>du nx) λ(n,nx,_)=>.dat .bool (l8 n nx)
def SS:eO 94 t6:=ae λ(((X,T,O,L,f,V):Net),(nx:Lj),_)=>by
 refine zE (A:=(lvA [(4,[0,4,5,6,8,17,18,19,32,33,34]),(9,[0,4,5,6,8,17,18,19,32,33,34])] (aC3 (X,T,O,L,f,V) nx))) (p:=let j:=Df L;let A:=Dw (Df nx) j;let g:=(X,T,O,L,f,V);let i:=l8 g nx;let G:=Df f;(du nx->(A->false=i/\True)/\(A=false->(∃x,ql g nx x/\Q2 g nx (Df nx) (0=x/\True))/\∀(x:Int),let c6:=Dn x (Df nx);let h:=Du nx (Dc x) [];let z:=Df h;let c9:=Dw z j;let c10:=x+1;ql g nx x->(c6->0<=x/\x<Df nx/\(c9->false=i/\True)/\(c9=false->(∃b,H4 g x h b/\T5 g x h nx (Df nx) x h z (0=b/\True))/\∀(b:Int),let u:=Du h (Dc b) 0;let e:=Dw u (-1);let c13:=Dj (cY u G);let r:=Dj c13;let v:=Dh e r;let c14:=Dz e (Dz c13 true (Dw (Du f (Dc u) (ByteArray.mk #[],(0:Int),(0:Int),(0:Int),(0:Int),(0:Int))).2.1 x)) false;let c15:=b+1;H4 g x h b->(Dn b z->0<=b/\b<z/\Q4 e (Q4 e ((e->True)/\L7 e (L7 v (Q4 v ((Dh e r->0<=u)/\(Dh e r->u<G)/\L4 v (Q4 v (L4 e ((e->Dh e r->Dh e r)/\(Dh true e->e)/\(c14->false=i/\True)/\(c14=false->inR .i64 c15/\∃y,H4 g x h y/\(T5 g x h nx (Df nx) x h z (c15=y/\True))/\Dc (z-y)<Dc (z-b)))))))))))/\(Dn b z=false->inR .i64 c10/\∃y,ql g nx y/\(Q2 g nx (Df nx) (c10=y/\True))/\Dc (Df nx-y)<Dc (Df nx-x))))/\(c6=false->true=i/\True)))) aG7 λhf=>?_;have ec:∀l x:Int,Dz (Dw l (-1)) (Dz (Dj (cY l (Df f))) true (Dw (Du f (Dc l) (ByteArray.mk (Dt UInt8).toArray,(0:Int),(0:Int),(0:Int),(0:Int),(0:Int))).snd.fst x)) false=!br (X,T,O,L,f,V) x l:=λl x=>ZL (X,T,O,L,f,V) x l;simp only[ec];refine Z9 ?_;obtain⟨hf1,hf2⟩:=hf;have hz:∀x l:Int,¬l=-1/\cY l f.length=true->0<=l/\l<f.length:=λx l h=>by
  have:=h.2;unfold cY at this;simpa using this
 have hr:∀x:Int,0<=x->x<nx.length->(nx.getD x.toNat []).length<=1000000:=λx h0 h1=>hf2 _ (by
  rw[qA,qB Z,qK];exact wL _)
 have hct:∀x:Int,0<=x->((x.toNat:Nat):Int)=x:=λx h=>Z;refine⟨λhne=>?_,λhe=>⟨⟨qH _,Z,he,λi h=>Z⟩,λx g=>⟨λhlt=>⟨g.1,hlt,λe=>?_,λe=>⟨⟨qH _,Z,e,λi h=>Z⟩,λy G=>⟨λhlty=>⟨G.1,hlty,λh=>(hz x _ h).1,λh=>(hz x _ h).2,λhc=>?_,λhc=>?_⟩,λhgey=>?_⟩⟩⟩,λhge=>?_⟩⟩⟩;unfold l8;rw[vF hne];rfl;refine(kD.2 λht=>e ?_).symm;have h:=(pu he).1 ht x.toNat (by have:=g.1;omega);unfold rowOk at h;simp only[qC,qE]at h;exact h.1;refine(kD.2 λht=>?_).symm;have h:=(pu he).1 ht x.toNat (by have:=g.1;omega);rw[hct x g.1]at h;have h2:=(qm (n:=(X,T,O,L,f,V)) e).1 h y.toNat (by have:=G.1;omega);rw[h2]at hc;cases hc;have h1:=hr x g.1 hlt;refine⟨by unfold inR;simp only;have:=G.1;omega,y+1,⟨by have:=G.1;omega,Z,e,λi hi=>?_⟩,rfl,by have:=G.1;omega⟩;by_cases h:(i:Int)<y;exact G.2.2.2 i h;have:i=y.toNat:=by omega
 rw[this];exact hc;refine⟨by unfold inR;simp only;have:=g.1;omega,x+1,⟨by have:=g.1;omega,Z,he,λi hi=>?_⟩,rfl,by have:=g.1;omega⟩;by_cases h:(i:Int)<x;exact g.2.2.2 i h;have:i=x.toNat:=by have:=g.1;omega
 rw[this,hct x g.1];exact(qm (n:=(X,T,O,L,f,V)) e).2 λj hj=>G.2.2.2 j Z;exact((pu he).2 λi hi=>g.2.2.2 i Z).symm
abbrev t7:=aj [.ptr N,.val I,.val I] (λ(n,l,_)=>RL n l) λ(n,l,t,_)=>.tup [.dat I (pS n l t),.dat I (uW n l t)]
def SU:eO 262 t7:=ae λ(((j,f,e,i,b,g):Net),(l:Int),(t:Int),_)=>by
 refine zE (A:=az) (p:=let h:=(j,f,e,i,b,g);let v:=pS h l t;let x:=uW h l t;let r:=(Du b (Dc l) (ByteArray.mk #[],(0:Int),(0:Int),(0:Int),(0:Int),(0:Int))).2;let u:=(aB h r.1);(RL h l->True/\(Dj (bS t)->0=v/\1=x/\True)/\(Dj (bS t)=false->0<=l/\l<Df b/\jm h r.1/\0<=l/\l<Df b/\MH u r.2.2.1 t/\jf u r.2.2.1 t=v/\mS u r.2.2.1 t=x/\True))) aG7 λr=>?_;refine Z9 ?_;refine⟨λh=>?_,λh=>?_⟩;unfold pS uW;rw[h];exact⟨rfl,rfl⟩;obtain⟨g1,g2,g3,g4,z,X,V,T⟩:=yd j f e i b g r;have v:jm (j,f,e,i,b,g) (bT (j,f,e,i,b,g) l):=⟨r.1,g1,g2⟩;have x:=(fJ j f e i b g v).2.2.1;have O:0<=t/\t<=2000000:=vT h;have y:MH (aB (j,f,e,i,b,g) (bT (j,f,e,i,b,g) l)) (yb (j,f,e,i,b,g) l) t:=⟨x,z,Z,Z,Z⟩;have L:pS (j,f,e,i,b,g) l t=jf (aB (j,f,e,i,b,g) (bT (j,f,e,i,b,g) l)) (yb (j,f,e,i,b,g) l) t:=if_pos h;have G:uW (j,f,e,i,b,g) l t=mS (aB (j,f,e,i,b,g) (bT (j,f,e,i,b,g) l)) (yb (j,f,e,i,b,g) l) t:=if_pos h;exact⟨r.2.1,r.2.2,v,r.2.1,r.2.2,y,L.symm,G.symm⟩
def nxt(nx:Lj)(o d:Int):Int:=(nx.getD o.toNat []).getD d.toNat 0
def lj(n:Net)(nx:Lj)(to:Int):Nat->Int->Int->List Stop×Int
 |0,o,t=>if o=to then([(o,t,-1,-1)],0)else if nxt nx o to=-1 then([],170)else if uW n (nxt nx o to) (aF n o t)=0 then([],170)else([],uW n (nxt nx o to) (aF n o t))|k+1,o,t=>if o=to then([(o,t,-1,-1)],0)else if nxt nx o to=-1 then([],170)else if uW n (nxt nx o to) (aF n o t)=0 then
   if(lj n nx to k (x9 n (nxt nx o to)) (pS n (nxt nx o to) (aF n o t)+ix n (nxt nx o to))).2=0 then
    ((o,t,pS n (nxt nx o to) (aF n o t),nxt nx o to)::(lj n nx to k (x9 n (nxt nx o to)) (pS n (nxt nx o to) (aF n o t)+ix n (nxt nx o to))).1,0)
   else([],(lj n nx to k (x9 n (nxt nx o to)) (pS n (nxt nx o to) (aF n o t)+ix n (nxt nx o to))).2)
  else([],uW n (nxt nx o to) (aF n o t))
def gA(n:Net)(nx:Lj)(o to t:Int):List Stop:=(lj n nx to 19 o t).1
def ib(n:Net)(nx:Lj)(o to t:Int):Int:=(lj n nx to 19 o t).2
def Az(n:Net)(nx:Lj)(o to t:Int):Prop:=aS n=true/\l8 n nx=true/\0<=o/\o<n.2.2.2.1.length/\0<=to/\to<n.2.2.2.1.length/\0<=t/\t<=2200000
def BL(d:List Stop)(r:List Stop×Int):List Stop×Int:=if r.2=0 then(d++r.1,0)else([],r.2)
def RJ(n:Net)(nx:Lj)(e to b:Int)(x:List Stop×Int×Int):Prop:=Az n nx x.2.1 to x.2.2/\x.1.length<=19/\lj n nx to 19 e b=BL x.1 (lj n nx to (19-x.1.length) x.2.1 x.2.2)
def wSt(x:List Stop×Int×Int):List Stop:=x.1++[(x.2.1,x.2.2,-1,-1)]
def aHh(n:Net)(nx:Lj)(f to e:Int):Ann:=⟨λg s=>match g with
 |3=>match s.sig.T 19 with
  |.buf b _=>some {α:=List Stop×Int×Int,inv:=λx=>RJ n nx f to e x,st:=λx=>dD (put (flat s) [(11,.buf b (Dk (wSt x))),(12,.dat I (Df x.1))]) b (.buf 162 Stp (wSt x) []),μ:=λx=>Dc (Di 20 (Df x.1))}|_=>none
 |_=>none,λ_ _=>none,λ_ _=>none⟩
def KR4:Kt:=kOr 94 t6 <|
 kOr 262 t7 KR3
def KPm:KPt:=pOr 203 (A4 [.val I,.val I] λ(_,e,_)=>⟨True,isZero e,AE 40 e⟩) Go.Eng.noP
noncomputable def mkp(K:Kt)(e:Tmp->Bool)(f:KPt)(b:FuncId->Bool):Cfg:=⟨yv,G0,K,e,KI0,false,f,b⟩
def cW:Cfg:=mkp KR4 (λt=>t==19) KPm (λf=>f==203)
def aJV:ai yv G0 KR4:=af SS<|af SU aG7
def aAB:bJ yv G0 KPm:=jL (lg λ(v,e,_)=>(SQ v e).2) tG
def aHk(d:List Stop)(o t:Int)(z:Stop):(wSt (d,o,t)).getD d.length z=(o,t,-1,-1):=by simp[wSt,qA]
def aHj(d:List Stop)(o t:Int)(v:Stop):(wSt (d,o,t)).set d.length v=d++[v]:=by simp[wSt]
def aIX(d:List Stop)(v z:Stop):(d++[v]).getD d.length z=v:=by simp[qA]
def aIW(d:List Stop)(v w:Stop):(d++[v]).set d.length w=d++[w]:=by simp
def aD4(d:List Stop)(o t:Int):(wSt (d,o,t)).length=d.length+1:=by simp[wSt]
def dW{e:Int}:isZero e=true↔e=0:=by simp[isZero]
def gq{e:Int}:isZero e=false↔e≠0:=by simp[isZero]
def aK(j:LC)(e b:LB)(i:Lo)(f:Ll)(g:Lk)(h:aS (j,e,b,i,f,g)=true):noF (j,e,b,i,f,g)=true:=((D8 j e b i f g).1 (zB.1 h)).1
def mr{c:Int×List Bool×Li}{m t:Int}(r:aA c.1 c.2.1 c.2.2=true)(v:mS c m t=0)(A:0<=m)(y:m<=1439):t<=jf c m t/\jf c m t<=t+90000:=by
 obtain⟨z,w,h⟩:=c;obtain⟨⟨j,i,_,_⟩,_⟩:=bD.1 r;have b:d5 w h (d0F (z,w,h) m t)=0:=v;obtain⟨g,f,_⟩:=qt b;have e:jf (z,w,h) m t=dE z (ff w h (d0F (z,w,h) m t)) m:=if_pos b;rw[e];unfold dE;generalize ff w h (d0F (z,w,h) m t)=x at *;have hd:d0F (z,w,h) m t=if m<(t+z)%1440 then(t+z)/1440+1 else(t+z)/1440:=rfl;rw[hd]at g f;simp only at j i;split at g<;>rename_i u<;>simp only[u,kT,xW]at f<;>omega
def oD(j:LC)(e b:LB)(i:Lo)(f:Ll)(g:Lk){l t:Int}(x:RL (j,e,b,i,f,g) l)(r:uW (j,e,b,i,f,g) l t=0):0<=t/\t<=2000000/\t<=pS (j,e,b,i,f,g) l t/\pS (j,e,b,i,f,g) l t<=t+90000:=by
 obtain⟨g1,g2,g3,g4,G,A,V,T⟩:=yd j e b i f g x;have z:jm (j,e,b,i,f,g) (bT (j,e,b,i,f,g) l):=⟨x.1,g1,g2⟩;have y:=(fJ j e b i f g z).2.2.1;have u:bS t=true:=by
  cases h:bS t with
  |true=>rfl|false=>unfold uW at r;rw[h]at r;cases r
 have v:0<=t/\t<=2000000:=vT u;have O:pS (j,e,b,i,f,g) l t=jf (aB (j,e,b,i,f,g) (bT (j,e,b,i,f,g) l)) (yb (j,e,b,i,f,g) l) t:=if_pos u;have L:uW (j,e,b,i,f,g) l t=mS (aB (j,e,b,i,f,g) (bT (j,e,b,i,f,g) l)) (yb (j,e,b,i,f,g) l) t:=if_pos u;rw[L]at r;rw[O];exact⟨v.1,v.2,mr y r G A⟩
def Bf{n:Net}{nx:Lj}{to o t:Int}(k:Nat)(h:o=to):lj n nx to k o t=([(o,t,-1,-1)],0):=by cases k<;>exact if_pos h
def lu{n:Net}{nx:Lj}{to o t:Int}(k:Nat)(h:o≠to)(b:nxt nx o to=-1):lj n nx to k o t=([],170):=by cases k<;>(unfold lj;rw[if_neg h,if_pos b])
def po{n:Net}{nx:Lj}{to o t:Int}(k:Nat)(h:o≠to)(e:nxt nx o to≠-1)(b:uW n (nxt nx o to) (aF n o t)≠0):lj n nx to k o t=([],uW n (nxt nx o to) (aF n o t)):=by cases k<;>(unfold lj;rw[if_neg h,if_neg e,if_neg b])
def nR{n:Net}{nx:Lj}{to o t:Int}(h:o≠to)(e:nxt nx o to≠-1)(b:uW n (nxt nx o to) (aF n o t)=0):lj n nx to 0 o t=([],170):=by unfold lj;rw[if_neg h,if_neg e,if_pos b]
def nQ{n:Net}{nx:Lj}{to o t:Int}(k:Nat)(h:o≠to)(e:nxt nx o to≠-1)(b:uW n (nxt nx o to) (aF n o t)=0):
  lj n nx to (k+1) o t=BL [(o,t,pS n (nxt nx o to) (aF n o t),nxt nx o to)] (lj n nx to k (x9 n (nxt nx o to)) (pS n (nxt nx o to) (aF n o t)+ix n (nxt nx o to))):=by
 rw[lj,if_neg h,if_neg e,if_pos b];rfl
def FH{d:List Stop}{r:List Stop×Int}(h:r.2≠0):(BL d r).2=r.2:=by unfold BL;rw[if_neg h]
def FD{d:List Stop}{r:List Stop×Int}(h:r.2=0):BL d r=(d++r.1,0):=by unfold BL;rw[if_pos h]
def va(d e:List Stop)(r:List Stop×Int):BL d (BL e r)=BL (d++e) r:=by
 unfold BL;by_cases h:r.2=0;simp[h];simp[h]
def FG{n:Net}{nx:Lj}{to:Int}:∀(k:Nat) (o t:Int),BL [] (lj n nx to k o t)=lj n nx to k o t:=λk o t=>by
 by_cases h:o=to;rw[Bf k h];rfl;by_cases e:nxt nx o to=-1;rw[lu k h e];rfl;by_cases b:uW n (nxt nx o to) (aF n o t)=0;cases k with
 |zero=>rw[nR h e b];rfl|succ k=>rw[nQ k h e b,va];rfl
 rw[po k h e b];unfold BL;rw[if_neg b]
def dJ(u:LC)(i g:LB)(b:Lo)(f:Ll)(j:Lk){nx:Lj}(r:l8 (u,i,g,b,f,j) nx=true){o d:Int}(G:0<=o)(A:o<b.length)(O:0<=d)(L:d<b.length):(nx.length:Int)=b.length/\((nx.getD o.toNat []).length:Int)=b.length/\(nxt nx o d≠-1->(0<=nxt nx o d/\nxt nx o d<f.length)/\bT (u,i,g,b,f,j) (nxt nx o d)=o):=by
 have y:(nx.length:Int)=b.length:=by
  unfold l8 at r;simp only[qC,qE]at r;exact r.1
 have h:=(pu (n:=(u,i,g,b,f,j)) y).1 r o.toNat Z;have x:((nx.getD o.toNat []).length:Int)=b.length:=by
  unfold rowOk at h;simp only[qC,qE]at h;exact h.1
 refine⟨y,x,λv=>?_⟩;have e:=(qm (n:=(u,i,g,b,f,j)) x).1 h d.toNat Z;unfold br cY at e;simp only[yH,qC,qE]at e;rcases e with e|⟨e,z⟩;exact absurd e v;exact⟨e,z.trans Z⟩
def au{x:Int}(h:-1000000000000<=x/\x<=1000000000000):inR .i64 x:=by unfold inR;simp only;omega
def SN(nx:Lj)(o to t:Int)(j:LC)(f e:LB)(i:Lo)(b:Ll)(g:Lk):ah yv G0 202 [.ip N (j,f,e,i,b,g),.dat M nx,.dat I o,.dat I to,.dat I t] [] ⟨Az (j,f,e,i,b,g) nx o to t/\isZero (ib (j,f,e,i,b,g) nx o to t)=true,.dat (.sl Stp) (gA (j,f,e,i,b,g) nx o to t),[]⟩/\dA yv G0 202 [.ip N (j,f,e,i,b,g),.dat M nx,.dat I o,.dat I to,.dat I t] [] ⟨Az (j,f,e,i,b,g) nx o to t,isZero (ib (j,f,e,i,b,g) nx o to t),AE 40 (ib (j,f,e,i,b,g) nx o to t)⟩:=by
 refine zC (c:=cW) (A:=(aHh (j,f,e,i,b,g) nx o to t)) (q:=⟨Az (j,f,e,i,b,g) nx o to t,isZero (ib (j,f,e,i,b,g) nx o to t),AE 40 (ib (j,f,e,i,b,g) nx o to t)⟩) aJV gC hm aAB (p:=let h:=(j,f,e,i,b,g);let V:=((-1:Int),(-1:Int));let G:=((0:Int),(0:Int),(0:Int),(0:Int));let X:=ib h nx o to t;let O:=isZero X;let T:=chainOf (Value.iface 40 (Value.int .i64 X));let c7:=(ByteArray.mk #[],(0:Int),G);true/\(Az h nx o to t->(∃(x:List Stop×Int×Int),RJ h nx o to t x/\T6 h nx o to t Z0 (1=Dk (wSt x)/\0=Df x.1/\T4 o t o t (-1:Int) (-1:Int) 1 ([(o,t,V)]=wSt x/\True)))/\∀(x:List (Int×Int×Int×Int)×Int×Int),let r:=Dk (wSt x);let v:=Df x.1;let c10:=Dc v;let c11:=Du (wSt x) c10 G;let A:=c11.1;let c13:=Dw A to;let c14:=Du nx (Dc A) [];let u:=Du c14 (Dc to) 0;let c16:=Eb u (-1);let c17:=c11.2;let z:=Em (wSt x) c10 (A,c17.1,c17.2.1,u);let c19:=Du z c10 G;let c20:=c19.1;let c21:=c19.2;let c22:=c21.1;let c23:=aF h c20 c22;let c24:=uW h u c23;let c25:=isZero c24;let L:=Em z c10 (c20,c22,pS h u c23,c21.2.2);let c27:=Eb (Int.ofNat r) 20;let c28:=(Du b (Dc u) c7).2.2;let c29:=(Du L c10 G).2.2.1+c28.2.2.1;let c30:=[(c28.1,c29,V)];let c31:=r+Dk c30;let c32:=v+1;
  RJ h nx o to t x->r=r/\0<=v/\v<Ea r/\L5 r r ((c13->r=r/\0<=v/\v<Ea r/\Q2 r r r (0<=A/\A<Df nx/\0<=to/\to<Df c14/\(c16->(true->True/\(false=false->O=false/\true/\chainOf (Value.iface 40 (Value.int .i64 (170:Int)))=T))/\True)/\(c16=false->Q2 r r r (Dk z=r/\Dk z=r/\Dk z=r/\Dk z=r/\Dk z=r/\Dk z=r/\iq h c20 c22/\RL h u/\True/\(c25->Dk z=r/\Dk z=r/\Dk z=r/\Dk z=r/\Dk z=r/\Dk z=r/\iq h c20 c22/\RL h u/\(True/\c25)/\Dk z=r/\Dk z=r/\Dk z=r/\Dk L=r/\(c27->(true->True/\(false=false->O=false/\true/\chainOf (Value.iface 40 (Value.int .i64 (170:Int)))=T))/\True)/\(c27=false->0<=u/\u<Df b/\T2 1 0 1 1 0 (Dk L=r/\Dk L=r/\Dk L=r/\Q2 1 1 0 (inR .i64 c29/\Dk L=r/\(c31*32)<=140737488355328/\c31<=9223372036854775807/\inR .i64 c32/\∃(y:List Stop×Int×Int),let c33:=Df y.1;RJ h nx o to t y/\(T6 h nx o to t Z0 (c31=Dk (wSt y)/\c32=c33/\T4 o t o t (-1:Int) (-1:Int) 1 (Ee L c30=wSt y/\True)))/\Dc (20-c33)<Dc (20-v)))))/\(c25=false->O=false/\true/\chainOf (Value.iface 40 (Value.int .i64 c24))=T)))))/\(c13=false->O/\r=r/\wSt x=gA h nx o to t/\True)))) ⟨rfl,λhp=>?_⟩
 refine Z9 ?_;refine⟨?_,?_⟩;exact⟨([],o,t),⟨hp,by simp,(FG 19 o t).symm⟩,rfl,rfl,rfl⟩;rintro⟨d,u,v⟩ hx;simp only[aHk,aHj,aIX,aIW,aD4,qF,qL,yD];obtain⟨⟨hs,ht,u0,u1,o0,o1,v0,v1⟩,hd,hw⟩:=hx;simp only at u0 u1 o0 o1 v0 v1 hd hw;have hno:=aK j f e i b g hs;obtain⟨c1,c2,c3⟩:=dJ j f e i b g ht u0 u1 o0 o1;have ec:(nx.getD u.toNat []).getD to.toNat 0=nxt nx u to:=rfl;rw[ec];generalize G:nxt nx u to=X at *;have hoff:jm (j,f,e,i,b,g) u:=⟨hno,u0,u1⟩;have hW:ib (j,f,e,i,b,g) nx o to t=(BL d (lj (j,f,e,i,b,g) nx to (19-d.length) u v)).2:=by unfold ib;rw[hw]
 have hL:gA (j,f,e,i,b,g) nx o to t=(BL d (lj (j,f,e,i,b,g) nx to (19-d.length) u v)).1:=by unfold gA;rw[hw]
 have O:u≠to->lj (j,f,e,i,b,g) nx to (19-d.length) u v=([],170)->isZero (ib (j,f,e,i,b,g) nx o to t)=false/\chainOf (Value.iface 40 (Value.int .i64 170))=chainOf (AE 40 (ib (j,f,e,i,b,g) nx o to t)):=λ_ h=>by
  have:ib (j,f,e,i,b,g) nx o to t=170:=by rw[hW,h];rfl
  rw[this];exact⟨rfl,rfl⟩
 refine⟨Z,Z,λV=>⟨Z,Z,u0,by rw[c1];exact u1,o0,by rw[c2];exact o1,λhm=>O V (lu _ V (G.trans hm)),λhm=>?_⟩,λhe=>?_⟩;have hm':nxt nx u to≠-1:=by rw[G];exact hm
 obtain⟨⟨l0,l1⟩,lf⟩:=c3 hm;have T:RL (j,f,e,i,b,g) X:=⟨hno,l0,l1⟩;have hr:iq (j,f,e,i,b,g) u v:=⟨hoff,Z,Z⟩;refine⟨hr,T,λhz=>⟨hr,T,hz,λh20=>O V ?_,λh20=>?_⟩,λhz=>?_⟩;rw[show 19-d.length=0 by omega];exact nR V hm' (by rw[G];exact dW.1 hz);have hz0:=dW.1 hz;obtain⟨b1,b2,b3,b4⟩:=oD j f e i b g T hz0;obtain⟨g1,g2,g3,g4,g5,g6,g7,g8⟩:=yd j f e i b g T;have et:(b.getD X.toNat (⟨#[]⟩,0,0,0,0,0)).2.2.2.2.1=ix (j,f,e,i,b,g) X:=rfl;have eo:(b.getD X.toNat (⟨#[]⟩,0,0,0,0,0)).2.2.1=x9 (j,f,e,i,b,g) X:=rfl;rw[et,eo];have hnx:=nQ (n:=(j,f,e,i,b,g)) (nx:=nx) (to:=to) (o:=u) (t:=v) (19-(d.length+1)) V hm' (by rw[G];exact hz0);rw[show 19-(d.length+1)+1=19-d.length by omega,G]at hnx;refine⟨l0,l1,au Z,Z,Z,au Z,(d++[(u,v,pS (j,f,e,i,b,g) X (aF (j,f,e,i,b,g) u v),X)],x9 (j,f,e,i,b,g) X,pS (j,f,e,i,b,g) X (aF (j,f,e,i,b,g) u v)+ix (j,f,e,i,b,g) X),⟨⟨hs,ht,g3,g4,o0,o1,by simp only;omega,by simp only;omega⟩,by simp;omega,?_⟩,⟨by rw[aD4];simp,by simp,rfl⟩,by simp;omega⟩;show lj (j,f,e,i,b,g) nx to 19 o t=_;rw[hw,hnx,va];simp;have hz0:=gq.1 hz;have:=po (n:=(j,f,e,i,b,g)) (nx:=nx) (to:=to) (o:=u) (t:=v) (19-d.length) V hm' (by rw[G];exact hz0);rw[G]at this;have:ib (j,f,e,i,b,g) nx o to t=uW (j,f,e,i,b,g) X (aF (j,f,e,i,b,g) u v):=by rw[hW,this];exact FH hz0
 rw[this];exact⟨hz,rfl⟩;have:=Bf (n:=(j,f,e,i,b,g)) (nx:=nx) (to:=to) (o:=u) (t:=v) (19-d.length) he;rw[hW,hL,this];exact⟨rfl,rfl⟩
noncomputable def aDi(args:List AV)(m:Mem):Option jY:=match args,m with|[.ifc t (.dat (.int .i64) e)],[]=>if t=40 then some ⟨True,.dat I e,[]⟩else none|_,_=>none
noncomputable def KR5:Kt:=kOr 202 (aj [.ptr N,.val M,.val I,.val I,.val I] (λ(n,nx,o,b,t,_)=>Az n nx o b t/\isZero (ib n nx o b t)=true) λ(n,nx,o,b,t,_)=>.dat (.sl Stp) (gA n nx o b t)) KR4
noncomputable def KPw:KPt:=pOr 202 (A4 [.ptr N,.val M,.val I,.val I,.val I] λ(n,nx,o,e,t,_)=>⟨Az n nx o e t,isZero (ib n nx o e t),AE 40 (ib n nx o e t)⟩) <|
 pOr 205 (A4 [.val .bool] λ(b,_)=>⟨True,b,AE 40 1⟩) KPm
def aJU:ai yv G0 KR5:=af (ae λ((j,f,e,i,g,h),nx,o,b,t,_)=>(SN nx o b t j f e i g h).1) aJV
def aAA:bJ yv G0 KPw:=jL (lg λ((r,g,f,j,h,i),nx,o,e,t,_)=>(SN nx o e t r g f j h i).2)<|jL (lg λ(b,_)=>(Hn b).2) aAB
def ot{i l:Int}:cY i l=true↔0<=i/\i<l:=by unfold cY;simp
def aIV(w:List Bool)(h:Li):Nat->Int->Option Int|0,d=>some d|n+1,d=>(qu w h (d+1)).bind (aIV w h n)
def bC(n:Net)(k:Int):Cla:=n.2.2.2.2.2.getD k.toNat (⟨#[]⟩,0,0)
def uG(n:Net)(k:Int):Prop:=0<=k/\k<n.2.2.2.2.2.length
def aAi(n:Net)(k o t:Int):Int:=jf (aB n o) (bC n k).2.2 (aF n o t)
def aFT(n:Net)(k o t:Int):Int:=mS (aB n o) (bC n k).2.2 (aF n o t)
def Ba(n:Net)(k o t:Int):Bool:=((cY k n.2.2.2.2.2.length&&cY o n.2.2.2.1.length)&&bS t)&&aS n
def aAD(n:Net)(k o t:Int):Int:=if Ba n k o t=true then aAi n k o t else 0
def WG(n:Net)(k o t:Int):Int:=if Ba n k o t=true then aFT n k o t else 1
def YH(j:LC)(f e:LB)(i:Lo)(g:Ll)(b:Lk)(h:noF (j,f,e,i,g,b)=true):∀x∈b,lq x=true:=
 ((mq (by decide) (λl:Cla=>l.1) lq b).1 (ku j f e i g b h).2.2.2.2.2).2.2.2
def nJ(j:LC)(f e:LB)(i:Lo)(g:Ll)(b:Lk){k:Int}(h:noF (j,f,e,i,g,b)=true)(u:uG (j,f,e,i,g,b) k):(0<=(bC (j,f,e,i,g,b) k).2.1/\(bC (j,f,e,i,g,b) k).2.1<=1439)/\0<=(bC (j,f,e,i,g,b) k).2.2/\(bC (j,f,e,i,g,b) k).2.2<=1439:=by
 obtain⟨v,r⟩:=u;have r:k<(b.length:Int):=r;have hm:bC (j,f,e,i,g,b) k∈b:=by
  show b.getD k.toNat _∈b;rw[qA,qB Z,qK];exact wL _
 have:=YH j f e i g b h _ hm;unfold lq cP at this;simp only[qC,qE]at this;omega
def Xf{t:Int}:bS t=true↔0<=t/\t<=2000000:=by unfold bS;rw[qE]
def lI(j:LC)(e b:LB)(i:Lo)(f:Ll)(g:Lk){o t:Int}(h:jm (j,e,b,i,f,g) o):t+1<=aF (j,e,b,i,f,g) o t/\aF (j,e,b,i,f,g) o t<=t+960:=by
 obtain⟨_,_,_,g1,g2,g3,g4⟩:=fJ j e b i f g h;unfold aF;have u:1*1<=(bX (j,e,b,i,f,g) o).2.2.2.2.1*(bX (j,e,b,i,f,g) o).2.2.2.2.2.1:=kP g1 g3 (by decide) Z;have r:(bX (j,e,b,i,f,g) o).2.2.2.2.1*(bX (j,e,b,i,f,g) o).2.2.2.2.2.1<=4*240:=kP g2 g4 Z (by decide);omega
def aDw{w:List Bool}{h:Li}:∀(k:Nat) {d e:Int},aIV w h k d=some e->d<=e/\e<=d+61*k
 |0,d,e,g=>by cases g;omega
 |k+1,d,e,g=>by
  unfold aIV at g;obtain⟨y,b,f⟩:=qDr.1 g;have hm:y∈cD w h (d+1) 60:=qCk (by unfold qu at b;rw[b];rfl);have:=IL hm;have:=aDw k f;omega
def aGC(xs:Li)(k:Nat):Prop:=xs.length=k
def WY(xs b:Li):Prop:=xs.length+b.length<=1000000000000
def upR(l:Li)(b k:Int):Li:=(l.take k.toNat).map λx=>x+b
def upTo(l:Li)(k:Int):Prop:=0<=k/\k<=l.length
def rsP(b:Int)(l xs:Li)(k:Nat):Prop:=(xs.length=k/\xs.length+l.length<=1000000000000)/\-1000000<=b/\b<=1000000/\∀x∈l,-1000000000<=x/\x<=1000000000
def wHd(n:Net)(p:Plan)(a:AV):List AV:=[.dat (.sl C) n.1,.dat (.sl S) n.2.1,.dat (.sl S) n.2.2.1,.dat (.sl (.pair S (.pair I (.pair I (.pair I (.pair I (.pair I (.sl S)))))))) n.2.2.2.1,.dat (.sl (.pair S (.pair I (.pair I (.pair I (.pair I I)))))) n.2.2.2.2.1,.dat (.sl (.pair S (.pair I I))) n.2.2.2.2.2,.dat I p.1,.dat I p.2.1,.dat M p.2.2.1,.dat (.sl M) p.2.2.2,a]
def Kw(n:Net)(p:Plan)(k:Nat)(xs:Li):Mem:=[(2,.var (wHd n p (.buf 3 k))),(3,.buf 3 I xs [])]
def ji(t:Ty):AV->Option t.den|.dat t' x=>if h:t'=t then some (h▸x)else none|_=>none
def aG2:List AV->Option (Net×Plan×AV)
 |[L,G,A,z,y,x,v,u,r,b,a]=>match ji (.sl C) L,ji (.sl S) G,ji (.sl S) A,ji (.sl Of) z,ji (.sl Ln) y,ji (.sl Kl) x,ji I v,ji I u,ji M r,ji (.sl M) b with
  |some j,some f,some e,some i,some g,some h,some p1,some p2,some p3,some p4=>some ((j,f,e,i,g,h),(p1,p2,p3,p4),a)|_,_,_,_,_,_,_,_,_,_=>none
 |_=>none
def asW(m:Mem):Option (Net×Plan×Nat×Li):=match m with
 |[(2,.var cells),(3,.buf el b xs [])]=>match aG2 cells,ji R (.dat (.sl b) xs)with
  |some (n,p,.buf 3 k),some ys=>if el=3 then some (n,p,k,ys)else none|_,_=>none
 |_=>none
def aGR(a b:List AV->Mem->Option jY):List AV->Mem->Option jY:=λargs m=>match a args m with|some c=>some c|none=>b args m
def wK(l:List AK)(e:AKs l->Net->Plan->Nat->Li->Prop)(ret:AKs l->Net->Plan->AV)(b:AKs l->Net->Plan->Li)(args:List AV)(m:Mem):Option jY:=match asW m,ofK l args with|some (n,p,k,xs),some x=>some ⟨e x n p k xs,ret x n p,Kw n p (Ec k (Dk (b x n p))) (Ee xs (b x n p))⟩|_,_=>none
def wR(l:List AK)(b:AKs l->Net->Plan->Nat->Li->Prop)(ret:AKs l->Net->Plan->AV)(args:List AV)(m:Mem):Option jY:=match asW m,ofK l args with|some (n,p,k,xs),some x=>some ⟨b x n p k xs,ret x n p,[]⟩|_,_=>none
def wP(l:List AK)(q:AKs l->Net->Plan->Nat->Li->AH)(args:List AV)(m:Mem):Option AH:=match asW m,ofK l args with|some (n,p,k,xs),some x=>some (q x n p k xs)|_,_=>none
def asI:AV->Option (Net×Plan)
 |.ips cells=>match aG2 cells with
  |some (n,p,.top)=>some (n,p)|_=>none
 |_=>none
def wI(l:List AK)(b:AKs l->Net->Plan->Prop)(ret:AKs l->Net->Plan->AV)(args:List AV)(m:Mem):Option jY:=match m,args with
 |[],a::ar=>match asI a,ofK l ar with
  |some (n,p),some x=>some ⟨b x n p,ret x n p,[]⟩|_,_=>none
 |_,_=>none
abbrev OB:=wK [.mp 2,.val R] (λ(_,b,_) _ _ k e=>aGC e k/\WY e b) (λ_ _ _=>.tup []) λ(_,b,_) _ _=>b
def KW1:Kt:=kOr 105 OB KR2
def rsA(b:Int)(l xs:Li)(n:Net)(p:Plan):Ann:=Z8 1 Int (upTo l) (λs j=>{put (flat s) [(10,.dat I j)]with mem:=Kw n p (Ec (Dk xs) (Dk (upR l b j))) (Ee xs (upR l b j))}) λj=>Dc (Di (Df l) j)
abbrev yp:=wK [.mp 2,.val I,.val R] (λ(_,b,l,_) _ _ k e=>rsP b l e k) (λ_ _ _=>.tup []) λ(_,b,l,_) _ _=>upR l b (Df l)
def KW2:Kt:=kOr 106 yp KW1
abbrev IQ:=wR [.mp 2,.val I,.val I] (λ(_,o,t,_) n _ _ _=>iq n o t) λ(_,o,t,_) n _=>.dat I (aF n o t)
abbrev yi:=aj [.row C,.val I,.val I] (λ(c,m,t,_)=>MH c m t) λ(c,m,t,_)=>.tup [.dat I (jf c m t),.dat I (mS c m t)]
abbrev tL:=aj [.val I,.val I] (λ_=>True) λ(i,l,_)=>.dat .bool (cY i l)
abbrev IT:=wR [.mp 2,.val I,.val I] (λ_ _ _ _ _=>True) λ(_,c,o,_) _ _=>.fn 208 [.ipv (.ptr 2 1 0 0),.ip I o,.ip I c]
def KW3:Kt:=kOr 145 (aGR (wR [.mp 2,.val I] (λ(_,o,_) n _ _ _=>jm n o) λ(_,o,_) n _=>cal (aB n o).1 (aB n o).2.1 (aB n o).2.2) (wI [.val I] (λ(o,_) n _=>jm n o) λ(o,_) n _=>cal (aB n o).1 (aB n o).2.1 (aB n o).2.2)) <|
 kOr 148 IQ <|
 kOr 147 yi <|
 kOr 146 (aj [.val I,.val I] (λ(_,e,_)=>True/\isZero e=true) λ(v,_,_)=>.dat I v) <|
 kOr 207 tL <|
 kOr 143 IT KW2
def aJn:KPt:=pOr 146 (A4 [.val I,.val I] λ(_,e,_)=>⟨True,isZero e,AE 40 e⟩) Go.Eng.noP
def U4{P:Program}{G:List (Nat×AV)}{f:FuncId}{a b:List AV->Mem->Option jY}(g:∀args m c,a args m=some c->ah P G f args m c)(e:∀args m c,b args m=some c->ah P G f args m c):∀args m c,aGR a b args m=some c->ah P G f args m c:=by
 intro args m c h;unfold aGR at h;split at h;rename_i i;cases h;exact g _ _ _ i;exact e _ _ _ h
def bL{t:Ty}{a:AV}{x:t.den}(h:ji t a=some x):a=.dat t x:=by
 unfold ji at h;split at h;split at h;rename_i e;subst e;cases h;rfl;cases h;cases h
def Wq{l:List AV}{n:Net}{p:Plan}{a:AV}(h:aG2 l=some (n,p,a)):l=wHd n p a:=by
 unfold aG2 at h;split at h;split at h;rename_i v u r j i g f e h9 b;cases h;rw[bL v,bL u,bL r,bL j,bL i,bL g,bL f,bL e,bL h9,bL b];rfl;cases h;cases h
def Wn{m:Mem}{n:Net}{p:Plan}{k:Nat}{xs:Li}(h:asW m=some (n,p,k,xs)):m=Kw n p k xs:=by
 unfold asW at h;split at h;split at h;rename_i f b;split at h;rename_i e;cases h;rw[Wq f,e];have:=bL b;cases this;rfl;cases h;cases h;cases h
def aAs{a:AV}{n:Net}{p:Plan}(h:asI a=some (n,p)):a=.ips (wHd n p .top):=by
 unfold asI at h;split at h;split at h;rename_i b;cases h;rw[Wq b];cases h;cases h
def WZ{P:Program}{G:List (Nat×AV)}{f:FuncId}{l:List AK}{g:AKs l->Net->Plan->Nat->Li->Prop}{ret:AKs l->Net->Plan->AV}{b:AKs l->Net->Plan->Li}
  (h:∀x n p k e,ah P G f (avK l x) (Kw n p k e) ⟨g x n p k e,ret x n p,Kw n p (Ec k (Dk (b x n p))) (Ee e (b x n p))⟩):∀args m c,wK l g ret b args m=some c->ah P G f args m c:=by
 intro args m c i;unfold wK at i;split at i;rename_i n p k e x u r;cases i;rw[Wn u];exact(h x n p k e).args λC v _ j=>fZ r j;cases i
def aAI{P:Program}{G:List (Nat×AV)}{f:FuncId}{l:List AK}{b:AKs l->Net->Plan->Nat->Li->Prop}{ret:AKs l->Net->Plan->AV}
  (h:∀x n p k e,ah P G f (avK l x) (Kw n p k e) ⟨b x n p k e,ret x n p,[]⟩):∀args m c,wR l b ret args m=some c->ah P G f args m c:=by
 intro args m c g;unfold wR at g;split at g;rename_i n p k e x r j;cases g;rw[Wn r];exact(h x n p k e).args λC u _ i=>fZ j i;cases g
def aD6{P:Program}{G:List (Nat×AV)}{f:FuncId}{l:List AK}{q:AKs l->Net->Plan->Nat->Li->AH}(h:∀x n p k b,dA P G f (avK l x) (Kw n p k b) (q x n p k b)):∀args m r,wP l q args m=some r->dA P G f args m r:=by
 intro args m r e;unfold wP at e;split at e;rename_i n p k b x L A;cases e;rw[Wn L];exact λj u w D E g z y i v=>h x n p k b j u w D E g z y (fZ A i) v;cases e
def aHl{P:Program}{G:List (Nat×AV)}{f:FuncId}{l:List AK}{g:AKs l->Net->Plan->Prop}{ret:AKs l->Net->Plan->AV}
  (h:∀x n p,ah P G f (.ips (wHd n p .top)::avK l x) [] ⟨g x n p,ret x n p,[]⟩):∀args m c,wI l g ret args m=some c->ah P G f args m c:=by
 intro args m c b;unfold wI at b;split at b;split at b;rename_i n p x v r;cases b;rw[aAs v];refine(h x n p).args λC y _ j=>?_;obtain⟨u,i,e,g1,g2⟩:=j;exact⟨u,i,e,g1,fZ r g2⟩;cases b;cases b
def aHJ:eO 105 OB:=WZ λ(_,(e:Li),_) (n:Net) (p:Plan) (k:Nat) (b:Li)=>by
 refine zE (A:=az) (p:=let g:=n.2.2.2;let h:=Dk (Ee b e);let f:=k+Dk e;(aGC b k/\WY b e->1=1/\Dk b<=h/\Q3 1 1 1 0 (Dk b=k/\(f*8)<=140737488355328/\f<=9223372036854775807/\Q3 1 1 1 0 (h=f/\L3 n.1 n.2.1 n.2.2.1 g.1 g.2.1 g.2.2 p.1 p.2.1 p.2.2.1 (v6 p.2.2.2 f (Ee b e) 1 (Dk b)))))) EE λ⟨f,g⟩=>?_;have f:b.length=k:=f;have g:b.length+e.length<=1000000000000:=g;refine Z9 ?_;simp only[qc,qF];exact⟨Z,f,Z,Z,Z⟩
def aJQ:ai yv G0 KW1:=af aHJ EE
def RY{l:Li}{b k:Int}(h:upTo l k):(upR l b k).length=k.toNat:=by
 unfold upR;rw[vG,qP];have:=h.1;have:=h.2;omega
def EJ{l:Li}{b k:Int}(f:0<=k)(e:k<l.length):upR l b (k+1)=upR l b k++[l.getD k.toNat 0+b]:=by
 unfold upR;rw[show(k+1).toNat=k.toNat+1 by omega,wW,qA,qB (show k.toNat<l.length by omega),zZ];rfl
def Xw:eO 106 yp:=WZ λ(_,(b:Int),(l:Li),_) (n:Net) (p:Plan) (k:Nat) (e:Li)=>by
 refine zE (A:=(lvA [(1,[0,1,7,8,9,10])] (rsA b l e n p))) (p:=let A:=n.2.1;let G:=p.2.1;let L:=n.2.2.1;let i:=p.2.2;let j:=n.2.2.2;let O:=upR l b (Df l);let T:=Ee e O;(rsP b l e k->1=1/\Dk e<=Dk T/\(∃x,upTo l x/\T6 1 0 0 b l (Df l) (0=x/\L3 n.1 A L j.1 j.2.1 j.2.2 p.1 G i.1 (i.2=i.2/\k=Dk e+Dk (upR l b x)/\e=Ee e (upR l b x)/\T7 1 (Dk e))))/\∀(x:Int),let z:=Dn x (Df l);let v:=Du l (Dc x) 0+b;let f:=Ee e (upR l b x);let h:=Dk e+Dk (upR l b x);let g:=[v];let u:=Ee f g;let r:=x+1;upTo l x->(z->0<=x/\x<Df l/\inR .i64 v/\(aGC f h/\WY f g)/\1=1/\Dk f<=Dk u/\inR .i64 r/\∃y,upTo l y/\(T6 1 0 0 b l (Df l) (r=y/\L3 n.1 A L j.1 j.2.1 j.2.2 p.1 G i.1 (i.2=i.2/\h+Dk g=Dk e+Dk (upR l b y)/\u=Ee e (upR l b y)/\T7 1 (Dk e))))/\Dc (Df l-y)<Dc (Df l-x))/\(z=false->L3 n.1 A L j.1 j.2.1 j.2.2 p.1 G i.1 (i.2=i.2/\h=k+Dk O/\f=T/\T7 1 (Dk e))))) aJQ λV=>?_;refine Z9 ?_;simp only[qc,qF];obtain⟨⟨hk,hr⟩,b0,b1,X⟩:=V;have eN:upTo l l.length:=⟨qI _,qH _⟩;refine⟨Z,⟨0,⟨qH _,qI _⟩,rfl,by show k=e.length+0;omega,(wB _).symm⟩,λx G=>⟨λj=>?_,λhge=>?_⟩⟩;have L:=G.1;have e1:=RY (b:=b) G;have O:=EJ (b:=b) L j;have hv:=X _ (getD_mem (l:=l) (i:=x.toNat) (d:=0) Z);refine⟨L,j,au Z,⟨by show(e++upR l b x).length=_;rw[qF],by show(e++upR l b x).length+_<=1000000000000;rw[qF,qL];omega⟩,Z,au Z,x+1,⟨Z,Z⟩,⟨rfl,by rw[O,qF];rfl,by rw[O,vO]⟩,Z⟩;have T:=G.2;have:x=l.length:=Z;rw[this,RY eN];exact⟨Z,rfl⟩
def aKS:ai yv G0 KW2:=af Xw aJQ
def aEf(o:Int)(k:Nat)(xs:Li)(n:Net)(p:Plan):ah yv G0 145 [.ptr 2 1 0 0,.dat I o] (Kw n p k xs) ⟨jm n o,cal (aB n o).1 (aB n o).2.1 (aB n o).2.2,[]⟩:=by
 refine zE (A:=az) (p:=let b:=n.2.2.2;let e:=(Du b.1 (Dc o) (ByteArray.mk #[],(0:Int),(0:Int),(0:Int),(0:Int),(0:Int),Dt ByteArray)).2.2.1;let f:=Du n.1 (Dc e) ((0:Int),Dt Bool,Dt Int);let g:=(aB n o).2;(jm n o->L3 1 1 1 1 0 1 1 1 1 (0=0/\0<=o/\o<Df b.1/\0<=e/\e<Df n.1/\Q3 1 0 1 0 (f.1=(aB n o).1/\f.2.1=g.1/\f.2.2=g.2/\L3 n.1 n.2.1 n.2.2.1 b.1 b.2.1 b.2.2 p.1 p.2.1 p.2.2.1 (v6 p.2.2.2 k xs 1 (Dk xs)))))) EE λb=>?_;obtain⟨j,f,e,i,g,h⟩:=n;obtain⟨g1,g2,_⟩:=fJ j f e i g h b;refine Z9 ?_;exact⟨b.2.1,b.2.2,g1,g2,rfl,rfl,rfl⟩
def aAW(o:Int)(n:Net)(p:Plan):ah yv G0 145 [.ips (wHd n p .top),.dat I o] [] ⟨jm n o,cal (aB n o).1 (aB n o).2.1 (aB n o).2.2,[]⟩:=by
 refine zE (A:=az) (p:=let b:=(Du n.2.2.2.1 (Dc o) (ByteArray.mk #[],(0:Int),(0:Int),(0:Int),(0:Int),(0:Int),Dt ByteArray)).2.2.1;let e:=Du n.1 (Dc b) ((0:Int),Dt Bool,Dt Int);let f:=(aB n o).2;(jm n o->0<=o/\o<Df n.2.2.2.1/\0<=b/\b<Df n.1/\Q3 1 0 1 0 (e.1=(aB n o).1/\e.2.1=f.1/\e.2.2=f.2/\True))) EE λb=>?_;obtain⟨j,f,e,i,g,h⟩:=n;obtain⟨g1,g2,_⟩:=fJ j f e i g h b;refine Z9 ?_;exact⟨b.2.1,b.2.2,g1,g2,rfl,rfl,rfl⟩
def xg(i:LC)(e b:LB)(h:Lo)(f:Ll)(g:Lk){o t:Int}(j:iq (i,e,b,h,f,g) o t):inR .i64 ((bX (i,e,b,h,f,g) o).2.2.2.2.1*(bX (i,e,b,h,f,g) o).2.2.2.2.2.1)/\inR .i64 (aF (i,e,b,h,f,g) o t)/\t<=aF (i,e,b,h,f,g) o t/\aF (i,e,b,h,f,g) o t<=t+960:=by
 obtain⟨r,A,z⟩:=j;obtain⟨_,_,_,g1,g2,g3,g4⟩:=fJ i e b h f g r;unfold aF;generalize (bX (i,e,b,h,f,g) o).2.2.2.2.1=x at *;generalize (bX (i,e,b,h,f,g) o).2.2.2.2.2.1=y at *;have v:0<=x*y:=qAm Z Z;have u:x*y<=4*240:=kP g2 g4 Z Z;exact⟨au Z,au Z,Z,Z⟩
def aEd:eO 148 IQ:=aAI λ(_,(o:Int),(t:Int),_) (n:Net) (p:Plan) (k:Nat) (e:Li)=>by
 refine zE (A:=az) (p:=let b:=n.2.2.2;let f:=(Du b.1 (Dc o) (ByteArray.mk #[],(0:Int),(0:Int),(0:Int),(0:Int),(0:Int),Dt ByteArray)).2.2.2.2;let g:=f.1*f.2.1;let h:=t+g;(iq n o t->T2 1 1 1 1 0 (0<=o/\o<Df b.1/\T2 1 1 1 1 0 (0<=o/\o<Df b.1/\inR .i64 g/\inR .i64 h/\h=aF n o t/\L3 n.1 n.2.1 n.2.2.1 b.1 b.2.1 b.2.2 p.1 p.2.1 p.2.2.1 (v6 p.2.2.2 k e 1 (Dk e)))))) EE λb=>?_;obtain⟨v,i,h,u,j,r⟩:=n;obtain⟨g,f,_⟩:=xg v i h u j r b;refine Z9 ?_;exact⟨b.1.2.1,b.1.2.2,b.1.2.1,b.1.2.2,g,f,rfl⟩
def Xo:eO 147 yi:=ae λ((c:C.den),(m:Int),(t:Int),_)=>by
 obtain⟨z,w,h⟩:=c;refine zE (A:=az) (p:=let j:=(z,w,h);let r:=Dn m (ID z t);let b:=bE z t+1;let u:=d5 w h b;let v:=Dw u 0;let e:=jf j m t;let f:=mS j m t;let L:=ff w h b;let x:=d5 w h (bE z t);let i:=Dw x 0;let g:=ff w h (bE z t);(MH j m t->dK z w h t/\(r->inR .i64 b/\aAt z w h b/\(v->0=e/\u=f/\True)/\(v=false->jk z w h L m/\dE z L m=e/\0=f/\True))/\(r=false->aAt z w h (bE z t)/\(i->0=e/\x=f/\True)/\(i=false->jk z w h g m/\dE z g m=e/\0=f/\True)))) EE λG=>?_;obtain⟨b1,b2⟩:=VJ G;obtain⟨j,T,O,X,V⟩:=id G;refine Z9 ?_;have b:∀d,d=d0F (z,w,h) m t->aAt z w h d/\(¬d5 w h d=0->(0:Int)=jf (z,w,h) m t/\d5 w h d=mS (z,w,h) m t)/\(d5 w h d=0->jk z w h (ff w h d) m/\dE z (ff w h d) m=jf (z,w,h) m t/\(0:Int)=mS (z,w,h) m t):=by
  rintro d rfl;refine⟨⟨j,dj Z Z⟩,λf=>⟨(if_neg f).symm,rfl⟩,λf=>?_⟩;obtain⟨y,x,v⟩:=qt f;exact⟨⟨j,dj Z Z,T,O⟩,(if_pos f).symm,f.symm⟩
 refine⟨⟨j,Z,Z⟩,λr=>?_,λu=>?_⟩;have e:bE z t+1=d0F (z,w,h) m t:=(if_pos r).symm;obtain⟨y,x,v⟩:=b _ e;exact⟨by unfold inR;simp only;omega,y,x,v⟩;have e:bE z t=d0F (z,w,h) m t:=(if_neg u).symm;exact b _ e
def Sm(v e:Int):ah yv G0 146 [.dat I v,.dat I e] [] ⟨True/\isZero e=true,.dat I v,[]⟩/\dA yv G0 146 [.dat I v,.dat I e] [] ⟨True,isZero e,AE 40 e⟩:=by
 refine zC (c:=mkc KR2) (A:=az) (q:=⟨True,isZero e,AE 40 e⟩) EE gC hm tG (p:=let b:=Dw e 0;let f:=chainOf (Value.iface 40 (Value.int .i64 e));true/\(True->(b->(true->True/\(false=false->isZero e=false/\true/\f=f))/\True)/\(b=false->isZero e/\T3 v))) ⟨rfl,λ_=>⟨λh=>⟨λ_=>⟨trivial,λ_=>⟨?_,rfl,rfl⟩⟩,trivial⟩,λh=>⟨?_,rfl,trivial⟩⟩⟩;unfold isZero;simpa[Dw]using h;unfold isZero;simpa[Dw]using h
def aAV(e:Int):ah yv G0 103 [.ifc 40 (.dat I e)] [] ⟨True,.dat I e,[]⟩:=
 zE (A:=az) (p:=(True->(true->T3 e)/\(true=false->1=e/\True))) EE λ_=>⟨λ_=>⟨rfl,trivial⟩,λh=>by cases h⟩
def Sz:eO 207 tL:=ae λ((i:Int),(l:Int),_)=>by
 refine zE (A:=az) (p:=let b:=Ed i 0;(True->L7 b ((Dh true b->b)/\Dz b (Dn i l) false=cY i l/\True))) EE λ_=>⟨λh _=>h,λh _=>h,λh=>by simpa[Dh]using h,?_,trivial⟩;unfold cY;simp only[Dz,Ed,Dn,kQ];by_cases h:0<=i<;>simp[h]
def aEe:eO 143 IT:=aAI λ(_,(c:Int),(o:Int),_) (n:Net) (p:Plan) (k:Nat) (b:Li)=>by
 refine zE (A:=az) (p:=let e:=n.2.2.2;(True->1=1/\0=0/\0=0/\o=o/\c=c/\n.1=n.1/\n.2.1=n.2.1/\n.2.2.1=n.2.2.1/\e.1=e.1/\e.2.1=e.2.1/\e.2.2=e.2.2/\p.1=p.1/\p.2.1=p.2.1/\p.2.2.1=p.2.2.1/\p.2.2.2=p.2.2.2/\k=k/\b=b/\1=1/\Dk b=Dk b/\True)) EE λ_=>?_;refine Z9 ?_;trivial
def aDY:ai yv G0 KW3:=af (U4 (aAI λ(_,o,_) n p k b=>aEf o k b n p) (aHl λ(o,_) n p=>aAW o n p))<|af aEd<|af Xo<|af (ae λ(v,e,_)=>(Sm v e).1)<|af Sz<|af aEe aKS
def WA:bJ yv G0 aJn:=jL (lg λ(v,e,_)=>(Sm v e).2) tG
end Go.Eng.Sv
