/- SvT -/
set_option linter.unusedSimpArgs false
set_option linter.unusedVariables false
namespace Go.Eng.Sv
abbrev Line:=ByteArray×Int×Int×Int×Int×Int
abbrev Ll:=List Line
def bw(l:Line):Int:=l.2.1
def lTo(l:Line):Int:=l.2.2.1
def lAt(l:Line):Int:=l.2.2.2.1
def aV(l:Line):Int:=l.2.2.2.2.1
def cell(xs:List Int)(a b:Nat):Int:=xs.getD (a*12+b) 0
def eX(xs:List Int)(a b len:Int):List Int:=
 bif decide (cell xs a.toNat b.toNat=-1)||decide (len<cell xs a.toNat b.toNat)then xs.set (a.toNat*12+b.toNat) len else xs
def JR:List Int:=(List.range 144).map λi=>if i/12=i%12 then 0 else -1
def pV(ls:Ll):List Int:=ls.foldl (λf l=>eX f (bw l) (lTo l) (aV l)) JR
def BB(xs:List Int)(q:Nat):List Int:=
 bif (cell xs (q/12%12) (q/144) != -1)&&(cell xs (q/144) (q%12) != -1)then eX xs (q/12%12:Nat) (q%12:Nat) (cell xs (q/12%12) (q/144)+cell xs (q/144) (q%12))else xs
def fwN(ls:Ll)(k:Nat):List Int:=(List.range k).foldl BB (pV ls)
def cD(ls:Ll):List Int:=fwN ls 1728
structure bM(n:Nat)(ls:Ll):Prop where
 n12:n<=12
 at_:∀l∈ls,0<=bw l/\bw l<n/\0<=lTo l/\lTo l<n/\bw l≠lTo l/\1<=aV l/\aV l<=5000
theorem XO{xs:List Int}{a b c d:Nat}{x:Int}(j:b<12)(hd:d<12)(f:a*12+b<xs.length):
  cell (xs.set (a*12+b) x) c d=if c=a/\d=b then x else cell xs c d:=by
 unfold cell;rw[List.getD_eq_getElem?_getD,List.getElem?_set,List.getD_eq_getElem?_getD];by_cases h:c=a/\d=b;obtain⟨rfl,rfl⟩:=h;simp[f];rw[if_neg h,if_neg (by omega)]
theorem iK(xs:List Int)(a b len:Int):(eX xs a b len).length=xs.length:=by
 unfold eX;cases(decide (cell xs a.toNat b.toNat=-1)||decide (len<cell xs a.toNat b.toNat))<;>simp
theorem dS{xs:List Int}(j:xs.length=144){a b:Nat}(u:a<12)(f:b<12){len:Int}{c d:Nat}(hd:d<12):
  cell (eX xs a b len) c d=if c=a/\d=b/\(cell xs a b=-1\/len<cell xs a b)then len else cell xs c d:=by
 unfold eX;simp only[Int.toNat_natCast];by_cases h:cell xs a b=-1\/len<cell xs a b;have:(decide (cell xs a b=-1)||decide (len<cell xs a b))=true:=by simpa using h
 rw[this,cond_true,XO f hd (by omega)];by_cases e:c=a/\d=b;rw[if_pos e,if_pos ⟨e.1,e.2,h⟩];rw[if_neg e,if_neg λg=>e ⟨g.1,g.2.1⟩];have:(decide (cell xs a b=-1)||decide (len<cell xs a b))=false:=by
  rw[Bool.eq_false_iff];simpa using h
 rw[this,cond_false,if_neg λg=>h g.2.2]
theorem pU(ls:Ll):(pV ls).length=144:=by
 unfold pV;have:∀(ls:Ll) (f:List Int),(ls.foldl (λf l=>eX f (bw l) (lTo l) (aV l)) f).length=f.length:=by
  intro ls;induction ls with
  |nil=>intro f;rfl
  |cons l ls h=>intro f;rw[List.foldl_cons,h,iK]
 rw[this];rfl
theorem EL(xs:List Int)(q:Nat):(BB xs q).length=xs.length:=by
 unfold BB;cases(cell xs (q/12%12) (q/144) != -1)&&(cell xs (q/144) (q%12) != -1)<;>simp[iK]
theorem CO(ls:Ll)(k:Nat):fwN ls (k+1)=BB (fwN ls k) k:=by
 unfold fwN;rw[List.range_succ,List.foldl_append];rfl
theorem rA(ls:Ll):∀k,(fwN ls k).length=144|0=>pU ls|k+1=>by rw[CO,EL,rA ls k]
inductive Walk(ls:Ll):Nat->Nat->Int->Prop
 |nil (a:Nat):Walk ls a a 0
 |snoc {a:Nat}{n:Int} (l:Line):l∈ls->Walk ls a (bw l).toNat n->Walk ls a (lTo l).toNat (n+aV l)
inductive Wk(ls:Ll)(k:Nat):Nat->Nat->Int->Prop
 |refl (a:Nat):Wk ls k a a 0
 |edge (l:Line):l∈ls->Wk ls k (bw l).toNat (lTo l).toNat (aV l)
 |via {a b c:Nat}{m n:Int}:c<k->Wk ls k a c m->Wk ls k c b n->Wk ls k a b (m+n)
theorem Walk.trans{ls:Ll}{a b c:Nat}{m n:Int}(h:Walk ls a b m)(g:Walk ls b c n):Walk ls a c (m+n):=by
 induction g with
 |nil=>simpa using h|snoc l j _ f=>rw[<- Int.add_assoc];exact .snoc l j f
theorem Wk.nonneg{N:Nat}{ls:Ll}(f:bM N ls){k a b:Nat}{n:Int}(h:Wk ls k a b n):0<=n:=by
 induction h with
 |refl=>exact Int.le_refl _|edge l j=>have:=(f.at_ l j).2.2.2.2.2.1;omega|via _ _ _ y u=>omega
theorem Wk.split{N:Nat}{ls:Ll}(G:bM N ls){k a b:Nat}{n:Int}(h:Wk ls (k+1) a b n):
  (∃m,m<=n/\Wk ls k a b m)\/∃A z,A+z<=n/\Wk ls k a k A/\Wk ls k k b z:=by
 induction h with
 |refl a=>exact .inl ⟨0,Int.le_refl _,.refl a⟩|edge l hl=>exact .inl ⟨_,Int.le_refl _,.edge l hl⟩|@via a b c m n L _ _ h1 h2=>
  by_cases e:c=k;subst e;right;have l1:∃A,A<=m/\Wk ls c a c A:=by
   rcases h1 with⟨x,f,g⟩|⟨x,y,f,g,j⟩;exact⟨x,f,g⟩;have:=j.nonneg G;exact⟨x,by omega,g⟩
  have l2:∃z,z<=n/\Wk ls c c b z:=by
   rcases h2 with⟨x,f,g⟩|⟨x,y,f,g,j⟩;exact⟨x,f,g⟩;have:=g.nonneg G;exact⟨y,by omega,j⟩
  obtain⟨x,f,g⟩:=l1;obtain⟨y,hy,j⟩:=l2;exact⟨x,y,by omega,g,j⟩;have L:c<k:=by omega
  rcases h1 with⟨x,f,g⟩|⟨x,y,f,g,j⟩<;>rcases h2 with⟨u,hu,q⟩|⟨u,v,hu,q,X⟩
  exact .inl ⟨x+u,by omega,.via L g q⟩;exact .inr ⟨x+u,v,by omega,.via L g q,X⟩;exact .inr ⟨x,y+u,by omega,g,.via L j q⟩;have:=j.nonneg G;have:=q.nonneg G;exact .inr ⟨x,v,by omega,g,X⟩
structure Y8(ls:Ll)(xs:List Int):Prop where
 len:xs.length=144
 diag:∀a,a<12->cell xs a a=0
 walk:∀a b,a<12->b<12->cell xs a b=-1\/(0<=cell xs a b/\Walk ls a b (cell xs a b))
def Below(xs:List Int)(a b:Nat)(n:Int):Prop:=cell xs a b≠-1/\cell xs a b<=n
def aBd(ls:Ll)(k:Nat)(xs:List Int):Prop:=∀a b n,a<12->b<12->Wk ls k a b n->Below xs a b n
theorem mc{xs:List Int}(j:xs.length=144){a b c d:Nat}(y:a<12)(u:b<12)(hd:d<12){len n:Int}(f:len≠-1)(h:Below xs c d n):Below (eX xs a b len) c d n:=by
 unfold Below at h ⊢;rw[dS j y u hd];split;rename_i g;obtain⟨rfl,rfl,g⟩:=g;exact⟨f,by omega⟩;exact h
theorem FQ{xs:List Int}(j:xs.length=144){a b:Nat}(u:a<12)(h:b<12){len:Int}(f:len≠-1):Below (eX xs a b len) a b len:=by
 unfold Below;rw[dS j u h h];split;exact⟨f,Int.le_refl _⟩;rename_i g;simp only[true_and,not_or]at g;exact⟨g.1,by omega⟩
theorem uH{ls:Ll}{xs:List Int}(h:Y8 ls xs){a b:Nat}(u:a<12)(j:b<12){len:Int}(z:0<=len)(y:Walk ls a b len):Y8 ls (eX xs a b len):=by
 refine⟨by rw[iK];exact h.len,λc f=>?_,λc d f hd=>?_⟩;rw[dS h.len u j f];split;rename_i g;obtain⟨rfl,rfl,g⟩:=g;have:=h.diag c f;omega;exact h.diag c f;rw[dS h.len u j hd];split;rename_i g;obtain⟨rfl,rfl,g⟩:=g;exact .inr ⟨z,y⟩;exact h.walk c d f hd
theorem nu{a b:Nat}(h:a<12)(f:b<12):cell JR a b=if a=b then 0 else -1:=by
 unfold cell JR;rw[List.getD_eq_getElem?_getD,List.getElem?_map,List.getElem?_range (by omega)];simp only[Option.map_some,Option.getD_some];rw[show(a*12+b)/12=a by omega,show(a*12+b)%12=b by omega]
theorem Oz(ls:Ll):Y8 ls JR:=by
 refine⟨rfl,λa f=>by rw[nu f f,if_pos rfl],λa b f h=>?_⟩;rw[nu f h];split;rename_i e;subst e;exact .inr ⟨Int.le_refl _,.nil a⟩;exact .inl rfl
theorem toNat_lt{N:Nat}{x:Int}(j:0<=x)(h:x<N)(f:N<=12):x.toNat<12:=by omega
theorem vy{N:Nat}{ls:Ll}(G:bM N ls):∀(j:Ll) (xs:List Int),(∀l∈j,l∈ls)->Y8 ls xs->(∀a b,a<12->b<12->cell xs a b<=5000)->
  Y8 ls (j.foldl (λxs l=>eX xs (bw l) (lTo l) (aV l)) xs)/\
  (∀a b n,a<12->b<12->Below xs a b n->Below (j.foldl (λxs l=>eX xs (bw l) (lTo l) (aV l)) xs) a b n)/\
  (∀l∈j,Below (j.foldl (λxs l=>eX xs (bw l) (lTo l) (aV l)) xs) (bw l).toNat (lTo l).toNat (aV l))/\
  (∀a b,a<12->b<12->cell (j.foldl (λxs l=>eX xs (bw l) (lTo l) (aV l)) xs) a b<=5000)
 |[],xs,_,h,hb=>⟨h,λ_ _ _ _ _ h=>h,(λl L=>by cases L),hb⟩
 |l::j,xs,y,h,hb=>by
  have L:=y l (by simp);obtain⟨o1,o2,o3,o4,o5,o6,o7⟩:=G.at_ l L;have z:=toNat_lt o1 o2 G.n12;have f:=toNat_lt o3 o4 G.n12;have e:eX xs (bw l) (lTo l) (aV l)=eX xs ((bw l).toNat:Nat) ((lTo l).toNat:Nat) (aV l):=by
   rw[Int.toNat_of_nonneg o1,Int.toNat_of_nonneg o3]
  have hw:Walk ls (bw l).toNat (lTo l).toNat (aV l):=by
   have:=Walk.snoc l L (.nil (bw l).toNat);rwa [Int.zero_add]at this
  obtain⟨g1,g2,g3,g4⟩:=vy G j (eX xs (bw l) (lTo l) (aV l)) (λx u=>y x (by simp[u])) (by rw[e];exact uH h z f (by omega) hw) (λa b X A=>by
   rw[e,dS h.len z f A];split;exact o7;exact hb a b X A)
  rw[List.foldl_cons];refine⟨g1,λa b n X A hB=>g2 a b n X A (by rw[e];exact mc h.len z f A (by omega) hB),λx u=>?_,g4⟩;rcases List.mem_cons.1 u with rfl|u;exact g2 _ _ _ z f (by rw[e];exact FQ h.len z f (by omega));exact g3 x u
theorem JF{N:Nat}{ls:Ll}(j:bM N ls):Y8 ls (pV ls)/\aBd ls 0 (pV ls)/\∀a b,a<12->b<12->cell (pV ls) a b<=5000:=by
 obtain⟨g1,X,L,G⟩:=vy j ls JR (λ_ h=>h) (Oz ls) (λa b A z=>by rw[nu A z];split<;>omega);refine⟨g1,λa b n f hb u=>?_,G⟩;cases u with
 |refl=>refine X a a 0 f f ?_;unfold Below;rw[nu f f,if_pos rfl];omega|edge l y=>exact L l y|via hc=>omega
structure Mid(ls:Ll)(o i:Nat)(xs:List Int):Prop where
 sane:Y8 ls xs
 compl:aBd ls o xs
 done:∀a b m n,a<12->b<12->a*12+b<i->Wk ls o a o m->Wk ls o o b n->Below xs a b (m+n)
 edge:∀a,a<12->cell xs a o<=5000*2 ^ o/\cell xs o a<=5000*2 ^ o
 all:∀a b,a<12->b<12->cell xs a b<=2*(5000*2 ^ o)
theorem Mid.step{N:Nat}{ls:Ll}(ok:bM N ls){o i:Nat}(y:o<12)(hi:i<144){xs:List Int}(h:Mid ls o i xs):Mid ls o (i+1) (BB xs (o*144+i)):=by
 have e1:(o*144+i)/12%12=i/12:=by omega
 have e2:(o*144+i)/144=o:=by omega
 have e3:(o*144+i)%12=i%12:=by omega
 have A:i/12<12:=by omega
 have z:i%12<12:=by omega
 unfold BB;rw[e1,e2,e3];cases hc:(cell xs (i/12) o != -1)&&(cell xs o (i%12) != -1)with
 |false=>
  rw[cond_false];refine⟨h.sane,h.compl,λa b m n j f h3 L G=>?_,h.edge,h.all⟩;by_cases e:a*12+b<i
  .exact h.done a b m n j f e L G
  have ea:a=i/12:=by omega
  have eb:b=i%12:=by omega
  have g1:=h.compl a o m j y L;have g2:=h.compl o b n y f G;rw[<- ea,<- eb]at hc;simp only[Bool.and_eq_false_iff,bne_eq_false_iff_eq]at hc;rcases hc with hc|hc;exact(g1.1 hc).elim;exact(g2.1 hc).elim
 |true=>
  rw[cond_true];simp only[Bool.and_eq_true,bne_iff_ne,ne_eq]at hc;obtain⟨c1,c2⟩:=hc;obtain⟨p1,p2⟩:=(h.sane.walk _ _ A y).resolve_left c1;obtain⟨p3,p4⟩:=(h.sane.walk _ _ y z).resolve_left c2;have u:cell xs (i/12) o+cell xs o (i%12)≠-1:=by omega
  refine⟨uH h.sane A z (by omega) (p2.trans p4),λa b n j f w=>mc h.sane.len A z f u (h.compl a b n j f w),λa b m n j f h3 L G=>?_,λa j=>?_,λa b j f=>?_⟩
  .by_cases e:a*12+b<i
   .exact mc h.sane.len A z f u (h.done a b m n j f e L G)
   have ea:a=i/12:=by omega
   have eb:b=i%12:=by omega
   have g1:=(h.compl a o m j y L).2;have g2:=(h.compl o b n y f G).2;rw[<- ea,<- eb]at u ⊢;have g3:=FQ (a:=a) (b:=b) h.sane.len j f u;exact⟨g3.1,by have:=g3.2;omega⟩
  have hd:=h.sane.diag o y;have q:=h.edge a j;constructor;rw[dS h.sane.len A z y];split;rename_i g;obtain⟨rfl,g5,X⟩:=g;rw[<- g5,hd]at X;have:=q.1;omega;exact q.1;rw[dS h.sane.len A z j];split;rename_i g;obtain⟨g5,rfl,X⟩:=g;rw[<- g5,hd]at X;have:=q.2;omega;exact q.2;rw[dS h.sane.len A z f];split;have q1:=(h.edge (i/12) A).1;have q2:=(h.edge (i%12) z).2;omega;exact h.all a b j f
theorem Mid.next{N:Nat}{ls:Ll}(y:bM N ls){o:Nat}(u:o+1<12){xs:List Int}(h:Mid ls o 144 xs):Mid ls (o+1) 0 xs:=by
 have e:5000*2 ^ (o+1)=2*(5000*2 ^ o:Int):=by rw[Int.pow_succ];omega
 refine⟨h.sane,λa b n f j w=>?_,λa b m n f j L=>by omega,λa f=>by rw[e];exact⟨h.all a (o+1) f u,h.all (o+1) a u f⟩,λa b f j=>?_⟩
 .rcases w.split y with⟨m,hm,g⟩|⟨A,z,hm,G,g2⟩;have:=h.compl a b m f j g;exact⟨this.1,by have:=this.2;omega⟩
  .have:=h.done a b A z f j (by omega) G g2;exact⟨this.1,by have:=this.2;omega⟩
 have:=h.all a b f j;have X:(0:Int)<=5000*2 ^ o:=Int.mul_nonneg (by decide) (Int.le_of_lt (Int.pow_pos (by decide)));rw[e];omega
theorem SQ{N:Nat}{ls:Ll}(u:bM N ls):∀(o:Nat),o<12->∀i,i<=144->Mid ls o i (fwN ls (o*144+i)):=by
 intro o;have row:∀o,o<12->Mid ls o 0 (fwN ls (o*144))->∀i,i<=144->Mid ls o i (fwN ls (o*144+i)):=by
  intro o j h i;induction i with
  |zero=>intro _;exact h
  |succ i y=>
   intro X;rw[<- Nat.add_assoc,CO];exact(y (by omega)).step u j (by omega)
 induction o with
 |zero=>
  intro _;refine row 0 (by decide) ?_;obtain⟨L,G,z⟩:=JF u;refine⟨L,G,λa b m n f A h3=>by omega,λa f=>⟨?_,?_⟩,λa b f A=>?_⟩;have:=z a 0 f (by decide);show cell (pV ls) a 0<=5000*2 ^ 0;omega;have:=z 0 a (by decide) f;show cell (pV ls) 0 a<=5000*2 ^ 0;omega;have:=z a b f A;simp only[Int.pow_zero,Int.mul_one];show cell (pV ls) a b<=_;omega
 |succ o y=>
  intro j;refine row (o+1) j ?_;have:=(y (by omega) 144 (Nat.le_refl _)).next u j
  rw[show o*144+144=(o+1)*144 by omega]at this;exact this
theorem HZ{N:Nat}{ls:Ll}(y:bM N ls){k:Nat}(G:k<=1728){a b:Nat}(u:a<12)(j:b<12): -1<=cell (fwN ls k) a b/\cell (fwN ls k) a b<=20480000:=by
 have h:∃o i,o<12/\i<=144/\k=o*144+i:=by
  by_cases e:k=1728;exact⟨11,144,by decide,by decide,by omega⟩;exact⟨k/144,k%144,by omega,by omega,by omega⟩
 obtain⟨o,i,z,A,rfl⟩:=h;have m:=SQ y o z i A;have h1:=m.all a b u j;have f:=m.sane.walk a b u j;have X:(2:Int) ^ o<=2 ^ 11:=by
  have:(2:Nat) ^ o<=2 ^ 11:=Nat.pow_le_pow_right (by decide) (by omega)
  exact_mod_cast this
 have L:(2:Int) ^ 11=2048:=by decide
 constructor;rcases f with f|f<;>omega;omega
structure lN(ls:Ll)(a:Nat)(d:Nat->Int):Prop where
 self:d a=0
 low:∀b,b<12->-1<=d b
 line:∀l∈ls,0<=d (bw l).toNat->0<=d (lTo l).toNat/\d (lTo l).toNat<=d (bw l).toNat+aV l
 last:∀b,b<12->b≠a->0<=d b->∃l∈ls,(lTo l).toNat=b/\0<=d (bw l).toNat/\d b=d (bw l).toNat+aV l
theorem lN.walk{N:Nat}{ls:Ll}(u:bM N ls){a:Nat}{d:Nat->Int}(h:lN ls a d){b:Nat}{n:Int}(w:Walk ls a b n):0<=d b/\d b<=n:=by
 induction w with
 |nil=>rw[h.self];exact⟨Int.le_refl _,Int.le_refl _⟩|snoc l j _ f=>have:=h.line l j f.1;have:=f.2;omega
theorem Walk.wk{N:Nat}{ls:Ll}(f:bM N ls){a b:Nat}{n:Int}(w:Walk ls a b n):Wk ls 12 a b n:=by
 induction w with
 |nil=>exact .refl _|snoc l h _ j=>
  have o:=f.at_ l h;exact .via (toNat_lt o.1 o.2.1 f.n12) j (.edge l h)
theorem yi{N:Nat}{ls:Ll}(f:bM N ls):aBd ls 12 (cD ls)/\Y8 ls (cD ls):=by
 have m:Mid ls 11 144 (cD ls):=SQ f 11 (by decide) 144 (Nat.le_refl _);refine⟨λa b n j h w=>?_,m.sane⟩;rcases w.split f with⟨x,u,g⟩|⟨x,y,u,z,g2⟩;have:=m.compl a b x j h g;exact⟨this.1,by have:=this.2;omega⟩
 .have:=m.done a b x y j h (by omega) z g2;exact⟨this.1,by have:=this.2;omega⟩
theorem pI{N:Nat}{ls:Ll}(u:bM N ls){a:Nat}(j:a<12):lN ls a (cell (cD ls) a):=by
 obtain⟨hc,y⟩:=yi u;have z:∀l∈ls,(bw l).toNat<12/\(lTo l).toNat<12/\1<=aV l:=λl h=>by
  have o:=u.at_ l h;exact⟨toNat_lt o.1 o.2.1 u.n12,toNat_lt o.2.2.1 o.2.2.2.1 u.n12,o.2.2.2.2.2.1⟩
 have f:∀l∈ls,0<=cell (cD ls) a (bw l).toNat->0<=cell (cD ls) a (lTo l).toNat/\cell (cD ls) a (lTo l).toNat<=cell (cD ls) a (bw l).toNat+aV l:=by
  intro l h h0;obtain⟨A,X,h3⟩:=z l h;have w:=((y.walk a _ j A).resolve_left (by omega)).2;have g:=hc a _ _ j X (Walk.wk u (.snoc l h w));refine⟨?_,g.2⟩;rcases y.walk a _ j X with q|q;exact(g.1 q).elim;exact q.1
 refine⟨y.diag a j,λb L=>?_,f,λb L G h0=>?_⟩;rcases y.walk a b j L with q|q<;>omega;have w:=((y.walk a b j L).resolve_left (by omega)).2;generalize hn:cell (cD ls) a b=n at w;cases w with
 |nil=>exact(G rfl).elim|@snoc n l h w=>
  obtain⟨A,X,h3⟩:=z l h;have g:=hc a _ _ j A (w.wk u);have h4:0<=cell (cD ls) a (bw l).toNat:=by
   rcases y.walk a _ j A with q|q;exact(g.1 q).elim;exact q.1
  have h5:=(f l h h4).2;have h6:=g.2;exact⟨l,h,rfl,h4,by omega⟩
theorem lN.toWalk{N:Nat}{ls:Ll}(j:bM N ls){a:Nat}{d:Nat->Int}(h:lN ls a d):∀(k b:Nat),b<12->0<=d b->(d b).toNat<=k->Walk ls a b (d b):=by
 intro k;induction k with
 |zero=>
  intro b u y X;by_cases e:b=a;subst e;rw[h.self];exact .nil b;obtain⟨l,f,G,A,z⟩:=h.last b u e y;have:=(j.at_ l f).2.2.2.2.2.1;omega
 |succ k L=>
  intro b u y X;by_cases e:b=a;subst e;rw[h.self];exact .nil b;obtain⟨l,f,G,A,z⟩:=h.last b u e y;have o:=j.at_ l f;have:=o.2.2.2.2.2.1;have w:=L _ (toNat_lt o.1 o.2.1 j.n12) A (by omega);have:=Walk.snoc l f w;rw[G,<- z]at this;exact this
theorem lN.unique{N:Nat}{ls:Ll}(f:bM N ls){a:Nat}{d e:Nat->Int}(h:lN ls a d)(g:lN ls a e){b:Nat}(j:b<12):d b=e b:=by
 have y:=h.low b j;have u:=g.low b j;by_cases p:0<=d b;have:=g.walk f (h.toWalk f _ b j p (Nat.le_refl _));have:=h.walk f (g.toWalk f _ b j this.1 (Nat.le_refl _));omega;by_cases q:0<=e b;have:=h.walk f (g.toWalk f _ b j q (Nat.le_refl _));omega;omega
def at1(row:List Int)(b:Nat):Int:=row.getD b 0
def dZ(row:List Int)(l:Line):List Int:=
 bif decide (0<=at1 row (bw l).toNat)&&(decide (at1 row (lTo l).toNat<0)||decide (at1 row (lTo l).toNat>at1 row (bw l).toNat+aV l))then row.set (lTo l).toNat (at1 row (bw l).toNat+aV l)else row
def mR(m:Nat)(a:Nat):List Int:=(List.range m).map λb=>if b=a then 0 else -1
def DK(ls:Ll)(row:List Int):List Int:=ls.foldl dZ row
def bfN(ls:Ll)(m a r:Nat):List Int:=(List.range r).foldl (λrow _=>DK ls row) (mR m a)
def jd(m:Nat)(ls:Ll)(a:Nat):List Int:=(List.range m).map λb=>cell (cD ls) a b
def XB(m:Nat)(ls:Ll):List (List Int):=(List.range m).map λa=>jd m ls a
theorem aAU{row:List Int}{i b:Nat}{x:Int}(f:i<row.length):at1 (row.set i x) b=if b=i then x else at1 row b:=by
 unfold at1;rw[List.getD_eq_getElem?_getD,List.getElem?_set,List.getD_eq_getElem?_getD];by_cases h:i=b;subst h;simp[f];rw[if_neg h,if_neg (λe=>h e.symm)]
theorem lF(row:List Int)(l:Line):(dZ row l).length=row.length:=by
 unfold dZ;cases(decide (0<=at1 row (bw l).toNat)&&(decide (at1 row (lTo l).toNat<0)||decide (at1 row (lTo l).toNat>at1 row (bw l).toNat+aV l)))<;>simp
theorem qu{row:List Int}{l:Line}(f:(lTo l).toNat<row.length)(b:Nat):at1 (dZ row l) b =
  if b=(lTo l).toNat/\0<=at1 row (bw l).toNat/\(at1 row (lTo l).toNat<0\/at1 row (lTo l).toNat>at1 row (bw l).toNat+aV l)then at1 row (bw l).toNat+aV l else at1 row b:=by
 unfold dZ;by_cases h:0<=at1 row (bw l).toNat/\(at1 row (lTo l).toNat<0\/at1 row (lTo l).toNat>at1 row (bw l).toNat+aV l);have e:(decide (0<=at1 row (bw l).toNat)&&(decide (at1 row (lTo l).toNat<0)||decide (at1 row (lTo l).toNat>at1 row (bw l).toNat+aV l)))=true:=by simpa using h
 rw[e,cond_true,aAU f];by_cases hb:b=(lTo l).toNat;rw[if_pos hb,if_pos ⟨hb,h⟩];rw[if_neg hb,if_neg λg=>hb g.1];have e:(decide (0<=at1 row (bw l).toNat)&&(decide (at1 row (lTo l).toNat<0)||decide (at1 row (lTo l).toNat>at1 row (bw l).toNat+aV l)))=false:=by
  rw[Bool.eq_false_iff];simpa using h
 rw[e,cond_false,if_neg λg=>h g.2]
def Abv(m:Nat)(d:Nat->Int)(row:List Int):Prop:=row.length=m/\∀b,b<m->at1 row b=-1\/(0<=d b/\d b<=at1 row b)
def X9(d:Nat->Int)(row:List Int)(b:Nat):Prop:=0<=d b/\at1 row b=d b
section
variable {m:Nat}{ls:Ll}{a:Nat}{d:Nat->Int}
theorem O9(u:bM m ls)(h:lN ls a d){row:List Int}(f:Abv m d row){l:Line}(j:l∈ls):Abv m d (dZ row l):=by
 have o:=u.at_ l j;refine⟨by rw[lF];exact f.1,λb y=>?_⟩;rw[qu (by rw[f.1];omega)];split;rename_i g;obtain⟨rfl,A,z⟩:=g;rcases f.2 (bw l).toNat (by omega)with q|q;omega;have:=h.line l j q.1;right;omega;exact f.2 b y
theorem Bd(y:bM m ls)(h:lN ls a d){row:List Int}(j:Abv m d row){l:Line}(u:l∈ls){b:Nat}(z:b<m)(f:X9 d row b):X9 d (dZ row l) b:=by
 have o:=y.at_ l u;refine⟨f.1,?_⟩;rw[qu (by rw[j.1];omega)];split;rename_i g;obtain⟨rfl,G,A⟩:=g;rcases j.2 (bw l).toNat (by omega)with q|q;omega;have:=h.line l u q.1;have:=f.1;have:=f.2;omega;exact f.2
theorem O8(j:bM m ls){row:List Int}(h:Abv m d row){l:Line}(u:l∈ls)(f:X9 d row (bw l).toNat)(y:0<=d (lTo l).toNat)(z:d (lTo l).toNat=d (bw l).toNat+aV l):X9 d (dZ row l) (lTo l).toNat:=by
 have o:=j.at_ l u;refine⟨y,?_⟩;have L:=f.2;have G:=f.1;rw[qu (by rw[h.1];omega)];split;omega;rename_i g;have A:¬(0<=at1 row (bw l).toNat/\(at1 row (lTo l).toNat<0\/at1 row (lTo l).toNat>at1 row (bw l).toNat+aV l)):=λq=>g ⟨rfl,q⟩;rcases h.2 (lTo l).toNat (by omega)with q|q<;>omega
theorem YY(u:bM m ls)(h:lN ls a d):∀(j:Ll) (row:List Int),(∀l∈j,l∈ls)->Abv m d row->Abv m d (j.foldl dZ row)/\(∀b,b<m->X9 d row b->X9 d (j.foldl dZ row) b)/\
  ∀l∈j,X9 d row (bw l).toNat->0<=d (lTo l).toNat->d (lTo l).toNat=d (bw l).toNat+aV l->X9 d (j.foldl dZ row) (lTo l).toNat
 |[],row,_,z=>⟨z,λ_ _ h=>h,(λl f=>by cases f)⟩
 |x::j,row,y,z=>by
  have A:=y x (by simp);have ox:=u.at_ x A;obtain⟨g1,g2,g3⟩:=YY u h j (dZ row x) (λl f=>y l (by simp[f])) (O9 u h z A);rw[List.foldl_cons];refine⟨g1,λb X G=>g2 b X (Bd u h z A X G),λl f G h0 L=>?_⟩;have o:=u.at_ l (y l f);rcases List.mem_cons.1 f with rfl|f;exact g2 _ (by omega) (O8 u z A G h0 L);exact g3 l f (Bd u h z A (by omega) G) h0 L
def rank(m:Nat)(d:Nat->Int)(b:Nat):Nat:=((List.range m).filter λx=>decide (0<=d x/\d x<d b)).length
theorem filter_lt{α:Type}{p q:α->Bool}:∀{l:List α}{x:α},(∀y,p y=true->q y=true)->x∈l->p x=false->q x=true->(l.filter p).length<(l.filter q).length
 |[],_,_,h,_,_=>by cases h
 |y::l,x,f,u,L,G=>by
  have X:∀l:List α,(l.filter p).length<=(l.filter q).length:=by
   intro l;induction l with
   |nil=>exact Nat.le_refl _|cons z l j=>
    simp only[List.filter_cons];cases A:p z with
    |true=>rw[f z A];simpa using j|false=>cases q z<;>simp<;>omega
  rcases List.mem_cons.1 u with rfl|u;simp only[List.filter_cons,L,G,Bool.false_eq_true,if_false,if_true,List.length_cons];have:=X l;omega;have j:=filter_lt f u L G;simp only[List.filter_cons];cases A:p y with
  |true=>rw[f y A];simpa using j|false=>cases q y<;>simp<;>omega
theorem Q0{b c:Nat}(h:c<m)(u:0<=d c)(j:d c<d b):rank m d c<rank m d b:=by
 refine filter_lt (x:=c) (λy f=>?_) (List.mem_range.2 h) ?_ ?_;have:=of_decide_eq_true f;exact decide_eq_true (by omega);exact decide_eq_false (by omega);exact decide_eq_true (by omega)
theorem IH{x:Nat}(f:x<m):at1 (mR m a) x=if x=a then 0 else -1:=by
 unfold at1 mR;rw[List.getD_eq_getElem?_getD,List.getElem?_map,List.getElem?_range f];rfl
theorem uc(ls:Ll)(m a r:Nat):bfN ls m a (r+1)=DK ls (bfN ls m a r):=by
 unfold bfN;rw[List.range_succ,List.foldl_append];rfl
theorem Nu(j:bM m ls)(h:lN ls a d)(G:a<m):∀r,Abv m d (bfN ls m a r)/\∀b,b<m->0<=d b->rank m d b<=r->X9 d (bfN ls m a r) b
 |0=>by
  have e:bfN ls m a 0=mR m a:=rfl;rw[e];refine⟨⟨by simp[mR],λb f=>?_⟩,λb f u hr=>?_⟩;rw[IH f];split;rename_i e;subst e;right;rw[h.self];omega;exact .inl rfl;by_cases e:b=a;subst e;exact⟨u,by rw[IH f,if_pos rfl,h.self]⟩;obtain⟨l,y,z,A,X⟩:=h.last b (Nat.lt_of_lt_of_le f j.n12) e u;have:=(j.at_ l y).2.2.2.2.2.1;have:=Q0 (m:=m) (d:=d) (b:=b) (c:=a) G (by rw[h.self];omega) (by rw[h.self];omega);omega
 |r+1=>by
  obtain⟨g1,L⟩:=Nu j h G r;obtain⟨f1,f2,f3⟩:=YY j h ls (bfN ls m a r) (λ_ h=>h) g1;rw[uc];refine⟨f1,λb f u hr=>?_⟩;by_cases e:b=a;have:rank m d b<=r\/rank m d b=r+1:=by omega
  have hz:rank m d b=0:=by
   unfold rank;rw[List.length_eq_zero_iff,List.filter_eq_nil_iff];intro x _;rw[e,h.self];exact λg=>by have:=of_decide_eq_true g;omega
  exact f2 b f (L b f u (by omega));obtain⟨l,y,z,A,X⟩:=h.last b (Nat.lt_of_lt_of_le f j.n12) e u;have o:=j.at_ l y;have hlt:=Q0 (m:=m) (d:=d) (b:=b) (c:=(bw l).toNat) (by omega) A (by omega);have hs:=L _ (by omega) A (by omega);have:=f3 l y hs (by rw[z];exact u) (by rw[z];exact X);rwa [z]at this
theorem Q5(b:Nat):rank m d b<=m:=by
 unfold rank;exact Nat.le_trans (List.length_filter_le _ _) (by rw[List.length_range];exact Nat.le_refl _)
theorem XZ(j:bM m ls)(z:a<m):bfN ls m a m=jd m ls a:=by
 have h:=pI j (Nat.lt_of_lt_of_le z j.n12);obtain⟨u,A⟩:=Nu j h z m;apply List.ext_getElem?;intro b;unfold jd;by_cases hb:b<m;rw[List.getElem?_map,List.getElem?_range hb];have y:b<(bfN ls m a m).length:=by rw[u.1];exact hb
 have e:at1 (bfN ls m a m) b=cell (cD ls) a b:=by
  rcases u.2 b hb with q|q;have f:=h.low b (Nat.lt_of_lt_of_le hb j.n12);by_cases p:0<=cell (cD ls) a b;exact(A b hb p (Q5 b)).2;rw[q];have:-1<=cell (cD ls) a b:=f;omega;exact(A b hb q.1 (Q5 b)).2
 rw[List.getElem?_eq_getElem y];unfold at1 at e;rw[List.getD_eq_getElem?_getD,List.getElem?_eq_getElem y]at e;simpa using e;rw[List.getElem?_eq_none (by rw[u.1];omega),List.getElem?_eq_none (by simp;omega)]
end
end Go.Eng.Sv
namespace Go.Eng.In
def VB(st:Int×Int)(x:Int):Int×Int:=(st.1*3%65521,(st.2+x*(st.1*3%65521))%65521)
def NR(st:Int×Int)(l:List Int):Int×Int:=l.foldl VB st
def zu(l:List Int):Int:=(NR (1,0) l).2
theorem E0(st:Int×Int)(x:Int)(l:List Int):NR st (x::l)=NR (VB st x) l:=rfl
theorem VC(st:Int×Int)(a b:List Int):NR st (a++b)=NR (NR st a) b:=by
 unfold NR;exact List.foldl_append
def aE5(st:Int×Int):Prop:=(0<=st.1/\st.1<65521)/\(0<=st.2/\st.2<65521)
theorem VA(st:Int×Int)(x:Int):aE5 (VB st x):=
 ⟨⟨Int.emod_nonneg _ (by decide),Int.emod_lt_of_pos _ (by decide)⟩,⟨Int.emod_nonneg _ (by decide),Int.emod_lt_of_pos _ (by decide)⟩⟩
theorem QM:∀(l:List Int) {st:Int×Int},aE5 st->aE5 (NR st l)|[],_,h=>h|x::l,st,_=>QM l (VA st x)
def inv(p:Int):Prop:=∃q:Int,p*q%65521=1
theorem W0{p:Int}(h:inv p):inv (p*3%65521):=by
 obtain⟨q,f⟩:=h;refine⟨q*43681,?_⟩;rw[Int.mul_emod,Int.emod_emod_of_dvd _ (Int.dvd_refl _),<- Int.mul_emod];have e:p*3*(q*43681)=p*q*131043:=by
  rw[Int.mul_assoc,Int.mul_left_comm 3 q 43681,<- Int.mul_assoc];rfl
 rw[e,Int.mul_emod,f];rfl
theorem aAm:∀(l:List Int) {st:Int×Int},inv st.1->inv (NR st l).1|[],_,h=>h|_::l,_,h=>aAm l (W0 h)
theorem Z3:∀(l:List Int) {p s t:Int},0<=s->s<65521->0<=t->t<65521->s≠t->(NR (p,s) l).2≠(NR (p,t) l).2
 |[],_,_,_,_,_,_,_,h=>h|x::l,p,s,t,s0,u,j,f,h=>by
  rw[E0,E0];have e:∀y:Int,VB (p,y) x=(p*3%65521,(y+x*(p*3%65521))%65521):=λ_=>rfl;rw[e,e];generalize x*(p*3%65521)=z;exact Z3 l (Int.emod_nonneg _ (by decide)) (Int.emod_lt_of_pos _ (by decide)) (Int.emod_nonneg _ (by decide)) (Int.emod_lt_of_pos _ (by decide)) (by omega)
end Go.Eng.In
