/- H20 -/
import Derived.Test.YtecnnbcfgijddaaGreatDoorETBrkZJ
import Derived.Deep.Slices
import Derived.ChangeArms
import Derived.OpenShut
set_option linter.unusedSimpArgs false
set_option linter.unusedVariables false
namespace Go.Eng
open Go.RowKit Go.ChangeShapes
def okT:(t:Ty)->t.den->Prop|.int k,x=>inR k x|.bool,_=>True|.str,s=>s.size<=9223372036854775807|.sl e,xs=>List.length xs<=9223372036854775807/\∀x∈(xs:List e.den),okT e x|.pair a b,x=>okT a x.1/\okT b x.2
def ku:(t:Ty)->t.den->Nat|.int _,_=>1|.bool,_=>1|.str,s=>s.size+1|.sl e,xs=>((xs:List e.den).map λx=>ku e x).sum+1|.pair a b,x=>ku a x.1+ku b x.2
mutual
def rG{H:Type}:DataW H->Nat|.lit (.string bytes)=>bytes.length+1|.slice elems _=>lM elems+1|.agg parts=>lM parts+1|_=>1
def lM{H:Type}:List (DataW H)->Nat|[]=>0|d::r=>rG d+lM r
end
theorem Gz{H:Type}(d:DataW H):1<=rG d:=by
 cases d with
 |lit l=>cases l<;>simp[rG]
 |_=>simp[rG]
def NV:(a c:Ty)->a.den->c.den->(l7 a c).den|.pair _ b,c,x,y=>(x.1,NV b c x.2 y)|.int _,_,x,y=>(x,y)|.bool,_,x,y=>(x,y)|.str,_,x,y=>(x,y)|.sl _,_,x,y=>(x,y)
theorem FN:∀(a c:Ty),(l7 a c).sz=a.sz+c.sz|.pair a b,c=>by simp only[l7,Ty.sz,FN b c];omega|.int _,_|.bool,_|.str,_|.sl _,_=>by simp[l7,Ty.sz]
theorem FM{w:World}{D:Nat->Prop}:∀{a c:Ty}{x:a.den}{y:c.den}{us vs:Lv},ae w D a x us->ae w D c y vs->ae w D (l7 a c) (NV a c x y) (us++vs)
 |.pair a b,c,x,y,us,vs,h,f=>by
  obtain⟨u,j,e,z,g2⟩:=h;subst e;exact⟨u,j++vs,by simp,z,FM g2 f⟩
 |.int _,_,_,_,us,vs,h,f=>⟨us,vs,rfl,h,f⟩|.bool,_,_,_,us,vs,h,f=>⟨us,vs,rfl,h,f⟩|.str,_,_,_,us,vs,h,f=>⟨us,vs,rfl,h,f⟩|.sl _,_,_,_,us,vs,h,f=>⟨us,vs,rfl,h,f⟩
theorem Ld:∀{a c:Ty}{x:a.den}{y:c.den},okT a x->okT c y->okT (l7 a c) (NV a c x y)|.pair _ _,_,_,_,f,h=>⟨f.1,Ld f.2 h⟩|.int _,_,_,_,f,h=>⟨f,h⟩|.bool,_,_,_,f,h=>⟨f,h⟩|.str,_,_,_,f,h=>⟨f,h⟩|.sl _,_,_,_,f,h=>⟨f,h⟩
theorem zz:∀{a c:Ty}{x:a.den}{y:c.den},ku (l7 a c) (NV a c x y)=ku a x+ku c y
 |.pair a b,c,x,y=>by
  show ku a x.1+ku (l7 b c) (NV b c x.2 y)=ku a x.1+ku b x.2+ku c y;rw[zz];omega
 |.int _,_,_,_=>rfl|.bool,_,_,_=>rfl|.str,_,_,_=>rfl|.sl _,_,_,_=>rfl
def fieldsB(P:Program)(T:TypeId->Option Ty):Nat->List Field->Option Ty
 |_,[]=>none|off,f::r=>if f.offset=off then match T f.type with
  |some a=>if P.cellsOf f.type=a.sz then match r with
   |[]=>some a|g::r'=>match fieldsB P T (off+a.sz) (g::r')with
    |some c=>some (l7 a c)|none=>none
   else none
  |none=>none
  else none
def tyB(P:Program):Nat->TypeId->Option Ty
 |0,_=>none|n+1,t=>match P.underlying t with
  |some (.int k)=>some (.int k)|some .bool=>some .bool|some .string=>some .str|some (.slice e)=>match tyB P n e with
   |some ty=>if P.cellsOf e=ty.sz then some (.sl ty)else none|none=>none
  |some (.struct fs)=>match fieldsB P (tyB P n) 0 fs.toList with
   |some ty=>if P.cellsOf t=ty.sz then some ty else none|none=>none
  |_=>none
abbrev N8(w:World):Nat->Prop:=λb=>b<w.heap.size
theorem aCJ{k:IntKind}{n:Int}(h:(Lit.int k n).wf=true):inR k n:=by
 simp only[Lit.wf,qE,qF]at h;cases k<;>simpa[IntKind.min,IntKind.max,IntKind.signed,IntKind.bits,inR]using h
section
variable {H:Type}{enc:TypeId×Value->H}{P:Program}{w:World}
def Opened(w:World)(ty:Ty)(cs:Lv)(n:Nat):Prop:=∃d:ty.den,ae w (N8 w) ty d cs/\okT ty d/\ku ty d<=n
theorem uS{T:TypeId->Option Ty}{n:Nat}{cs:Lv}
  (hT:∀t ty,T t=some ty->∀cs x,DataW.trod enc P w 0 (λ_=>true) true n t cs=some x->Opened w ty cs (rG x.1)):
  ∀(L:List Field) (off:Nat) (ty:Ty) (xs:List (DataW H×List MemPlace)),fieldsB P T off L=some ty->xs.length=L.length->
   (∀(i:Nat) (f:Field),L[i]?=some f->DataW.trod enc P w 0 (λ_=>true) true n f.type ((cs.drop f.offset).take (P.cellsOf f.type))=xs[i]?)->
   cs.length=off+ty.sz->Opened w ty (cs.drop off) (lM (xs.map (·.1)))
 |[],_,_,_,h,_,_,_=>by simp[fieldsB]at h|f::r,off,ty,xs,h,z,X,hc=>by
  rw[fieldsB.eq_2]at h;split at h;case isFalse=>cases h
  rename_i j;split at h;case h_2=>cases h
  rename_i a ha;split at h;case isFalse=>cases h
  rename_i u;match xs,z with
  |y::ys,z=>
   have G:=X 0 f rfl;simp only[xK]at G;rw[j,u]at G;obtain⟨d,d1,d2,d3⟩:=hT _ _ ha _ _ G;split at h;cases h;refine⟨d,?_,d2,?_⟩;rw[qM (by rw[vZ];omega)]at d1;exact d1;simp only[wV,lM];omega;rename_i g r' _;split at h;case h_2=>cases h
   rename_i c A;cases h;rw[FN]at hc;obtain⟨e,e1,e2,e3⟩:=uS hT (g::r') (off+a.sz) c ys A (by simpa using z) (λi f' hi=>by simpa using X (i+1) f' (by simpa using hi)) Z;refine⟨NV a c d e,?_,Ld d2 e2,?_⟩;have:=FM d1 e1;rwa [<- yU,xX]at this;rw[zz];simp only[wV,lM];omega
theorem IC{e:Ty}(f:Nat->e.den)(D:Nat->DataW H):∀l:List Nat,(∀i∈l,ku e (f i)<=rG (D i))->((l.map f).map λx=>ku e x).sum<=lM (l.map D)
 |[],_=>by simp[lM]|i::l,h=>by
  have z:=h i (by simp);have y:=IC f D l (λj u=>h j (by simp[u]));simp only[wV,List.sum_cons,lM];omega
theorem uT:∀(n:Nat) {t:TypeId}{ty:Ty},tyB P n t=some ty->∀(fuel:Nat) (cs:Lv) (x:DataW H×List MemPlace),
  DataW.trod enc P w 0 (λ_=>true) true fuel t cs=some x->Opened w ty cs (rG x.1)
 |0,_,_,h,_,_,_,_=>by simp[tyB]at h|n+1,t,ty,h,fuel,cs,x,hx=>by
  simp only[tyB]at h;split at h;rename_i k L;cases h;obtain⟨m,rfl,rfl,hw⟩:=DataW.trod_int L hx;exact⟨m,rfl,aCJ hw,Gz _⟩;rename_i L;cases h;obtain⟨b,rfl,rfl⟩:=DataW.trod_bool L hx;exact⟨b,rfl,trivial,Gz _⟩;rename_i L;cases h;obtain⟨s,rfl,rfl,hs⟩:=DataW.trod_string L hx;refine⟨s,rfl,by simpa[okT,maxLen]using hs,?_⟩;simp only[ku,rG];have:s.data.toList.length=s.size:=by rw[vI];rfl
  omega;rename_i e L;split at h;case h_2=>cases h
  rename_i z he;split at h;case isFalse=>cases h
  rename_i hsz;cases h;rcases Deep.open_slice L hx with⟨rfl,rfl⟩|⟨a,len,cap,m,n',Dd,Pl,rfl,hb,hl,hm,hmm,rfl,hel⟩;exact⟨[],bf _ _ _,⟨wK _,λx hx=>by cases hx⟩,by simp[ku,rG]⟩;have hlm:len<=m:=by rw[hmm];simpa using hl
  haveI:Inhabited z.den:=⟨z.dflt⟩
  obtain⟨f,hf⟩:=Deep.choose_lt (α:=z.den) (n:=len) (p:=λi d=>∃A,w.cells? 0 (a.add (i*z.sz)) z.sz=some A/\ae w (N8 w) z d A/\okT z d/\ku z d<=rG (Dd i)) (λi hi=>by
   obtain⟨A,h1,h2⟩:=hel i Z;rw[hsz]at h1;obtain⟨d,d1,d2,d3⟩:=uT n he _ _ _ h2;exact⟨d,A,h1,d1,d2,d3⟩)
  have hp:=Ty.sz_pos z;have spot:0<len->a.spot=none/\a.block<w.heap.size:=λh0=>by
   obtain⟨A,h1,d1,_⟩:=hf 0 h0;obtain⟨_,hcl,hcc⟩:=World.cells?_some h1;have:=hcc 0 hp;have hlt:0<A.length:=Z;rw[qB hlt]at this;simp only[xE]at this;have e0:(a.add 0).add 0=a:=by simp[Addr.add]
   rw[e0]at this;unfold World.cell? at this;split at this;rename_i c t' fr hc;refine⟨?_,(qJ.1 hc).1⟩;split at this;cases this;rename_i hs;cases X:a.spot with
   |none=>rfl|some _=>rw[X]at hs;simp at hs
   cases this
  have G:List.length ((List.range len).map f)=len:=by simp
  refine⟨(List.range len).map f,⟨some a,cap,by rw[G],by rw[G];exact hl,(λh=>by cases h),λa' ha' hpos=>?_,λi y hy=>?_⟩,⟨?_,λy hy=>?_⟩,?_⟩;cases ha';rw[G]at hpos;exact(spot hpos).1;have hi:i<len:=by
   have:=(qC.1 hy).1;rwa [G]at this
  have ey:y=f i:=by
   rw[qQ,zH hi]at hy;exact(wE hy).symm
  subst ey;obtain⟨A,h1,d1,_⟩:=hf i hi;obtain⟨X,hbk⟩:=spot Z;refine⟨a,A,rfl,hbk,λj u hj=>?_,d1⟩;obtain⟨_,hcl,hcc⟩:=World.cells?_some h1;have hjl:=(qC.1 hj).1;have:=hcc j Z;rw[hj,Deep.add_add]at this;have e1:a.add (i*z.sz+j)=⟨a.block,a.off+i*z.sz+j,none⟩:=by
   cases a with|mk b o s=>simp only at X;subst X;rw[xR,qAb]
  rw[e1]at this;exact this;rw[G];unfold maxLen at hm;omega;obtain⟨i,hi,rfl⟩:=vW.1 hy;obtain⟨_,_,_,h2,_⟩:=hf i (wJ.1 hi);exact h2;have:=IC f Dd (List.range len) (λi hi=>by
   obtain⟨_,_,_,_,h3⟩:=hf i (wJ.1 hi);exact h3)
  simp only[ku,rG];omega;rename_i fs L;split at h;case h_2=>cases h
  rename_i ty' hfs;split at h;case isFalse=>cases h
  rename_i hsz;cases h;obtain⟨xs,m,_,rfl,hcl,hxl,hf⟩:=DataW.trod_struct L hx;obtain⟨d,d1,d2,d3⟩:=uS (cs:=cs) (n:=m) (T:=tyB P n) (λt' ty' ht' A x' hx'=>uT n ht' _ _ _ hx') fs.toList 0 ty xs hfs (by simpa using hxl)
   (λi f' hi=>hf i f' (by simpa using hi)) Z
  refine⟨d,by simpa using d1,d2,?_⟩;simp only[rG];omega;cases h
abbrev TT:=Bool×Ty
def Zf:List TT->Type|[]=>PUnit|p::r=>p.2.den×Zf r
def aDa(p:TT)(x:p.2.den):AV:=match p.1 with|true=>.agg (cellsOf p.2 x)|false=>.dat p.2 x
def avs:(l:List TT)->Zf l->List AV|[],_=>[]|p::r,x=>aDa p x.1::avs r x.2
def okL:(l:List TT)->Zf l->Prop|[],_=>True|p::r,x=>okT p.2 x.1/\okL r x.2
def XW:(l:List TT)->Zf l->Nat|[],_=>0|p::r,x=>ku p.2 x.1+XW r x.2
def ttB(P:Program)(t:TypeId)(p:TT):Bool:=decide (tyB P 12 t=some p.2)&&(match P.underlying t with
 |some (.struct _)=>p.1|some (.int _)|some .bool|some .string|some (.slice _)=>!p.1|_=>false)
def Uy(P:Program):List TypeId->List TT->Bool|[],[]=>true|t::ts,p::ps=>ttB P t p&&Uy P ts ps|_,_=>false
theorem open_arg{t:TypeId}{p:TT}{base:Nat}{v:Value}{d:DataW H}{ps:List MemPlace}(z:ttB P t p=true)(f:Value.okWide P w .any base t v)
  (h:DataW.Trod enc P w 0 (λ_=>true) true t v d ps):∃x:p.2.den,(aDa p x).rel P ⟨w,N8 w,noM,noE⟩ v/\okT p.2 x/\ku p.2 x<=rG d:=by
 unfold ttB at z;simp only[qE,qF]at z;obtain⟨y,j⟩:=z;obtain⟨fuel,L⟩:=h;obtain⟨x,x1,x2,A⟩:=uT 12 y _ _ _ L;refine⟨x,?_,x2,A⟩;have plain:(∀cs,v≠.agg cs)->p.1=false->(aDa p x).rel P ⟨w,N8 w,noM,noE⟩ v:=λG X=>by
  have e:v.cells.toList=[v]:=by cases v<;>first | rfl | exact(G _ rfl).elim
  rw[e]at x1;unfold aDa;rw[X];exact x1
 split at j
 .rename_i fs u;have:∃cs,v=.agg cs:=by
   unfold Value.okWide at f;rw[u]at f;obtain⟨cs,e,_⟩:=f;exact⟨cs,e⟩
  obtain⟨cs,rfl⟩:=this;unfold aDa;rw[j];refine⟨cs.toList,rfl,b8 (C:=⟨w,N8 w,noM,noE⟩) ?_⟩;exact x1
 all_goals first
  | cases j
  | (rename_i u
     refine plain (λcs e=>?_) (by simpa using j);subst e;simp[Value.okWide,u,Cell.okWide,Cell.ok]at f)
theorem Gw:∀{ts:List TypeId}{l:List TT}{vs:Lv}{ds:List (DataW H)}{ps:List MemPlace}{base:Nat},Uy P ts l=true->
  (∀(j:Nat) t v,ts[j]?=some t->vs[j]?=some v->Value.okWide P w .any base t v)->DataW.TrodAll enc P w 0 (λ_=>true) true ts vs ds ps->
  ∃x:Zf l,AV.relL P ⟨w,N8 w,noM,noE⟩ (avs l x) vs/\okL l x/\XW l x<=lM ds
 |[],[],vs,ds,ps,base,_,_,h=>by
  obtain⟨rfl,rfl,rfl⟩:=trodAll_nil h;exact⟨PUnit.unit,rfl,trivial,wK _⟩
 |t::ts,p::l,vs,ds,ps,base,f,A,h=>by
  obtain⟨v,u,d,ds',p1,q,rfl,rfl,rfl,h1,h2⟩:=trodAll_cons h;simp only[Uy,qE]at f;obtain⟨x,x1,x2,x3⟩:=open_arg f.1 (A 0 t v rfl rfl) h1;obtain⟨y,L,G,y3⟩:=Gw f.2 (λj X v' hj z=>A (j+1) X v' (by simpa using hj) (by simpa using z)) h2;exact⟨(x,y),⟨v,u,rfl,x1,L⟩,⟨x2,G⟩,by simp only[XW,lM];omega⟩
 |[],_::_,_,_,_,_,f,_,_=>by simp[Uy]at f|_::_,[],_,_,_,_,f,_,_=>by simp[Uy]at f
theorem HL{W W':World}(z:laidOutB P=true)(hb:Below W.heap.size W W'):∀{ts:List TypeId}{vs:Lv}{ds:List (DataW H)}{ps:List MemPlace},
  (ts.all λt=>P.readableRec t&&decide (t<P.types.size))=true->DataW.TrodAll enc P W 0 (λ_=>true) true ts vs ds ps->(∀x∈ps,x.block<W.heap.size)->
  ∀sp:Nat->Bool,(∀x∈ps,sp x.block=true)->DataW.TrodAll enc P W' 0 sp true ts vs ds ps
 |[],vs,ds,ps,_,h,_,sp,_=>by
  obtain⟨rfl,rfl,rfl⟩:=trodAll_nil h;exact trodAll_mk0
 |t::ts,vs,ds,ps,y,h,u,sp,j=>by
  obtain⟨v,A,d,ds',p1,q,rfl,rfl,rfl,L,G⟩:=trodAll_cons h;simp only[qBa,qE,qF]at y;have X:=WideElems.Trod_stays (enc:=enc) (sp':=sp) z y.1.1 y.1.2 L (λx f=>hb.same (u x (qI.2 (.inl f)))) (λx f=>j x (qI.2 (.inl f)));exact⟨p1,q,X,HL z hb (by simpa using y.2) G (λx f=>u x (qI.2 (.inr f))) sp (λx f=>j x (qI.2 (.inr f))),rfl⟩
theorem law_contractG{G:List (Nat×AV)}{f:FuncId}{fn:Func}{s:ChangeSpec}{apart fresh z again:Bool}{l:List TT}{X:Zf l->Prop}{rt:TypeId}(hf:∀x:Zf l,X x->aj P G f (avs l x) [] ⟨True,.dat .bool true,[]⟩)
  (htt:Uy P fn.params.toList l=true) (hl:laidOutB P=true) (hrd:(fn.params.toList.all λt=>P.readableRec t&&decide (t<P.types.size))=true)
  (hrt:fn.resultTypes=#[rt]) (y:P.underlying rt=some .bool) (u:s.vars=[])
  {W:World}{base:Nat}{args:Array Value}{ds gs:List (DataW H)}{before:List MemPlace}
  (L:ds.length=l.length->s.fn H ds={results:=[.lit (.bool true)],args:=ds})
  (hval:∀(j:Nat) t v,fn.params[j]?=some t->args[j]?=some v->Value.okWide P W .any base t v)
  (hW:DataW.Whole enc P fn.params.toList s.vars apart W args.toList ds gs before)
  (hX:∀x:Zf l,okL l x->XW l x<=lM ds->X x) (hG:jG P ⟨W,N8 W,noM,noE⟩ G):
  Calls P f args W λe W'=>∃v,e=.returned v/\s.post enc P fn apart fresh z again W args v W':=by
 obtain⟨p,q,hA,hV,A,hfz,hnd⟩:=id hW;rw[u]at hV;obtain⟨rfl,rfl⟩:=trodVars_none hV;rw[wH]at A;subst A;have hlt:∀x∈before,x.block<W.heap.size:=λx hx=>hW.lt x hx;obtain⟨x,x1,x2,x3⟩:=Gw (l:=l) htt (λj t v h1 h2=>hval j t v (by simpa using h1) (by simpa using h2)) hA;have hsl:∀{ts:List TypeId}{l:List TT}{vs:Lv}{ds:List (DataW H)}{p:List MemPlace},Uy P ts l=true->DataW.TrodAll enc P W 0 (λ_=>true) true ts vs ds p->ds.length=l.length:=by
  intro ts;induction ts with
  |nil=>
   intro l vs ds p ht h;obtain⟨rfl,rfl,rfl⟩:=trodAll_nil h;cases l with
   |nil=>rfl|cons _ _=>simp[Uy]at ht
  |cons t ts ih=>
   intro l vs ds p ht h;obtain⟨v,vs',d,ds',p1,q,rfl,rfl,rfl,h1,h2⟩:=trodAll_cons h;cases l with
   |nil=>simp[Uy]at ht|cons _ l=>
    simp only[Uy,qE]at ht;simp[ih ht.2 h2]
 have hfn:=L (hsl htt hA);have hcall:=(hf x (hX x x2 x3)).data trivial (w:=W) (D:=N8 W) (us:=args.toList) (λb hb=>hb) hG x1;refine hcall.mono λe W' he=>?_;obtain⟨v,rfl,hb,hv⟩:=he;have hv:v=.bool true:=by simpa[AV.rel,ae]using hv
 subst hv;refine⟨_,rfl,BN (pa:=before) (pv:=[]) hW hb (λb sp hd=>?_) (λsp hsp=>?_) (λsp _=>?_) (by simp) (ok_one hrt rfl (okWide_bool_mk y _))⟩;rw[wH,hfn,hrt];exact trodAll_mk1 (shut_bool y true);rw[wH,hfn];exact HL hl hb hrd hA hlt sp hsp;rw[u,wH,hfn];exact rfl
theorem laid_strs{n:String}{g:Nat}{ta te m:Nat}{w:World}{xs:List ByteArray}(hg:P.globalNamed n=some g)(ht:(P.globals[g]?).map (·.type)=some ta)(ha:P.underlying ta=some (.array m te))
  (he:P.underlying te=some .string) (hc:P.cellsOf te=1) (hsz:m<=9223372036854775807) (hne:0<m) {r:List (String×DataW Unit)}{ps:List MemPlace}
  (h:DataW.LaidVars P w ((n,.agg (xs.map λs=>.lit (.string s.data.toList)))::r) ps) (hca:P.cellsOf ta=m:=by kernel_rfl):jG P ⟨w,N8 w,noM,noE⟩ [(g,.ia .str xs)]/\∃ps',DataW.LaidVars P w r ps':=by
 obtain⟨g',t',cs,fuel,p,q',hg',ht',hv,hd,hr,_⟩:=h;obtain rfl:=wE (hg.symm.trans hg');obtain rfl:=wE (ht.symm.trans ht');refine⟨λz hz=>?_,q',hr⟩;obtain rfl:=qX.1 hz;obtain⟨ys,f,rfl,hx,X,hm,hel⟩:=DataW.trod_array ha hd;simp only[kL,DataW.agg.injEq]at hx;have hxl:xs.length=m:=by
  have:=yF List.length hx.1;simpa[hm]using this
 have cell:∀i (hi:i<m),∃y,xs[i]?=some y/\w.cell? ⟨g,i,none⟩=some (.string y):=by
  intro i hi;have h1:=hel i hi;rw[hc,xI,qB Z]at h1;obtain⟨s,e1,e2,_⟩:=DataW.trod_string he h1;have h2:cs[i]?=some (.string s):=by
   have:=yF (·[0]?) e1;simpa[vV,vF]using this
  refine⟨s,?_,by rw[World.var?_cell hg hv];exact h2⟩;have h3:=yF (·[i]?) hx.1;simp only[qQ,qB (show i<ys.length by omega),qB (show i<xs.length by omega),zZ,vT]at h3;rw[e2]at h3;simp only[DataW.lit.injEq,Lit.string.injEq]at h3;rw[qB Z];have:xs[i].data=s.data:=Array.toList_inj.1 h3;cases hx':xs[i]with|mk d=>cases s with|mk d'=>rw[hx']at this;exact yF some (yF ByteArray.mk this)
 have G:N8 w g:=by
  obtain⟨y,_,h2⟩:=cell 0 hne;show g<w.heap.size;unfold World.cell? at h2;split at h2;rename_i c t' fr L;exact(qJ.1 L).1;cases h2
 refine⟨rfl,⟨g,0,rfl,some ⟨g,0,none⟩,xs.length,by rfl,qL _,(λh=>by cases h),λa' ha' _=>by cases ha';rfl,λi y hy=>?_⟩,G,?_⟩
 rotate_left
 have A:=hv;simp only[World.var?,hg,Option.bind_some]at A;split at A;rename_i c' el fr L;cases A;exact⟨_,el,fr,L,by rw[<- vI,X,hca];show m=xs.length*1;omega⟩;cases A;have hi:=(qC.1 hy).1;obtain⟨y',e1,e2⟩:=cell i Z;obtain rfl:=wE (hy.symm.trans e1);refine⟨⟨g,0,none⟩,[.string y],rfl,G,λj u hj=>?_,rfl⟩;have:j=0:=by
  have:=(qC.1 hj).1;simp at this;omega
 subst this;obtain rfl:Value.string y=u:=by simpa using hj
 simpa[Ty.sz]using e2
end
end Go.Eng
