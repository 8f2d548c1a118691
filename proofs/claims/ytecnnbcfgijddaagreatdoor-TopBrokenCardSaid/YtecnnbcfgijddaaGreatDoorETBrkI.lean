/- ToD -/
import Derived.Test.YtecnnbcfgijddaaGreatDoorETBrkH
import Derived.WalkSpells
import Derived.StillTactics
import Derived.Laws.Pointers
import Derived.Deep.RegionHeld3
import Derived.Deep.DrawnRows
import Derived.BigQuiet
import Derived.Deep.QuietTactic
import Derived.BigRegion
import Derived.Maps.OwnOps
import Derived.KernelRfl
set_option linter.unusedSimpArgs false
set_option linter.unusedVariables false
namespace Go.Eng.Top
open Go.Proofs Go.RowKit
variable {tg tg':Tag} {O:Nat->Prop} {W W':World} {R k:Nat} {g g':Gh} {r r':Raw}
set_option maxRecDepth 100000 in
theorem xu(h:jF W R tg k g r){ls:List ByteArray}{lb:ByteArray}(A:r.la=ls++[lb])(hn:ls.length<100000):
  Calls Tryz.prog 161 #[.pointer (some ⟨g.b,0,none⟩)] W λe L=>e=.returned (.string lb)/\∃m,L=W.drewN m:=by
 have f:r.la.length=ls.length+1:=by rw[A];simp
 obtain⟨b,X,z,_⟩:=h.la.pos Z;have G:=h.cell (j:=8) (u:=g.la) rfl;have y:=h.la;rw[z]at G y;rw[f]at G;have cl:W.cell? ⟨b,ls.length,none⟩=some (.string lb):=y.cell (by rw[A];simp);clear y z f h
 go_enter Tryz.func161,Tryz.ntmps161
 go_wp2
 go_quiet (fail)
 go_wp2
 go_ret
 exact⟨rfl,_,rfl⟩
set_option maxRecDepth 100000 in
theorem Nq(h:jF W R tg k g r){ss:List (Int×Int×Int×Int)}{s:Int×Int×Int×Int}(G:r.st=ss++[s])(X:ss.length<100000):
  Calls Tryz.prog 108 #[.pointer (some ⟨g.b,0,none⟩)] W λe A=>(∃b y,g.st=.slice (some ⟨b,0,none⟩) (ss.length+1) y/\e=.returned (.pointer (some ⟨b,ss.length*4,none⟩)))/\∃m,A=W.drewN m:=by
 have f:r.st.length=ss.length+1:=by rw[G];simp
 obtain⟨b,y,z,_⟩:=h.st.pos Z;have L:=h.cell (j:=5) (u:=g.st) rfl;rw[z,f]at L;rw[f]at z;clear f h
 go_enter Tryz.func108,Tryz.ntmps108
 go_wp2
 go_quiet (fail)
 go_wp2
 go_ret
 exact⟨⟨b,y,z,rfl⟩,_,rfl⟩
end Go.Eng.Top
namespace Go.Eng.Top
open Go.Proofs Go.RowKit
structure Dat where
 N:Nat
 nx:Int->Int->Int
 ps:Int->Int
 mn:Int->Int
 lto:Int->Int
 ltr:Int->Int
 dE:Int->Int->Int
 dD:Int->Int->Int
 lin:Int->Prop
 ia:Int->ByteArray
structure Env(w0:World)(R:Nat)(c:HC)(d:Dat):Prop where
 nxt:∀o t:Nat,o<d.N->t<d.N->∃(b f n cap b' f' m cap':Nat),c.nx=.slice (some ⟨b,f,none⟩) n cap/\(o:Int)<n/\b<R/\w0.cell? ⟨b,f+o,none⟩=some (.slice (some ⟨b',f',none⟩) m cap')/\(t:Int)<m/\b'<R/\w0.cell? ⟨b',f'+t,none⟩=some (.int .i64 (d.nx o t))
 off:∀o:Nat,o<d.N->∃(b f n cap:Nat) (u0:ByteArray) (u1 u2 u3:Int) (u6:Option Addr) (u7 u8:Nat),c.n3=.slice (some ⟨b,f,none⟩) n cap/\(o:Int)<n/\b<R/\(w0.cell? ⟨b,f+o*7,none⟩=some (.string u0)/\w0.cell? ⟨b,f+o*7+1,none⟩=some (.int .i64 u1)/\w0.cell? ⟨b,f+o*7+2,none⟩=some (.int .i64 u2)/\
  w0.cell? ⟨b,f+o*7+3,none⟩=some (.int .i64 u3)/\w0.cell? ⟨b,f+o*7+4,none⟩=some (.int .i64 (d.ps o))/\w0.cell? ⟨b,f+o*7+5,none⟩=some (.int .i64 (d.mn o))/\w0.cell? ⟨b,f+o*7+6,none⟩=some (.slice u6 u7 u8))
 offb:∀o:Nat,o<d.N->0<=d.ps o/\d.ps o<=100/\0<=d.mn o/\d.mn o<=100000
 nxb:∀o t:Nat,o<d.N->t<d.N->(Lit.int .i64 (d.nx o t)).wf=true/\(0<=d.nx o t->d.lin (d.nx o t))
 dep:∀(W:World) (l t:Int),Below R w0 W->d.lin l->0<=t->t<=100000000->Calls Tryz.prog 160 #[.agg #[c.n0,c.n1,c.n2,c.n3,c.n4,c.n5],.int .i64 l,.int .i64 t] W λe w'=>e=.returned (.tuple #[.int .i64 (d.dD l t),.int .i64 (d.dE l t)])/\Below W.heap.size W w'
 lns:∀l:Nat,d.lin l->∃(b f n cap:Nat) (u0:ByteArray) (u1 u3 u5:Int),c.n4=.slice (some ⟨b,f,none⟩) n cap/\(l:Int)<n/\b<R/\(w0.cell? ⟨b,f+l*6,none⟩=some (.string u0)/\w0.cell? ⟨b,f+l*6+1,none⟩=some (.int .i64 u1)/\w0.cell? ⟨b,f+l*6+2,none⟩=some (.int .i64 (d.lto l))/\
  w0.cell? ⟨b,f+l*6+3,none⟩=some (.int .i64 u3)/\w0.cell? ⟨b,f+l*6+4,none⟩=some (.int .i64 (d.ltr l))/\w0.cell? ⟨b,f+l*6+5,none⟩=some (.int .i64 u5))
 lnb:∀l:Int,d.lin l->0<=l/\l<=100000/\0<=d.lto l/\d.lto l<d.N/\0<=d.ltr l/\d.ltr l<=100000
 ita:∀(W:World) (n:Int),Below R w0 W->0<=n->n<=100000000->Calls Tryz.prog 57 #[.int .i64 n] W λe w'=>e=.returned (.string (d.ia n))/\Below W.heap.size W w'
 iab:∀n:Int,(d.ia n).size<=100
 depb:∀l t:Int,d.lin l->0<=t->d.dE l t=0->t<=d.dD l t/\d.dD l t<=2200000
def Bt(d:Dat)(l:Int):Nat->Int->Int->Bool×Int|0,lv,_=>(true,lv)|k+1,lv,t=>if d.dE l t=0 then Bt d l k (d.dD l t) (d.dD l t+1)else(false,lv)
def TA(d : Dat)(cc : Li)(off arr sn qy : Int)(r : Raw):Raw :=
  if r.lo = true ∨ off = qy then { r with ln := -1 }
  else if d.nx off qy < 0 ∨ d.nx off qy ∈ cc then { r with ln := -1 }
  else { r with ln := if (Bt d (d.nx off qy) (r.hd + 1).toNat r.lv (max (arr + d.ps off * d.mn off) sn)).1 = true then d.nx off qy else -1,
                lv := (Bt d (d.nx off qy) (r.hd + 1).toNat r.lv (max (arr + d.ps off * d.mn off) sn)).2 }
variable {tg tg':Tag} {Op:Nat->Prop} {w0 W W':World} {R k:Nat} {g g':Gh} {r r':Raw} {c:HC} {d:Dat} {rs:List Raw} {cc:Li} {gs:List Gh} {iv:Value}
theorem Hist.alloc(h:Hist W R tg c rs cc gs iv)(o:Obj):Hist (W.alloc o) R tg c rs cc gs iv:=h.fr (Frm.alloc (O:=λ_=>False) h.new o) λ_ _ h=>h
theorem KX{α:Type}{l:List α}{k:Nat}{x:α}(h:l[k]?=some x):l.set k x=l:=by
 apply wQ;intro j;rw[vS];by_cases e:k=j;subst e;rw[if_pos rfl,h,if_pos (qC.1 h).1];rw[if_neg e]
theorem Hist.itemS(h:Hist W R tg c rs cc gs iv)(j:gs[k]?=some g)(u:rs[k]?=some r)(f:Frm tg (itT k) W W' tg')(z:jF W' R tg' k g r')(y:r'.po=r.po):Hist W' R tg' c (rs.set k r') cc gs iv:=by
 have:=h.item j u f z rfl y;rw[KX j]at this;exact this
theorem jF.drewN(h:jF W R tg k g r)(m:Nat):jF (W.drewN m) R tg k g r:=⟨h.cel,h.bR,h.tb,⟨h.st.own,h.st.tag⟩,⟨h.si.own,h.si.tag⟩,⟨h.la.own,h.la.tag⟩,⟨h.se.own,h.se.tag⟩⟩
theorem Hist.drewN(h:Hist W R tg c rs cc gs iv)(m:Nat):Hist (W.drewN m) R tg c rs cc gs iv:=
 ⟨h.new,h.low,h.RW,h.hc,h.th,h.tn,h.tc,⟨h.rows.own,h.rows.tag⟩,h.len,λk g r j f=>(h.it k g r j f).drewN m,h.nm,h.ca⟩
theorem VS{v:Value}{b:Nat}{ps:List MemPlace}(h:aDJ v=some (.lit (.int .i64 (b:Int)),ps)):v=.pointer (some ⟨b,0,none⟩):=by
 unfold aDJ at h;split at h;simp only[vT,kL,DataW.lit.injEq,Lit.int.injEq,yE]at h;have:_=b:=Int.ofNat.inj h.1;rw[this];simp only[vT,kL,DataW.lit.injEq,Lit.int.injEq,yE]at h;omega;cases h
theorem Ik{P:Program}{e:TypeId}(j:P.underlying e=some .bool){v:Value}{x:Bool}{ps:List MemPlace}(h:plainElem (H:=Unit) P e v=some (.lit (.bool x),ps)):v=.bool x:=by
 unfold plainElem at h;rw[j]at h;split at h;simp only[vT,kL,DataW.lit.injEq,Lit.bool.injEq]at h;rw[h.1];rename_i f;cases f;rename_i f;cases f;cases h
theorem Hist.look(h:Hist W R tg c rs cc gs iv)(y:gs[k]?=some g)(u:rs[k]?=some r)(j:r.po.1.size<=maxLen):(Instr.lookup 97 (.map (some c.nb)) (.string r.po.1) false).run Tryz.prog W=.ok (.pointer (some ⟨g.b,0,none⟩)) W:=by
 obtain⟨D,G,_,A⟩:=h.nm;obtain⟨v,L,e,f⟩:=G.lookup (Maps.string_keyed Tryz.underlying9) Tryz.underlying97 (e:=106) (z:=.pointer none) (zd:=.lit (.int .i64 (-1))) (zp:=[]) (Tryz.zeroValue106 _) rfl (key:=.string r.po.1) (WideMaps.keyOf_string_mk Tryz.underlying9 j);rw[show D.atKey (Lit.string r.po.1.data.toList) (.lit (.int .i64 (-1)))=.lit (.int .i64 g.b)from A k g r y u]at f;rw[e,VS f]
theorem Hist.lookc(h:Hist W R tg c rs cc gs iv){l:Int}(j:(Lit.int .i64 l).wf=true):(Instr.lookup 98 (.map (some c.cb)) (.int .i64 l) false).run Tryz.prog W=.ok (.bool (decide (l∈cc))) W:=by
 obtain⟨D,y,_,u⟩:=h.ca;obtain⟨v,A,e,f⟩:=y.lookup (Maps.int_keyed Tryz.underlying3) Tryz.underlying98 (e:=4) (z:=.bool false) (zd:=.lit (.bool false)) (zp:=[]) (Tryz.zeroValue4 _) (plainElem_bool Tryz.underlying4 _) (key:=.int .i64 l) (Maps.keyOf_int_mk Tryz.underlying3 j);rw[u l]at f;rw[e,Ik Tryz.underlying4 f]
theorem EK(ss:List (Int×Int×Int×Int)):(ss.flatMap kO).length=ss.length*4:=by
 induction ss with
 |nil=>rfl|cons s ss f=>rw[kT,qG,f,wR];show 4+_=_;omega
theorem ff{t b n f:Nat}{l ss:List (Int×Int×Int×Int)}{s:Int×Int×Int×Int}(h:eU W R tg t 61 4 (.slice (some ⟨b,0,none⟩) n f) l.length (l.flatMap kO))(j:l=ss++[s]){i:Nat}{u:Value}(y:(kO s)[i]?=some u):W.cell? ⟨b,ss.length*4+i,none⟩=some u:=by
 obtain⟨_,_,e,_⟩:=h.pos (by rw[j];simp);cases e;refine h.cell ?_;rw[j,kX,qV (by rw[EK];omega),EK,kT,qCv,wH];rw[show ss.length*4+i-ss.length*4=i by omega];exact y
theorem cT(h:∀b,b<R->tg b=0)(z:R<=W.heap.size)(u:Below R w0 W)(f:Frm tg Op W W' tg')(y:¬Op 0):Below R w0 W' :=
 u.trans ⟨f.chg.os,f.chg.tape,f.chg.output,f.chg.size,λb j=>f.lo Z (by rw[h b j];exact y)⟩
set_option maxRecDepth 100000 in
set_option maxHeartbeats 4000000 in
theorem aCf{r:Raw}{f:List Raw}{k:Nat}(x:Raw)(z:x.po=r.po)(y:f[k]?=some r){j:Nat}{u:Raw}(h:f[j]?=some u):∃q,(f.set k x)[j]?=some q/\q.po=u.po:=by
 rw[vS];by_cases e:k=j;subst e;rw[if_pos rfl,if_pos (qC.1 h).1];cases y.symm.trans h;exact⟨x,rfl,z⟩;rw[if_neg e];exact⟨u,h,rfl⟩
set_option maxRecDepth 100000 in
set_option maxHeartbeats 4000000 in
theorem XU(E:Env w0 R c d)(H:Hist W R tg c rs cc gs iv)(hB:Below R w0 W)(hg:gs[k]?=some g)(hr:rs[k]?=some r)
  {ss:List (Int×Int×Int×Int)} {O T:Nat} {arr d1 l1:Int} (hst:r.st=ss++[((O:Int),arr,d1,l1)]) (hss:ss.length<1000)
  {ls:List ByteArray} {lb:ByteArray} (hla:r.la=ls++[lb]) (hls:ls.length<1000)
  {sl:Li} {sn:Int} (hsi:r.si=sl++[sn]) (hsl:sl.length<1000)
  {j:Nat} {rj:Raw} {gj:Gh} (hgj:gs[j]?=some gj) (hrj:rs[j]?=some rj) (hlb:rj.po.1=lb)
  (hz:lb.size<=1000) (ho:O<d.N) (hT:rj.po.2.2.1=T) (ht:T<d.N) (ha:0<=arr/\arr<=3000000) (hs:0<=sn/\sn<=3000000) (hh:0<=r.hd/\r.hd<=1000):
  Calls Tryz.prog 109 #[.pointer (some ⟨c.hb,0,none⟩),.pointer (some ⟨g.b,0,none⟩)] W λe y=>e=.returned (.tuple #[])/\
   Frm tg (itT k) W y tg/\Hist y R tg c (rs.set k (TA d cc O arr sn T r)) cc gs iv:=by
 have hI:=H.it k g r hg hr;have c11:=hI.cell (j:=11) (u:=.int .i64 r.ln) rfl;have f11:=hI.free 11;obtain⟨hI1,hF1⟩:=hI.scal (r':={r with ln:=-1}) H.new (o:=11) (u:=.int .i64 (-1)) rfl rfl rfl rfl rfl;obtain⟨W1,hW1⟩:∃W1,W.setCell ⟨g.b,11,none⟩ (.int .i64 (-1))=W1:=⟨_,rfl⟩;rw[hW1]at hI1 hF1;have H1:=H.itemS hg hr hF1 hI1 rfl;have hlast:=Nq hI1 (ss:=ss) (s:=((O:Int),arr,d1,l1)) hst Z
 go_enter Tryz.func109,Tryz.ntmps109
 go_wp2_with (first
  | (go_at_call 108;refine hlast.mono ?_;rintro e y ⟨⟨b,cap,hb,rfl⟩,m,rfl⟩))
 generalize hW2:W1.drewN m=W2;have hI2:jF W2 R tg k g {r with ln:=-1}:=hW2▸hI1.drewN m;have H2:Hist W2 R tg c (rs.set k {r with ln:=-1}) cc gs iv:=hW2▸H1.drewN m;obtain⟨rj',hrj',hpj⟩:=aCf (r:=r) {r with ln:=-1} rfl hr hrj;have hlk:∀m,(Instr.lookup 97 (.map (some c.nb)) (.string lb) false).run Tryz.prog (W2.drewN m)=.ok (.pointer (some ⟨gj.b,0,none⟩)) (W2.drewN m):=λm=>by
  have:=(H2.drewN m).look hgj hrj' (by rw[hpj,hlb];unfold maxLen;omega);rw[hpj,hlb]at this;exact this
 have h8:W2.cell? ⟨c.hb,8,none⟩=some (.map (some c.nb)):=H2.cell (j:=8) rfl;have cto:W2.cell? ⟨gj.b,2,none⟩=some (.int .i64 T):=by rw[<- hT,<- hpj];exact(H2.it j gj rj' hgj hrj').cell (j:=2) rfl
 have i6:W2.cell? ⟨g.b,6,none⟩=some (.bool r.lo):=hI2.cell (j:=6) rfl;have s0:W2.cell? ⟨b,ss.length*4,none⟩=some (.int .i64 O):=ff (hb▸hI2.st) hst (i:=0) rfl;have hcar:∀n,Calls Tryz.prog 161 #[.pointer (some ⟨g.b,0,none⟩)] (W2.drewN n) λe y=>e=.returned (.string lb)/\∃q,y=(W2.drewN n).drewN q:=λn=>xu (hI2.drewN n) hla Z
 go_quiet (first | (go_at_call 161;exact Calls.quiet_of (hcar _)))
 generalize hW3:W2.drewN nq=W3;have hI3:jF W3 R tg k g {r with ln:=-1}:=hW3▸hI2.drewN nq;have H3:Hist W3 R tg c (rs.set k {r with ln:=-1}) cc gs iv:=hW3▸H2.drewN nq;have F3:Frm tg (itT k) W W3 tg:=hF1.trans (hW3▸hW2▸((Frm.refl H1.new).drewN m).drewN nq);clear hlk h8 cto i6 s0 hcar;have i6:W3.cell? ⟨g.b,6,none⟩=some (.bool r.lo):=hI3.cell (j:=6) rfl
 have s0:W3.cell? ⟨b,ss.length*4,none⟩=some (.int .i64 O):=ff (hb▸hI3.st) hst (i:=0) rfl;by_cases hlo:r.lo=true
 .go_wp2
  refine bodyPost_ret (results_none rfl _ _ _) rfl ⟨rfl,F3,?_⟩;unfold TA;rw[if_pos (.inl hlo)];exact H3
 have hlo':r.lo=false:=by simpa using hlo
 by_cases X:(O:Int)=T
 .have hot':((O:Int)==(T:Int))=true:=by simpa using X
  go_wp2
  refine bodyPost_ret (results_none rfl _ _ _) rfl ⟨rfl,F3,?_⟩;unfold TA;rw[if_pos (.inr X)];exact H3
 have hot':((O:Int)==(T:Int))=false:=by simpa using X
 go_wp2
 obtain⟨bn,fn,nn,cn,br,fr,nr,cr,e6,on,bnR,cn1,tn,brR,cn2⟩:=E.nxt O T ho ht;have B3:Below R w0 W3:=cT H.low H.RW hB F3 (λh=>by have:=h.1;omega);have h6:W3.cell? ⟨c.hb,6,none⟩=some (.slice (some ⟨bn,fn,none⟩) nn cn):=e6▸H3.cell (j:=6) rfl;have cn1':W3.cell? ⟨bn,fn+O,none⟩=some (.slice (some ⟨br,fr,none⟩) nr cr):=(B3.cell (p:=⟨bn,fn+O,none⟩) bnR).trans cn1
 have cn2':W3.cell? ⟨br,fr+T,none⟩=some (.int .i64 (d.nx O T)):=(B3.cell (p:=⟨br,fr+T,none⟩) brR).trans cn2;have O0:(0:Int)<=O:=Z;have T0:(0:Int)<=T:=Z
 go_quiet (fail)
 generalize hW4:W3.drewN nq=W4;have hI4:jF W4 R tg k g {r with ln:=-1}:=hW4▸hI3.drewN nq;have H4:Hist W4 R tg c (rs.set k {r with ln:=-1}) cc gs iv:=hW4▸H3.drewN nq;have F4:Frm tg (itT k) W W4 tg:=hW4▸F3.drewN nq;have B4:Below R w0 W4:=cT H.low H.RW hB F4 (λh=>by have:=h.1;omega);clear h6 cn1' cn2' i6 s0;obtain⟨nw,nl⟩:=E.nxb O T ho ht
 have h9:W4.cell? ⟨c.hb,9,none⟩=some (.map (some c.cb)):=H4.cell (j:=9) rfl;have hlk:=H4.lookc nw;generalize hL:d.nx O T=L at *;by_cases hL0:L<0
 .go_wp2
  refine bodyPost_ret (results_none rfl _ _ _) rfl ⟨rfl,F4,?_⟩;unfold TA;rw[if_neg (by simp[hlo,X]),if_pos (.inl (by rw[hL];exact hL0))];exact H4
 by_cases hLc:L∈cc
 .have hd:decide (L∈cc)=true:=by simpa using hLc
  rw[hd]at hlk;have hL0':decide (L<0)=false:=by simpa using hL0
  go_wp2
  refine bodyPost_ret (results_none rfl _ _ _) rfl ⟨rfl,F4,?_⟩;unfold TA;rw[if_neg (by simp[hlo,X]),if_pos (.inr (by rw[hL];exact hLc))];exact H4
 have hd:decide (L∈cc)=false:=by simpa using hLc
 rw[hd]at hlk;have hL0':decide (L<0)=false:=by simpa using hL0
 go_wp2
 clear h9 hlk;obtain⟨z,G,no,co,u0,u1,u2,u3,u6,u7,u8,e3,oo,boR,q0,q1,q2,q3,q4,q5,q6⟩:=E.off O ho;have h3:W4.cell? ⟨c.hb,3,none⟩=some (.slice (some ⟨z,G,none⟩) no co):=e3▸H4.cell (j:=3) rfl;have s0:W4.cell? ⟨b,ss.length*4,none⟩=some (.int .i64 O):=ff (hb▸hI4.st) hst (i:=0) rfl;have p0:=(B4.cell (p:=⟨z,G+O*7,none⟩) boR).trans q0;have p1:=(B4.cell (p:=⟨z,G+O*7+1,none⟩) boR).trans q1
 have p2:=(B4.cell (p:=⟨z,G+O*7+2,none⟩) boR).trans q2;have p3:=(B4.cell (p:=⟨z,G+O*7+3,none⟩) boR).trans q3;have p4:=(B4.cell (p:=⟨z,G+O*7+4,none⟩) boR).trans q4;have p5:=(B4.cell (p:=⟨z,G+O*7+5,none⟩) boR).trans q5;have p6:=(B4.cell (p:=⟨z,G+O*7+6,none⟩) boR).trans q6;have ne1:W4.heap.size≠c.hb:=by have:=H4.lt.1;omega
 have ne2:W4.heap.size≠b:=by have:=(hI4.st.own.lt b (by rw[hb];rfl)).2;omega
 have ne3:W4.heap.size≠z:=by have:=H4.RW;omega
 generalize hPs:d.ps O=ps at *;generalize hMn:d.mn O=mn at *
 go_region_held3 (λy=>y.cell? ⟨c.hb,3,none⟩=some (.slice (some ⟨z,G,none⟩) no co)/\y.cell? ⟨b,ss.length*4,none⟩=some (.int .i64 O)/\y.cell? ⟨z,G+O*7,none⟩=some (.string u0)/\y.cell? ⟨z,G+O*7+1,none⟩=some (.int .i64 u1)/\
  y.cell? ⟨z,G+O*7+2,none⟩=some (.int .i64 u2)/\y.cell? ⟨z,G+O*7+3,none⟩=some (.int .i64 u3)/\y.cell? ⟨z,G+O*7+4,none⟩=some (.int .i64 ps)/\y.cell? ⟨z,G+O*7+5,none⟩=some (.int .i64 mn)/\y.cell? ⟨z,G+O*7+6,none⟩=some (.slice u6 u7 u8)) (go_keep) (fail)
 obtain⟨W5,hW5⟩:∃W5,(W4.alloc (.cells #[.string u0,.int .i64 u1,.int .i64 u2,.int .i64 u3,.int .i64 ps,.int .i64 mn,.slice u6 u7 u8] 137)).drew=W5:=⟨_,rfl⟩;have H5:Hist W5 R tg c (rs.set k {r with ln:=-1}) cc gs iv:=hW5▸(H4.alloc _).drewN 1;have F5:Frm tg (itT k) W W5 tg:=hW5▸(F4.trans (Frm.alloc H4.new _)).drewN 1
 have b5:W5.heap[W4.heap.size]?=some (.cells #[.string u0,.int .i64 u1,.int .i64 u2,.int .i64 u3,.int .i64 ps,.int .i64 mn,.slice u6 u7 u8] 137 (0,0)):=by rw[<- hW5];exact World.alloc_heap_new W4 _
 rw[hW5];generalize W4.heap.size=B5 at b5 ⊢;clear hW5 h3 s0 p0 p1 p2 p3 p4 p5 p6 q0 q1 q2 q3 q4 q5 q6 ne1 ne2 ne3 e3;have c4:W5.cell? ⟨B5,4,none⟩=some (.int .i64 ps):=by simp[World.cell?,b5]
 have c5:W5.cell? ⟨B5,5,none⟩=some (.int .i64 mn):=by simp[World.cell?,b5]
 clear b5;have hI5:jF W5 R tg k g {r with ln:=-1}:=H5.it k g _ hg (by rw[vS,if_pos rfl,if_pos (qC.1 hr).1]);have s1:W5.cell? ⟨b,ss.length*4+1,none⟩=some (.int .i64 arr):=ff (hb▸hI5.st) hst (i:=1) rfl;obtain⟨bs,cs,hsv,_⟩:=hI5.si.pos (by simp[hsi]);have i7:W5.cell? ⟨g.b,7,none⟩=some (.slice (some ⟨bs,0,none⟩) (sl.length+1) cs):=by
  have:=hI5.cell (j:=7) (u:=g.si) rfl;rw[hsv]at this;simpa[hsi]using this
 have sc:W5.cell? ⟨bs,sl.length,none⟩=some (.int .i64 sn):=(hsv▸hI5.si).cell (by simp[hsi]);have hpm:0<=ps*mn/\ps*mn<=10000000:=by
  obtain⟨g1,g2,g3,g4⟩:=E.offb O ho;rw[hPs]at g1 g2;rw[hMn]at g3 g4;exact⟨qAc g1 g3,qAd g2 g4 g3 (by decide)⟩
 go_wp2
 go_quiet (fail)
 generalize hW6:W5.drewN nq=W6;have H6:Hist W6 R tg c (rs.set k {r with ln:=-1}) cc gs iv:=hW6▸H5.drewN nq;have F6:Frm tg (itT k) W W6 tg:=hW6▸F5.drewN nq;clear c4 c5 s1 i7 sc;have eT:(if arr+ps*mn<sn then sn else arr+ps*mn)=max (arr+d.ps O*d.mn O) sn:=by rw[hPs,hMn];omega
 have t0b:0<=max (arr+d.ps O*d.mn O) sn/\max (arr+d.ps O*d.mn O) sn<=20000000:=by rw[hPs,hMn];omega
 rw[eT];generalize hT0:max (arr+d.ps O*d.mn O) sn=t0 at t0b ⊢;clear eT;have hk':(rs.set k {r with ln:=-1})[k]?=some {r with ln:=-1}:=by rw[vS,if_pos rfl,if_pos (qC.1 hr).1]
 have i10:W6.cell? ⟨g.b,10,none⟩=some (.int .i64 r.hd):=(H6.it k g _ hg hk').cell (j:=10) rfl;obtain⟨M,hM⟩:∃M:Nat,r.hd=M:=⟨r.hd.toNat,Z⟩;rw[hM]at i10
 go_wp2
 go_loopw [105,8] (λi u wr=>∃(q:Nat) (t lv:Int),q<=M+1/\i=.int .i64 q/\u=.int .i64 t/\(0<=t/\t<=20000000)/\Bt d L (M+1) r.lv t0=Bt d L (M+1-q) lv t/\Frm tg (itT k) W wr tg/\Hist wr R tg c (rs.set k {r with ln:=-1,lv:=lv}) cc gs iv)
  (λi _ _=>M+1-(intOf i).toNat)
 case atStart=>exact⟨0,t0,r.lv,wK _,rfl,rfl,t0b,rfl,F6,H6⟩
 case round=>
  obtain⟨q,t,lv,hq,rfl,rfl,tb,htr,Fr,A⟩:=hrel;by_cases hlt:q<M+1
  .have Br:Below R w0 wr:=cT H.low H.RW hB Fr (λh=>by have:=h.1;omega);have hd:=E.dep wr L t Br (nl Z) tb.1 Z;have c0:wr.cell? ⟨c.hb,0,none⟩=some c.n0:=A.cell (j:=0) rfl;have c1:wr.cell? ⟨c.hb,1,none⟩=some c.n1:=A.cell (j:=1) rfl;have c2:wr.cell? ⟨c.hb,2,none⟩=some c.n2:=A.cell (j:=2) rfl;have c3:wr.cell? ⟨c.hb,3,none⟩=some c.n3:=A.cell (j:=3) rfl
   have c4:wr.cell? ⟨c.hb,4,none⟩=some c.n4:=A.cell (j:=4) rfl;have c5:wr.cell? ⟨c.hb,5,none⟩=some c.n5:=A.cell (j:=5) rfl;have hst1:Bt d L (M+1-q) lv t=if d.dE L t=0 then Bt d L (M+1-(q+1)) (d.dD L t) (d.dD L t+1)else(false,lv):=by
    rw[show M+1-q=(M+1-(q+1))+1 by omega];rfl
   have f:(rs.set k {r with ln:=-1,lv:=lv})[k]?=some {r with ln:=-1,lv:=lv}:=by rw[vS,if_pos rfl,if_pos (qC.1 hr).1]
   have eres:TA d cc O arr sn T r={r with ln:=if(Bt d L (M+1) r.lv t0).1=true then L else -1,lv:=(Bt d L (M+1) r.lv t0).2}:=by
    unfold TA;rw[if_neg (by simp[hlo,X]),if_neg (by rw[hL];simp[hLc];omega),hL,hT0,hM,show((M:Int)+1).toNat=M+1 by omega]
   by_cases he:d.dE L t=0
   .rw[he]at hd;rw[if_pos he]at hst1;obtain⟨g1,g2⟩:=E.depb L t (nl Z) tb.1 he
    go_wp2_with (first
     | (go_at_call 160;refine hd.mono ?_;rintro e y ⟨rfl,hb6⟩;have H7:=A.fr (Frm.below (O:=λ_=>False) A.new hb6) (λ_ _ h=>h);have y12:y.cell? ⟨g.b,12,none⟩=some (.int .i64 lv):=(H7.it k g _ hg f).cell (j:=12) rfl;have z12:=(H7.it k g _ hg f).free 12))
    go_roundw
    case rel=>
     obtain⟨hI8,F8⟩:=(H7.it k g _ hg f).scal (r':={r with ln:=-1,lv:=d.dD L t}) H7.new (o:=12) (u:=.int .i64 (d.dD L t)) rfl rfl rfl rfl rfl;have H8:=H7.itemS hg f F8 hI8 rfl;rw[List.set_set]at H8;exact⟨q+1,d.dD L t+1,d.dD L t,Z,by simp,by simp,Z,by rw[htr,hst1],(Fr.trans (Frm.below A.new hb6)).trans F8,H8⟩
    case measure=>simp[intOf];omega
   .have hne:(d.dE L t != 0)=true:=by simpa using he
    rw[if_neg he]at hst1
    go_wp2_with (first
     | (go_at_call 160;refine hd.mono ?_;rintro e y ⟨rfl,hb6⟩;have H7:=A.fr (Frm.below (O:=λ_=>False) A.new hb6) (λ_ _ h=>h)))
    refine bodyPost_ret (results_none rfl _ _ _) rfl ⟨rfl,Fr.trans (Frm.below A.new hb6),?_⟩;rw[eres,htr,hst1];exact H7
  .obtain rfl:q=M+1:=by omega
   have f:(rs.set k {r with ln:=-1,lv:=lv})[k]?=some {r with ln:=-1,lv:=lv}:=by rw[vS,if_pos rfl,if_pos (qC.1 hr).1]
   have y11:wr.cell? ⟨g.b,11,none⟩=some (.int .i64 (-1)):=(A.it k g _ hg f).cell (j:=11) rfl;have z11:=(A.it k g _ hg f).free 11;have eres:TA d cc O arr sn T r={r with ln:=if(Bt d L (M+1) r.lv t0).1=true then L else -1,lv:=(Bt d L (M+1) r.lv t0).2}:=by
    unfold TA;rw[if_neg (by simp[hlo,X]),if_neg (by rw[hL];simp[hLc];omega),hL,hT0,hM,show((M:Int)+1).toNat=M+1 by omega]
   go_wp2
   obtain⟨hI8,F8⟩:=(A.it k g _ hg f).scal (r':={r with ln:=L,lv:=lv}) A.new (o:=11) (u:=.int .i64 L) rfl rfl rfl rfl rfl;have H8:=A.itemS hg f F8 hI8 rfl;rw[List.set_set]at H8
   go_end0
   refine⟨rfl,Fr.trans F8,?_⟩;rw[eres,htr,qAg];exact H8
end Go.Eng.Top
namespace Go.Eng.Top
open Go.Proofs Go.RowKit
structure Itm where
 post:Pst
 done:List (Int×Int×Int×Int)
 off:Int
 arr:Int
 lost:Bool
 sL:Li
 sn:Int
 bL:List ByteArray
 lb:ByteArray
 seals:List ByteArray
 holds:Int
 line:Int
 leave:Int
abbrev bZ:=Int×Int×Pst×ByteArray×ByteArray×Int
abbrev Hst:=List Itm×Li
def Itm.stops(i:Itm):List (Int×Int×Int×Int):=i.done++[(i.off,i.arr,-1,-1)]
def Itm.raw(i:Itm):Raw:=⟨i.post,i.stops,i.lost,i.sL++[i.sn],i.bL++[i.lb],i.seals,i.holds,i.line,i.leave⟩
section
variable (d:Dat) (cc:Li) (sb:Int->Int->ByteArray)
def jj(qy : Int)(i : Itm):Itm :=
  if i.lost = true ∨ i.off = qy then { i with line := -1 }
  else if d.nx i.off qy < 0 ∨ d.nx i.off qy ∈ cc then { i with line := -1 }
  else { i with line := if (Bt d (d.nx i.off qy) (i.holds + 1).toNat i.leave (max (i.arr + d.ps i.off * d.mn i.off) i.sn)).1 = true then d.nx i.off qy else -1,
                leave := (Bt d (d.nx i.off qy) (i.holds + 1).toNat i.leave (max (i.arr + d.ps i.off * d.mn i.off) i.sn)).2 }
def tR(qy:Int)(i:Itm):Itm:=
 jj d cc qy {i with done:=i.done++[(i.off,i.arr,i.leave,i.line)],off:=d.lto i.line,arr:=i.leave+d.ltr i.line,seals:=i.seals++[sb i.line i.leave],holds:=0}
def FY(qy T:Int):Nat->Itm->Option Itm|0,_=>none|k+1,i=>if 0<=i.line/\i.leave<T then if 19<=i.done.length then none else FY qy T k (tR d cc sb qy i)else some i
def OC(its:List Itm)(lb:ByteArray):Nat:=its.findIdx λi=>decide (i.post.1=lb)
def iy(its:List Itm)(lb:ByteArray):Int:=((its.find? λi=>decide (i.post.1=lb)).map λi=>i.post.2.2.1).getD 0
def iw(x:Pst):Itm:=⟨x,[],x.2.1,x.2.2.2.2,false,[],x.2.2.2.2,[],x.1,[],0,0,0⟩
def KE(its:List Itm)(lb:ByteArray)(f:Itm->Itm):List Itm:=match its[OC its lb]? with|some i=>its.set (OC its lb) (f i)|none=>its
def DT(T:Int)(s:Hst):Option (List Itm):=s.1.mapM λi=>FY d s.2 sb (iy s.1 i.lb) T 21 i
def rz(i:Itm):Itm:=
 if i.line<0 then {i with holds:=i.holds+1}
 else if d.dE i.line (i.leave+1)=0 then {i with holds:=i.holds+1,leave:=d.dD i.line (i.leave+1)} else {i with holds:=i.holds+1,line:=-1}
def G9(i:Itm)(lb:ByteArray)(t:Int):Itm:={i with sL:=i.sL++[i.sn],sn:=t,bL:=i.bL++[i.lb],lb:=lb}
def I8(its:List Itm)(a b:ByteArray)(t:Int):List Itm:=match its[OC its a]?,its[OC its b]? with
 |some i,some j=>if i.off≠j.off\/t<i.arr\/t<j.arr then its
   else(its.set (OC its a) (jj d cc (iy its j.lb) (G9 i j.lb t))).set (OC its b) (jj d cc (iy its i.lb) (G9 j i.lb t))
 |_,_=>its
end
section
variable (d:Dat) (sb:Int->Int->ByteArray)
def rK(s:Hst)(e:bZ):Hst:=
 if e.1=1 then(s.1++[jj d s.2 (iy (s.1++[iw e.2.2.1]) e.2.2.1.1) (iw e.2.2.1)],s.2)
 else if e.1=2 then(KE s.1 e.2.2.2.1 λi=>jj d s.2 (iy s.1 i.lb) {i with lost:=true},s.2)
 else if e.1=3 then(KE s.1 e.2.2.2.1 (rz d),s.2)
 else if e.1=4 then(I8 d s.2 s.1 e.2.2.2.1 e.2.2.2.2.1 e.2.1,s.2)
 else(s.1.map λi=>if i.line=e.2.2.2.2.2 then {i with line:=-1} else i,s.2++[e.2.2.2.2.2])
def stepD(s:Hst)(e:bZ):Option Hst:=(DT d sb e.2.1 s).map λf=>rK d (f,s.2) e
def FC:List bZ->Hst->Option Hst|[],s=>some s|e::es,s=>(stepD d sb s e).bind (FC es)
def sI:Int:=9223372036854775807
def Jf(es:List bZ):Option (List Itm):=(FC d sb es ([],[])).bind λs=>DT d sb sI s
end
theorem aAE{d : Dat}{cc : Li}{qy : Int}(i : Itm):(jj d cc qy i).raw = TA d cc i.off i.arr i.sn qy i.raw := by
  unfold jj TA;have e : i.raw.lo = i.lost := rfl;rw [e];split
  · rfl
  · split
    · rfl
    · rfl
structure OkI(d:Dat)(m:Nat)(its:List Itm)(i:Itm):Prop where
 off:0<=i.off/\i.off<d.N
 arr:0<=i.arr/\i.arr<=2300000
 sn:0<=i.sn/\i.sn<=1000000
 hd:0<=i.holds/\i.holds<=m
 dl:i.done.length<=19
 sl:i.sL.length<=m
 bl:i.bL.length<=m
 el:i.seals.length<=i.done.length
 qy:∃j∈its,j.post.1=i.lb
 po:0<=i.post.2.2.1/\i.post.2.2.1<d.N
 lz:i.post.1.size<=1000
structure OkL(d:Dat)(i:Itm):Prop where
 ln:i.line<0\/d.lin i.line
 lv:0<=i.leave/\i.leave<=2200000
 lw:-1<=i.line
theorem Bv{its:List Itm}{lb:ByteArray}(h:∃j∈its,j.post.1=lb):∃(k:Nat) (j:Itm),its[k]?=some j/\j.post.1=lb/\iy its lb=j.post.2.2.1:=by
 unfold iy;cases e:its.find? λi=>decide (i.post.1=lb)with
 |none=>
  obtain⟨j,y,f⟩:=h;have:=qCi.1 e j y;simp[f]at this
 |some j=>
  obtain⟨k,u⟩:=List.getElem?_of_mem (List.mem_of_find?_eq_some e);have z:=qBc e;exact⟨k,j,u,by simpa using z,rfl⟩
end Go.Eng.Top
