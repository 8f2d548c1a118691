/- ToY -/
import Derived.Test.YtecnnbcfgijddaaGreatDoorETPrmK
import Derived.Test.YtecnnbcfgijddaaGreatDoorETPrmQ
import Derived.Test.YtecnnbcfgijddaaGreatDoorETPrmT
set_option linter.unusedSimpArgs false
set_option linter.unusedVariables false
namespace Go.Eng.Top
open Go.Proofs Go.RowKit
variable {tg:Tag} {w0 W:World} {R k m:Nat} {c:HC} {d:Dat} {its:List Itm} {i:Itm} {cc:Li} {gs:List Gh} {iv:Value} {e:cD}
def okD(d:Dat)(its:List Itm)(e:cD):Prop:=(0<=e.2.1/\e.2.1<=1000000)/\
 ((e.1=1/\e.2.2.1.2.2.2.2=e.2.1/\(∀q∈its,q.post.1≠e.2.2.1.1)/\e.2.2.1.1.size<=1000/\(0<=e.2.2.1.2.1/\e.2.2.1.2.1<d.N)/\(0<=e.2.2.1.2.2.1/\e.2.2.1.2.2.1<d.N))\/
  ((e.1=2\/e.1=3)/\∃i∈its,i.post.1=e.2.2.2.1)\/(e.1=4/\(∃i∈its,i.post.1=e.2.2.2.1)/\(∃i∈its,i.post.1=e.2.2.2.2.1)/\e.2.2.2.1≠e.2.2.2.2.1)\/(e.1=5/\(Lit.int .i64 e.2.2.2.2.2).wf=true))
theorem sw{lb:ByteArray}(h:∃i∈its,i.post.1=lb):∃(k:Nat) (i:Itm),its[k]?=some i/\i.post.1=lb/\S7 its lb=k:=by
 obtain⟨i,u,j⟩:=h;have f:its.findIdx (λi=>decide (i.post.1=lb))<its.length:=List.findIdx_lt_length.2 ⟨i,u,qP j⟩;exact⟨_,_,qB f,vJ (List.findIdx_getElem (w:=f)),rfl⟩
theorem aF0(E:Env w0 R c d)(H:Hist W R tg c (its.map Itm.raw) cc gs iv)(hB:Below R w0 W)(y:OkS d m its)(hm:m<900)(hn:its.length<900)(hc:cc.length<10000)(ok:okD d its e){n:Nat}(hk:e.1=n):
  Calls Tryz.prog (101+n) #[.pointer (some ⟨c.hb,0,none⟩),.agg (aU e)] W λe' w'=>e'=.returned (.tuple #[])/\∃A X iv',
   Frm tg A7 W w' A/\Hist w' R A c ((qj d (its,cc) e).1.map Itm.raw) (qj d (its,cc) e).2 X iv':=by
 have hz:∀j∈its,j.post.1.size<=1000/\0<=j.post.2.2.1/\j.post.2.2.1<d.N:=λj hj=>⟨(y j hj).1.lz,(y j hj).1.po⟩;obtain⟨ht,h⟩:=ok;have sb:∀k t,itT k t->A7 t:=λk t h=>by unfold A7;have:=h.1;omega
 rcases h with⟨L,G,h3,h4,h5,h6⟩|⟨L|L,G⟩|⟨L,G,h3,h4⟩|⟨L,G⟩;obtain rfl:n=1:=by omega
 unfold qj;rw[if_pos L];exact aDn E H hB e G h3 hn (by omega:m<=900) hz ⟨h4,h5,h6⟩ ht;obtain rfl:n=2:=by omega
 obtain⟨k,i,u,hp,hx⟩:=sw G;obtain⟨g,hg,_⟩:=H.get (aQ u);refine(aDo E H hB hg u (y i (qY u)).1 Z hz e hp.symm).mono ?_;rintro e' w' ⟨rfl,f,h⟩;refine⟨rfl,tg,gs,iv,f.sub (sb k),?_⟩;unfold qj UO;rw[if_neg Z,if_pos L];simp only[hx,u];exact h;obtain rfl:n=3:=by omega
 obtain⟨k,i,u,hp,hx⟩:=sw G;obtain⟨g,hg,_⟩:=H.get (aQ u);refine(aDp E H hB hg u (y i (qY u)).1 (y i (qY u)).2 Z e hp.symm).mono ?_;rintro e' w' ⟨rfl,f,h⟩;refine⟨rfl,tg,gs,iv,f.sub (sb k),?_⟩;unfold qj UO;rw[if_neg Z,if_neg Z,if_pos L];simp only[hx,u];exact h;obtain rfl:n=4:=by omega
 obtain⟨k,i,u,hp,hx⟩:=sw G;obtain⟨k2,i2,z,hp2,hx2⟩:=sw h3;obtain⟨g,hg,_⟩:=H.get (aQ u);obtain⟨g2,hg2,_⟩:=H.get (aQ z);have hne:k≠k2:=λe=>by
  subst e;rw[u]at z;cases z;exact h4 (hp.symm.trans hp2)
 refine(aDl E H hB hg u hg2 z hne (y i (qY u)).1 (y i2 (qY z)).1 hm hz e hp.symm hp2.symm ht).mono ?_;rintro e' w' ⟨rfl,A,X,f,h⟩;refine⟨rfl,A,X,iv,f.sub (λt h=>h.elim (sb k t) (sb k2 t)),?_⟩;unfold qj NN;rw[if_neg Z,if_neg Z,if_neg Z,if_pos L];simp only[hx,u,hx2,z];exact h;obtain rfl:n=5:=by omega
 refine(X5 H Z e G hc).mono ?_;rintro e' w' ⟨rfl,f,h⟩;refine⟨rfl,tg,gs,iv,f,?_⟩;unfold qj;rw[if_neg Z,if_neg Z,if_neg Z,if_neg Z];exact h
end Go.Eng.Top
namespace Go.Eng.Top
open Go.Proofs Go.RowKit
variable {w0:World} {R k m:Nat} {c:HC} {d:Dat} {its l2:List Itm} {i x:Itm} {cc:Li} {e:cD}
theorem OkI.up(f:OkI d m its i):OkI d (m+1) its i:=⟨f.off,f.arr,f.sn,⟨f.hd.1,by have:=f.hd.2;omega⟩,f.dl,Nat.le_succ_of_le f.sl,Nat.le_succ_of_le f.bl,f.el,f.to,f.po,f.lz,f.sm⟩
theorem mW(tz:Int)(x:Itm):(jw d cc tz x).post=x.post/\(jw d cc tz x).lb=x.lb:=by
 unfold jw
 (repeat' split)<;>exact⟨rfl,rfl⟩
theorem Hw(x:Itm):(q9 d x).post=x.post:=by
 unfold q9
 (repeat' split)<;>rfl
theorem ZK(f:OkS d m its){lb:ByteArray}(h:∃j∈its,j.post.1=lb):0<=iy its lb/\iy its lb<d.N:=by
 obtain⟨j,q,y,_,u⟩:=Bg h;rw[u];exact(f q (qY y)).1.po
theorem aAK(E:Env w0 R c d)(f:OkI d m its i)(j:OkL d i):OkI d (m+1) its (q9 d i)/\OkL d (q9 d i):=by
 have h:=f.hd;have y:=j.lv;unfold q9;split;exact⟨⟨f.off,f.arr,f.sn,⟨by show 0<=i.holds+1;omega,by show i.holds+1<=_;omega⟩,f.dl,Nat.le_succ_of_le f.sl,Nat.le_succ_of_le f.bl,f.el,f.to,f.po,f.lz,f.sm⟩,⟨j.ln,y,j.lw⟩⟩;rename_i z;split;rename_i hd;have u:=j.ln.resolve_left z;have:=E.depb _ _ u (by omega:(0:Int)<=i.leave+1) hd;exact⟨⟨f.off,f.arr,f.sn,⟨by show 0<=i.holds+1;omega,by show i.holds+1<=_;omega⟩,f.dl,Nat.le_succ_of_le f.sl,Nat.le_succ_of_le f.bl,f.el,f.to,f.po,f.lz,f.sm⟩,⟨j.ln,⟨by show 0<=d.dD _ _;omega,this.2⟩,j.lw⟩⟩;exact⟨⟨f.off,f.arr,f.sn,⟨by show 0<=i.holds+1;omega,by show i.holds+1<=_;omega⟩,f.dl,Nat.le_succ_of_le f.sl,Nat.le_succ_of_le f.bl,f.el,f.to,f.po,f.lz,f.sm⟩,⟨.inl (by show(-1:Int)<0;omega),y,by show(-1:Int)<=-1;omega⟩⟩
theorem QK(f:OkS d m its)(z:its[k]?=some i)(y:x.post=i.post)(h:OkI d (m+1) its x/\OkL d x):OkS d (m+1) (its.set k x):=λj u=>by
 rcases mem_set u with u|rfl;exact⟨(f j u).1.up.within λ_ h=>nA z y h,(f j u).2⟩;exact⟨h.1.within λ_ h=>nA z y h,h.2⟩
theorem YY(f:OkI d m its i){lb:ByteArray}(u:lb.size<=1000)(h:∃j∈its,j.post.1=lb){t:Int}(y:0<=t/\t<=1000000):OkI d (m+1) its (GM i lb t):=
 ⟨f.off,f.arr,y,⟨f.hd.1,by have:=f.hd.2;show i.holds<=_;omega⟩,f.dl,by show(i.sL++[i.sn]).length<=_;have:=f.sl;simp;omega,by show(i.bL++[i.lb]).length<=_;have:=f.bl;simp;omega,f.el,h,f.po,f.lz,f.sm.lbl u f.sn⟩
theorem aDy(E:Env w0 R c d)(u:OkS d m its)(ok:okD d its e):OkS d (m+1) (qj d (its,cc) e).1:=by
 obtain⟨ht,h⟩:=ok;rcases h with⟨h1,h2,h3,h4,h5,h6⟩|⟨h1|h1,h2⟩|⟨h1,h2,h3,h4⟩|⟨h1,h2⟩;unfold qj;rw[if_pos h1];obtain⟨k1,t1,⟨A,pf,pt,pc,pa⟩,lb,ot,ln⟩:=e;dsimp only at *;subst h2;have ok0:OkI d (m+1) (its++[nH (A,pf,pt,pc,pa)]) (nH (A,pf,pt,pc,pa)):=
  ⟨h5,by show 0<=pa/\pa<=_;omega,ht,⟨qL 0,by show(0:Int)<=((m+1:Nat):Int);omega⟩,wE _,wE _,wE _,wE _,⟨nH (A,pf,pt,pc,pa),by simp,rfl⟩,h6,h4,YD h4⟩
 obtain⟨a,b⟩:=HZ (cc:=cc) E ok0 (by show(0:Int)<=0/\(0:Int)<=_;omega) (tz:=iy (its++[nH (A,pf,pt,pc,pa)]) A) (by
  obtain⟨j,q,y,_,L⟩:=Bg (its:=its++[nH (A,pf,pt,pc,pa)]) (lb:=A) ⟨nH (A,pf,pt,pc,pa),by simp,rfl⟩;rw[L];rcases qJ.1 (qY y)with hm|hm;exact(u q hm).1.po;rw[qW.1 hm];exact h6)
 have hp:=mW (d:=d) (cc:=cc) (iy (its++[nH (A,pf,pt,pc,pa)]) A) (nH (A,pf,pt,pc,pa));intro j y;rcases qJ.1 y with y|y;exact⟨(u j y).1.up.within λlb ⟨q,L,hl⟩=>⟨q,List.mem_append_left _ L,hl⟩,(u j y).2⟩;rw[qW.1 y];exact⟨a.within λlb ⟨q,L,hl⟩=>by
  rcases qJ.1 L with L|L;exact⟨q,List.mem_append_left _ L,hl⟩;rw[qW.1 L]at hl;exact⟨_,List.mem_append_right _ (qW.2 rfl),by rw[hp.1];exact hl⟩,b⟩
 obtain⟨k,i,z,hp,hx⟩:=sw h2;have f:=u i (qY z);unfold qj UO;rw[if_neg Z,if_pos h1];simp only[hx,z];exact QK u z (mW _ _).1 (HZ E (x:={i with lost:=true}) ⟨f.1.off,f.1.arr,f.1.sn,f.1.up.hd,f.1.dl,f.1.up.sl,f.1.up.bl,f.1.el,f.1.to,f.1.po,f.1.lz,f.1.sm⟩ f.2.lv (ZK u f.1.to));obtain⟨k,i,z,hp,hx⟩:=sw h2;have f:=u i (qY z);unfold qj UO;rw[if_neg Z,if_neg Z,if_pos h1];simp only[hx,z];exact QK u z (Hw i) (aAK E f.1 f.2);obtain⟨k,i,z,hp,hx⟩:=sw h2;obtain⟨k2,i2,X,hp2,hx2⟩:=sw h3;have f:=u i (qY z);have G:=u i2 (qY X);have hne:k≠k2:=λe=>by
  subst e;rw[z]at X;cases X;exact h4 (hp.symm.trans hp2)
 unfold qj NN;rw[if_neg Z,if_neg Z,if_neg Z,if_pos h1];simp only[hx,z,hx2,X];split;exact λj y=>⟨(u j y).1.up,(u j y).2⟩;have a1:=HZ (cc:=cc) E (YY f.1 G.1.sm.2.2.1.2 G.1.to ht) f.2.lv (ZK u G.1.to);have a2:=HZ (cc:=cc) E (YY G.1 f.1.sm.2.2.1.2 f.1.to ht) G.2.lv (ZK u f.1.to);have p1:=(mW (d:=d) (cc:=cc) (iy its i2.lb) (GM i i2.lb e.2.1)).1;have p2:=(mW (d:=d) (cc:=cc) (iy its i.lb) (GM i2 i.lb e.2.1)).1;have s1:=QK u z p1 a1;have hi2':(its.set k (jw d cc (iy its i2.lb) (GM i i2.lb e.2.1)))[k2]?=some i2:=by rw[zT hne];exact X
 intro j y;rcases mem_set y with y|rfl;exact⟨(s1 j y).1.within λ_ h=>nA hi2' p2 h,(s1 j y).2⟩;exact⟨(a2.1.within λ_ h=>nA z p1 h).within λ_ h=>nA hi2' p2 h,a2.2⟩;unfold qj;rw[if_neg Z,if_neg Z,if_neg Z,if_neg Z];intro j y;obtain⟨i,z,rfl⟩:=vU.1 y;have f:=u i z;have hw:∀lb:ByteArray,(∃q∈its,q.post.1=lb)->∃q∈its.map λi=>if i.line=e.2.2.2.2.2 then {i with line:=-1} else i,q.post.1=lb:=λlb ⟨q,L,hl⟩=>⟨_,vU.2 ⟨q,L,rfl⟩,by split<;>exact hl⟩;split;exact⟨OkI.within (i:={i with line:=-1}) ⟨f.1.off,f.1.arr,f.1.sn,f.1.up.hd,f.1.dl,f.1.up.sl,f.1.up.bl,f.1.el,f.1.to,f.1.po,f.1.lz,f.1.sm⟩ hw,⟨.inl (by show(-1:Int)<0;omega),f.2.lv,by show(-1:Int)<=-1;omega⟩⟩;exact⟨f.1.up.within hw,f.2⟩
end Go.Eng.Top
