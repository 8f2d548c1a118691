/- ToY -/
import Derived.Test.YtecnnbcfgijddaaGreatDoorETBrkK
import Derived.Test.YtecnnbcfgijddaaGreatDoorETBrkQ
import Derived.Test.YtecnnbcfgijddaaGreatDoorETBrkT
set_option linter.unusedSimpArgs false
set_option linter.unusedVariables false
namespace Go.Eng.Top
open Go.Proofs Go.RowKit
variable {tg:Tag} {w0 W:World} {R k m:Nat} {c:HC} {d:Dat} {its:List Itm} {i:Itm} {cc:Li} {gs:List Gh} {iv:Value} {e:bZ}
def okD(d:Dat)(its:List Itm)(e:bZ):Prop:=(0<=e.2.1/\e.2.1<=1000000)/\
 ((e.1=1/\e.2.2.1.2.2.2.2=e.2.1/\(∀q∈its,q.post.1≠e.2.2.1.1)/\e.2.2.1.1.size<=1000/\(0<=e.2.2.1.2.1/\e.2.2.1.2.1<d.N)/\(0<=e.2.2.1.2.2.1/\e.2.2.1.2.2.1<d.N))\/
  ((e.1=2\/e.1=3)/\∃i∈its,i.post.1=e.2.2.2.1)\/(e.1=4/\(∃i∈its,i.post.1=e.2.2.2.1)/\(∃i∈its,i.post.1=e.2.2.2.2.1)/\e.2.2.2.1≠e.2.2.2.2.1)\/(e.1=5/\(Lit.int .i64 e.2.2.2.2.2).wf=true))
theorem sK{lb:ByteArray}(h:∃i∈its,i.post.1=lb):∃(k:Nat) (i:Itm),its[k]?=some i/\i.post.1=lb/\OC its lb=k:=by
 obtain⟨i,u,j⟩:=h;have f:its.findIdx (λi=>decide (i.post.1=lb))<its.length:=List.findIdx_lt_length.2 ⟨i,u,qR j⟩;exact⟨_,_,qB f,vO (List.findIdx_getElem (w:=f)),rfl⟩
theorem aFw(E:Env w0 R c d)(H:Hist W R tg c (its.map Itm.raw) cc gs iv)(hB:Below R w0 W)(y:OkS d m its)(hm:m<900)(hn:its.length<900)(hc:cc.length<10000)(ok:okD d its e){n:Nat}(hk:e.1=n):
  Calls Tryz.prog (101+n) #[.pointer (some ⟨c.hb,0,none⟩),.agg (aU e)] W λe' w'=>e'=.returned (.tuple #[])/\∃A X iv',
   Frm tg Bh W w' A/\Hist w' R A c ((rK d (its,cc) e).1.map Itm.raw) (rK d (its,cc) e).2 X iv':=by
 have hz:∀j∈its,j.post.1.size<=1000/\0<=j.post.2.2.1/\j.post.2.2.1<d.N:=λj hj=>⟨(y j hj).1.lz,(y j hj).1.po⟩;obtain⟨ht,h⟩:=ok;have sb:∀k t,itT k t->Bh t:=λk t h=>by unfold Bh;have:=h.1;omega
 rcases h with⟨L,G,h3,h4,h5,h6⟩|⟨L|L,G⟩|⟨L,G,h3,h4⟩|⟨L,G⟩;obtain rfl:n=1:=by omega
 unfold rK;rw[if_pos L];exact aC2 E H hB e G h3 hn (by omega:m<=900) hz ⟨h4,h5,h6⟩ ht;obtain rfl:n=2:=by omega
 obtain⟨k,i,u,hp,hx⟩:=sK G;obtain⟨g,hg,_⟩:=H.get (aQ u);refine(aC3 E H hB hg u (y i (qZ u)).1 Z hz e hp.symm).mono ?_;rintro e' w' ⟨rfl,f,h⟩;refine⟨rfl,tg,gs,iv,f.sub (sb k),?_⟩;unfold rK KE;rw[if_neg Z,if_pos L];simp only[hx,u];exact h;obtain rfl:n=3:=by omega
 obtain⟨k,i,u,hp,hx⟩:=sK G;obtain⟨g,hg,_⟩:=H.get (aQ u);refine(aC5 E H hB hg u (y i (qZ u)).1 (y i (qZ u)).2 Z e hp.symm).mono ?_;rintro e' w' ⟨rfl,f,h⟩;refine⟨rfl,tg,gs,iv,f.sub (sb k),?_⟩;unfold rK KE;rw[if_neg Z,if_neg Z,if_pos L];simp only[hx,u];exact h;obtain rfl:n=4:=by omega
 obtain⟨k,i,u,hp,hx⟩:=sK G;obtain⟨k2,i2,z,hp2,hx2⟩:=sK h3;obtain⟨g,hg,_⟩:=H.get (aQ u);obtain⟨g2,hg2,_⟩:=H.get (aQ z);have hne:k≠k2:=λe=>by
  subst e;rw[u]at z;cases z;exact h4 (hp.symm.trans hp2)
 refine(aC0 E H hB hg u hg2 z hne (y i (qZ u)).1 (y i2 (qZ z)).1 hm hz e hp.symm hp2.symm ht).mono ?_;rintro e' w' ⟨rfl,A,X,f,h⟩;refine⟨rfl,A,X,iv,f.sub (λt h=>h.elim (sb k t) (sb k2 t)),?_⟩;unfold rK I8;rw[if_neg Z,if_neg Z,if_neg Z,if_pos L];simp only[hx,u,hx2,z];exact h;obtain rfl:n=5:=by omega
 refine(XV H Z e G hc).mono ?_;rintro e' w' ⟨rfl,f,h⟩;refine⟨rfl,tg,gs,iv,f,?_⟩;unfold rK;rw[if_neg Z,if_neg Z,if_neg Z,if_neg Z];exact h
end Go.Eng.Top
namespace Go.Eng.Top
open Go.Proofs Go.RowKit
variable {w0:World} {R k m:Nat} {c:HC} {d:Dat} {its l2:List Itm} {i x:Itm} {cc:Li} {e:bZ}
theorem OkI.up(f:OkI d m its i):OkI d (m+1) its i:=⟨f.off,f.arr,f.sn,⟨f.hd.1,by have:=f.hd.2;omega⟩,f.dl,Nat.le_succ_of_le f.sl,Nat.le_succ_of_le f.bl,f.el,f.qy,f.po,f.lz⟩
theorem iN(tz:Int)(x:Itm):(jj d cc tz x).post=x.post/\(jj d cc tz x).lb=x.lb:=by
 unfold jj
 (repeat' split)<;>exact⟨rfl,rfl⟩
theorem qk(x:Itm):(rz d x).post=x.post:=by
 unfold rz
 (repeat' split)<;>rfl
theorem Zp(f:OkS d m its){lb:ByteArray}(h:∃j∈its,j.post.1=lb):0<=iy its lb/\iy its lb<d.N:=by
 obtain⟨j,q,y,_,u⟩:=Bv h;rw[u];exact(f q (qZ y)).1.po
theorem aAq(E:Env w0 R c d)(f:OkI d m its i)(j:OkL d i):OkI d (m+1) its (rz d i)/\OkL d (rz d i):=by
 have h:=f.hd;have y:=j.lv;unfold rz;split;exact⟨⟨f.off,f.arr,f.sn,⟨by show 0<=i.holds+1;omega,by show i.holds+1<=_;omega⟩,f.dl,Nat.le_succ_of_le f.sl,Nat.le_succ_of_le f.bl,f.el,f.qy,f.po,f.lz⟩,⟨j.ln,y,j.lw⟩⟩;rename_i z;split;rename_i hd;have u:=j.ln.resolve_left z;have:=E.depb _ _ u (by omega:(0:Int)<=i.leave+1) hd;exact⟨⟨f.off,f.arr,f.sn,⟨by show 0<=i.holds+1;omega,by show i.holds+1<=_;omega⟩,f.dl,Nat.le_succ_of_le f.sl,Nat.le_succ_of_le f.bl,f.el,f.qy,f.po,f.lz⟩,⟨j.ln,⟨by show 0<=d.dD _ _;omega,this.2⟩,j.lw⟩⟩;exact⟨⟨f.off,f.arr,f.sn,⟨by show 0<=i.holds+1;omega,by show i.holds+1<=_;omega⟩,f.dl,Nat.le_succ_of_le f.sl,Nat.le_succ_of_le f.bl,f.el,f.qy,f.po,f.lz⟩,⟨.inl (by show(-1:Int)<0;omega),y,by show(-1:Int)<=-1;omega⟩⟩
theorem QB(f:OkS d m its)(z:its[k]?=some i)(y:x.post=i.post)(h:OkI d (m+1) its x/\OkL d x):OkS d (m+1) (its.set k x):=λj u=>by
 rcases mem_set u with u|rfl;exact⟨(f j u).1.up.within λ_ h=>nN z y h,(f j u).2⟩;exact⟨h.1.within λ_ h=>nN z y h,h.2⟩
theorem YH(f:OkI d m its i){lb:ByteArray}(h:∃j∈its,j.post.1=lb){t:Int}(u:0<=t/\t<=1000000):OkI d (m+1) its (G9 i lb t):=
 ⟨f.off,f.arr,u,⟨f.hd.1,by have:=f.hd.2;show i.holds<=_;omega⟩,f.dl,by show(i.sL++[i.sn]).length<=_;have:=f.sl;simp;omega,by show(i.bL++[i.lb]).length<=_;have:=f.bl;simp;omega,f.el,h,f.po,f.lz⟩
theorem aDd(E:Env w0 R c d)(u:OkS d m its)(ok:okD d its e):OkS d (m+1) (rK d (its,cc) e).1:=by
 obtain⟨ht,h⟩:=ok;rcases h with⟨h1,h2,h3,h4,h5,h6⟩|⟨h1|h1,h2⟩|⟨h1,h2,h3,h4⟩|⟨h1,h2⟩;unfold rK;rw[if_pos h1];obtain⟨k1,t1,⟨A,pf,pt,pc,X⟩,lb,ot,ln⟩:=e;dsimp only at *;subst h2;have ok0:OkI d (m+1) (its++[iw (A,pf,pt,pc,X)]) (iw (A,pf,pt,pc,X)):=
  ⟨h5,by show 0<=X/\X<=_;omega,ht,⟨qN 0,by show(0:Int)<=((m+1:Nat):Int);omega⟩,wK _,wK _,wK _,wK _,⟨iw (A,pf,pt,pc,X),by simp,rfl⟩,h6,h4⟩
 obtain⟨a,b⟩:=Iq (cc:=cc) E ok0 (by show(0:Int)<=0/\(0:Int)<=_;omega) (tz:=iy (its++[iw (A,pf,pt,pc,X)]) A) (by
  obtain⟨j,q,y,_,G⟩:=Bv (its:=its++[iw (A,pf,pt,pc,X)]) (lb:=A) ⟨iw (A,pf,pt,pc,X),by simp,rfl⟩;rw[G];rcases qI.1 (qZ y)with hm|hm;exact(u q hm).1.po;rw[qX.1 hm];exact h6)
 have hp:=iN (d:=d) (cc:=cc) (iy (its++[iw (A,pf,pt,pc,X)]) A) (iw (A,pf,pt,pc,X));intro j y;rcases qI.1 y with y|y;exact⟨(u j y).1.up.within λlb ⟨q,G,hl⟩=>⟨q,List.mem_append_left _ G,hl⟩,(u j y).2⟩;rw[qX.1 y];exact⟨a.within λlb ⟨q,G,hl⟩=>by
  rcases qI.1 G with G|G;exact⟨q,List.mem_append_left _ G,hl⟩;rw[qX.1 G]at hl;exact⟨_,List.mem_append_right _ (qX.2 rfl),by rw[hp.1];exact hl⟩,b⟩
 obtain⟨k,i,z,hp,hx⟩:=sK h2;have f:=u i (qZ z);unfold rK KE;rw[if_neg Z,if_pos h1];simp only[hx,z];exact QB u z (iN _ _).1 (Iq E (x:={i with lost:=true}) ⟨f.1.off,f.1.arr,f.1.sn,f.1.up.hd,f.1.dl,f.1.up.sl,f.1.up.bl,f.1.el,f.1.qy,f.1.po,f.1.lz⟩ f.2.lv (Zp u f.1.qy));obtain⟨k,i,z,hp,hx⟩:=sK h2;have f:=u i (qZ z);unfold rK KE;rw[if_neg Z,if_neg Z,if_pos h1];simp only[hx,z];exact QB u z (qk i) (aAq E f.1 f.2);obtain⟨k,i,z,hp,hx⟩:=sK h2;obtain⟨k2,i2,L,hp2,hx2⟩:=sK h3;have f:=u i (qZ z);have oi2:=u i2 (qZ L);have hne:k≠k2:=λe=>by
  subst e;rw[z]at L;cases L;exact h4 (hp.symm.trans hp2)
 unfold rK I8;rw[if_neg Z,if_neg Z,if_neg Z,if_pos h1];simp only[hx,z,hx2,L];split;exact λj y=>⟨(u j y).1.up,(u j y).2⟩;have a1:=Iq (cc:=cc) E (YH f.1 oi2.1.qy ht) f.2.lv (Zp u oi2.1.qy);have a2:=Iq (cc:=cc) E (YH oi2.1 f.1.qy ht) oi2.2.lv (Zp u f.1.qy);have p1:=(iN (d:=d) (cc:=cc) (iy its i2.lb) (G9 i i2.lb e.2.1)).1;have p2:=(iN (d:=d) (cc:=cc) (iy its i.lb) (G9 i2 i.lb e.2.1)).1;have s1:=QB u z p1 a1;have hi2':(its.set k (jj d cc (iy its i2.lb) (G9 i i2.lb e.2.1)))[k2]?=some i2:=by rw[zW hne];exact L
 intro j y;rcases mem_set y with y|rfl;exact⟨(s1 j y).1.within λ_ h=>nN hi2' p2 h,(s1 j y).2⟩;exact⟨(a2.1.within λ_ h=>nN z p1 h).within λ_ h=>nN hi2' p2 h,a2.2⟩;unfold rK;rw[if_neg Z,if_neg Z,if_neg Z,if_neg Z];intro j y;obtain⟨i,z,rfl⟩:=vW.1 y;have f:=u i z;have hw:∀lb:ByteArray,(∃q∈its,q.post.1=lb)->∃q∈its.map λi=>if i.line=e.2.2.2.2.2 then {i with line:=-1} else i,q.post.1=lb:=λlb ⟨q,G,hl⟩=>⟨_,vW.2 ⟨q,G,rfl⟩,by split<;>exact hl⟩;split;exact⟨OkI.within (i:={i with line:=-1}) ⟨f.1.off,f.1.arr,f.1.sn,f.1.up.hd,f.1.dl,f.1.up.sl,f.1.up.bl,f.1.el,f.1.qy,f.1.po,f.1.lz⟩ hw,⟨.inl (by show(-1:Int)<0;omega),f.2.lv,by show(-1:Int)<=-1;omega⟩⟩;exact⟨f.1.up.within hw,f.2⟩
end Go.Eng.Top
