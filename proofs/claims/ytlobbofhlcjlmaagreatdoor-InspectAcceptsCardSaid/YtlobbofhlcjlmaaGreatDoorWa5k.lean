/- PeWa4k, PeWa5k -/
import Derived.Test.YtlobbofhlcjlmaaGreatDoorH22
import Derived.Test.YtlobbofhlcjlmaaGreatDoorWa2k
set_option linter.unusedSimpArgs false
set_option linter.unusedVariables false
set_option maxRecDepth 100000
noncomputable section
namespace Go.Eng.Sv
open Go.Proofs
def aVm (n:Net) (f:Int) (s:Stop):Int:=nT (bK n s.1).1 s.2.2.1 + (2 - f)
def mY (n:Net) (f:Int) (l:List Stop):List Int:=l.map (aVm n f)
def aCm (n:Net) (p:Plan) (o d t:Int):List Int:=mY n p.1 (aRV n p.2.2.1 o d t).dropLast
def tN (n:Net) (p:Plan) (o d t:Int):Int:=((aRV n p.2.2.1 o d t).getLastD (0,0,0,0)).2.1
def aC3 (n:Net) (p:Plan) (o d t:Int) (k:Nat) (xs:List Int):Prop:=aL4 n p.2.2.1 o d t∧(0≤p.1∧p.1≤600)∧xs.length=k∧xs.length≤950000000000
def aUn (n:Net) (p:Plan) (o0 d t0:Int) (xs:List Int):Ann:=⟨fun id s=>match id with
 | 2=>some { α:=List Stop×Int×Int,inv:=fun x=>aTW n p.2.2.1 o0 d t0 x,st:=fun x=>{ put (flat s) [(1,.dat I x.2.1),(3,.dat I x.2.2),(9,.dat I (D.add (D.ilen x.1) 1))] with mem:=uU n p (D.fE (D.len xs) (D.len (mY n p.1 x.1))) (D.app xs (mY n p.1 x.1)) },μ:=fun x=>D.nat (D.sub 20 (D.ilen x.1)) }
 | _=>none,fun _ _=>none,fun _ _=>none⟩
def cWw:Cfg:=mkp KW3 (fun _=>false) aVM (fun f=>f == 89)
theorem aPv (o d t:Int) (k:Nat) (xs:List Int) (n:Net) (p:Plan) (hvc :
 let c1:=aCm n p o d t;
 let c2:=D.app xs c1;
 let c3:=p.snd;
 let c4:=c3.snd;
 let c5:=c4.fst;
 let c6:=n.fst;
 let c7:=n.snd;
 let c8:=c7.fst;
 let c9:=c7.snd;
 let c10:=c9.fst;
 let c11:=c9.snd;
 let c12:=c11.fst;
 let c13:=c11.snd;
 let c14:=c13.fst;
 let c15:=c13.snd;
 let c16:=p.fst;
 let c17:=c3.fst;
 let c18:=c4.snd;
 let c19:=aCn n c5 o d t;
 let c20:=isZero c19;
 let c21:=chainOf (Value.iface (39) (Value.int IntKind.i64 c19));
 let c22:=(c6,c8,c10,c12,c14,c15);
 let c23:=(ByteArray.mk (D.nil UInt8).toArray,(0:Int),(0:Int),(0:Int),(0:Int),(0:Int));
 let c24:=D.sub (2:Int) c16;true=true∧(aC3 n p o d t k xs→1=1∧D.nle (D.len xs) (D.len c2)∧(∃ (x:List Stop×Int×Int),
 let c25:=x.snd;
 let c26:=x.fst;
 let c27:=mY n c16 c26;aTW n c5 o d t x∧1=1∧0=0∧0=0∧o=c25.fst∧d=d∧t=c25.snd∧(0:Int)=(0:Int)∧(1:Int)=D.add (D.ilen
 c26) (1:Int)∧c6=c6∧c8=c8∧c10=c10∧c12=c12∧c14=c14∧c15=c15∧c16=c16∧c17=c17∧c5=c5∧c18=c18∧k=D.fE (D.len xs) (D.len
 c27)∧xs=D.app xs c27∧1=1∧D.len xs=D.len xs∧True)∧∀ (x:List (Int×Int×Int×Int)×Int×Int),
 let c28:=x.snd;
 let c29:=c28.fst;
 let c30:=D.ne c29 d;
 let c31:=D.get c5 (D.nat c29) (D.nil Int);
 let c32:=D.get c31 (D.nat d) (0:Int);
 let c33:=D.eq c32 (-1:Int);
 let c34:=c28.snd;
 let c35:=aK c22 c29 c34;
 let c36:=D.gt c35 (2000000:Int);
 let c37:=bK c22 c29;
 let c38:=c37.fst;
 let c39:=c37.snd;
 let c40:=c39.fst;
 let c41:=c39.snd;
 let c42:=(c38,c40,c41);
 let c43:=(D.get c14 (D.nat c32) c23).snd.snd;
 let c44:=c43.snd;
 let c45:=c44.fst;
 let c46:=zB c42 c45 c35;
 let c47:=isZero c46;
 let c48:=x.fst;
 let c49:=D.ilen c48;
 let c50:=D.add c49 (1:Int);
 let c51:=D.eq c50 (20:Int);
 let c52:=nS c42 c45 c35;
 let c53:=[nT c38 c52];
 let c54:=mY n c16 c48;
 let c55:=D.app xs c54;
 let c56:=D.fE (D.len xs) (D.len c54);
 let c57:=upR c53 c24 (D.ilen c53);
 let c58:=D.app c55 c57;
 let c59:=D.add c52 c44.snd.fst;
 let c60:=D.add c50 (1:Int);aTW n c5 o d t x→(c30=true→1=1∧1=1∧1=1∧1=1∧0=0∧D.ile (0:Int) c29∧D.ilt c29 (D.ilen c5)∧D.ile (0
 : Int) d∧D.ilt d (D.ilen c31)∧(c33=true→(true=true→True∧(false=false→c20=false∧true=true∧chainOf (Value.iface (39) (Value.int
 IntKind.i64 (170:Int)))=c21))∧True)∧(c33=false→vF c22 c29 c34∧(c36=true→(true=true→True∧(false=false→c20=false∧true=true
 ∧ chainOf (Value.iface (39) (Value.int IntKind.i64 (1:Int)))=c21))∧True)∧(c36=false→1=1∧1=1∧1=1∧1=1∧0=0∧D.ile (0:Int) c32 ∧
 D.ilt c32 (D.ilen c14)∧1=1∧0=0∧aCe c22 c29∧1=1∧0=0∧1=1∧0=0∧1=1∧1=1∧0=0∧aLX c42 c45 c35∧(true=true→True∧(c47 =
 false→c20=false∧true=true∧chainOf (Value.iface (39) (Value.int IntKind.i64 c46))=c21))∧((true=true→c47=true)→(True∧c47=true)∧(c51 =
 true→(true=true→True∧(false=false→c20=false∧true=true∧chainOf (Value.iface (39) (Value.int IntKind.i64 (170:Int)))=c21))∧True)∧(c51
 = false→1=1∧0=0∧rX c38 c40 c41 c52∧1=1∧1=1∧1=1∧1=1∧0=0∧inR IntKind.i64 c24∧rsP c24 c53 c55 c56∧1=1∧D.nle (D.len
 c55) (D.len c58)∧1=1∧1=1∧0=0∧1=1∧1=1∧0=0∧inR IntKind.i64 c59∧inR IntKind.i64 c60∧∃ (y:List Stop×Int×Int),
 let c61:=y.snd;
 let c62:=y.fst;
 let c63:=D.ilen c62;
 let c64:=mY n c16 c62;aTW n c5 o d t y∧(1=1∧0=0∧0=0∧c43.fst=c61.fst∧d=d∧c59=c61.snd∧(0:Int)=(0:Int)∧c60=D.add c63 (1
 : Int)∧c6=c6∧c8=c8∧c10=c10∧c12=c12∧c14=c14∧c15=c15∧c16=c16∧c17=c17∧c5=c5∧c18=c18∧D.fE c56 (D.len c57)=D.fE
 (D.len xs) (D.len c64)∧c58=D.app xs c64∧1=1∧D.len xs=D.len xs∧True)∧D.nlt (D.nat (D.sub (20:Int) c63)) (D.nat (D.sub (20:Int) c49))))))) ∧
 (c30=false→c20=true∧c34=tN n p o d t∧c6=c6∧c8=c8∧c10=c10∧c12=c12∧c14=c14∧c15=c15∧c16=c16∧c17=c17∧c5=c5∧c18 =
 c18∧c56=D.fE k (D.len c1)∧c55=c2∧1=1∧D.len xs=D.len xs∧True))) :
  evM cWw (aUn n p o d t xs) 87 [.ptr 2 1 0 0,.dat I o,.dat I d,.dat I t] (uU n p k xs) (.dat I (tN n p o d t)) (uU n p (D.fE k (D.len (aCm n p o d t))) (D.app xs (aCm n p o d t))) ⟨aC3 n p o d t k xs,isZero (aCn n p.2.2.1 o d t),aN4 39 (aCn n p.2.2.1 o d t)⟩:=@of_eq _ _ (by kernel_rfl) hvc
theorem aOJ (o d t:Int) (k:Nat) (xs:List Int) (n:Net) (p:Plan):aC Tryz.prog G0 87 [.ptr 2 1 0 0,.dat I o,.dat I d,.dat I t] (uU n p k xs) ⟨aC3 n p o d t k xs∧isZero (aCn n p.2.2.1 o d t)=true,.dat I (tN n p o d t),uU n p (D.fE k (D.len (aCm n p o d t))) (D.app xs (aCm n p o d t))⟩ ∧
  jM Tryz.prog G0 87 [.ptr 2 1 0 0,.dat I o,.dat I d,.dat I t] (uU n p k xs) ⟨aC3 n p o d t k xs,isZero (aCn n p.2.2.1 o d t),aN4 39 (aCn n p.2.2.1 o d t)⟩:=by
 refine fK (c:=cWw) aRO cO hm aLL (aPv o d t k xs n p ⟨rfl,fun hp=>?_⟩)
 obtain ⟨hp,hp1,hk,hxl⟩:=hp
 have eN:(n.1,n.2.1,n.2.2.1,n.2.2.2.1,n.2.2.2.2.1,n.2.2.2.2.2)=n:=rfl
 have eC:∀ c:Int×List Bool×List Int,(c.1,c.2.1,c.2.2)=c:=fun _=>rfl
 have eX:∀ l:Int,n.2.2.2.2.1.getD l.toNat (⟨#[]⟩,0,0,0,0,0)=yU n l:=fun _=>rfl
 have eM:∀ u:Int,(p.2.2.1.getD u.toNat []).getD d.toNat 0=nxt p.2.2.1 u d:=fun _=>rfl
 have eU:∀ x b:Int,upR [x] b (([x]:List Int).length:Int)=[x + b]:=fun _ _=>rfl
 simp only [eq_self,true_and,and_true,forall_const,D.nil,D.eq,D.ne,D.gt,D.ilen,D.ile,D.ilt,D.nle,D.nlt,D.sub,D.add,D.nat,D.len,D.fE,D.get,D.app,decide_eq_true_eq,decide_eq_false_iff_not,beq_iff_eq,bne_iff_ne,beq_eq_false_iff_ne,bne_eq_false_iff_eq,eN,eC,eX,eM,eU]
 refine ⟨by rw [List.length_append];omega,⟨([],o,t),⟨hp,by simp,(aNs 19 o t).symm⟩,rfl,rfl,rfl,by rw [hk];rfl,(List.append_nil _).symm⟩,?_⟩
 rintro ⟨l,u,v⟩ hx
 simp only
 generalize hln:nxt p.2.2.1 u d=ln at *
 obtain ⟨⟨hs,ht,u0,u1,o0,o1,v0,v1⟩,hd,hw⟩:=hx
 simp only at u0 u1 o0 o1 v0 v1 hd hw
 have hno:noF n=true:=kG n.1 n.2.1 n.2.2.1 n.2.2.2.1 n.2.2.2.2.1 n.2.2.2.2.2 hs
 obtain ⟨c1,c2,c3⟩:(p.2.2.1.length:Int)=n.2.2.2.1.length∧((p.2.2.1.getD u.toNat []).length:Int)=n.2.2.2.1.length∧(nxt p.2.2.1 u d≠-1→(0≤nxt p.2.2.1 u d∧nxt p.2.2.1 u d < n.2.2.2.2.1.length)∧jE n (nxt p.2.2.1 u d)=u):=aAG n.1 n.2.1 n.2.2.1 n.2.2.2.1 n.2.2.2.2.1 n.2.2.2.2.2 ht u0 u1 o0 o1
 rw [hln] at c3
 have hoff:aCe n u:=⟨hno,u0,u1⟩
 have hr:vF n u v:=⟨hoff,by omega,by omega⟩
 obtain ⟨_,_,r1,r2⟩:inR .i64 ((kX n u).2.2.2.2.1 * (kX n u).2.2.2.2.2.1)∧inR .i64 (aK n u v)∧v≤aK n u v∧aK n u v≤v + 960:=yN n.1 n.2.1 n.2.2.1 n.2.2.2.1 n.2.2.2.2.1 n.2.2.2.2.2 hr
 have hE:aCn n p.2.2.1 o d t=(aFK l (nC n p.2.2.1 d (19 - l.length) u v)).2:=by unfold aCn;rw [hw]
 have hL:aRV n p.2.2.1 o d t=(aFK l (nC n p.2.2.1 d (19 - l.length) u v)).1:=by unfold aRV;rw [hw]
 have herr:∀ e:Int,e≠0→nC n p.2.2.1 d (19 - l.length) u v=([],e)→aCn n p.2.2.1 o d t=e:=fun e he h=>by rw [hE,h];unfold aFK;rw [if_neg he]
 refine ⟨fun hne=>⟨u0,by rw [c1];exact u1,o0,by rw [c2];exact o1,fun hm=>?_,fun hm=>⟨hr,fun hgt=>?_,fun hle=>?_⟩⟩,fun he=>?_⟩
 ·rw [herr 170 (by decide) (rD _ hne (hln.trans hm))]
  exact ⟨rfl,rfl⟩
 ·have e1:aAM n ln (aK n u v)=1:=if_neg (by unfold rG;rw [decide_eq_true_eq];omega)
  rw [herr 1 (by decide) ((vK _ hne (by rw [hln];exact hm) (by rw [hln,e1];decide)).trans (by rw [hln,e1]))]
  exact ⟨rfl,rfl⟩
 ·obtain ⟨⟨l0,l1⟩,lf⟩:=c3 hm
  have hlin:aRL n ln:=⟨hno,l0,l1⟩
  obtain ⟨g1,g2,g3,g4,g5,g6,g7,g8⟩:0≤jE n ln∧jE n ln < n.2.2.2.1.length∧0≤aAy n ln∧aAy n ln < n.2.2.2.1.length∧0≤aHr n ln∧aHr n ln≤1439∧1≤iC n ln∧iC n ln≤5000:=aEX n.1 n.2.1 n.2.2.1 n.2.2.2.1 n.2.2.2.2.1 n.2.2.2.2.2 hlin
  have htm:rG (aK n u v)=true:=by unfold rG;rw [decide_eq_true_eq];omega
  have eE:aAM n ln (aK n u v)=zB (bK n u) (yU n ln).2.2.2.1 (aK n u v):=by unfold aAM;rw [if_pos htm,lf];rfl
  have eD:rC n ln (aK n u v)=nS (bK n u) (yU n ln).2.2.2.1 (aK n u v):=by unfold rC;rw [if_pos htm,lf];rfl
  have hv:bM (bK n u).1 (bK n u).2.1 (bK n u).2.2=true:=(oG n.1 n.2.1 n.2.2.1 n.2.2.2.1 n.2.2.2.2.1 n.2.2.2.2.2 hoff).2.2.1
  have g5':0≤(yU n ln).2.2.2.1:=g5
  have g6':(yU n ln).2.2.2.1≤1439:=g6
  have g7':1≤(yU n ln).2.2.2.2.1:=g7
  have g8':(yU n ln).2.2.2.2.1≤5000:=g8
  refine ⟨l0,l1,hoff,⟨hv,by omega,by omega,by omega,by omega⟩,fun hz=>?_,fun hz=>⟨hz,fun h20=>?_,fun h20=>?_⟩⟩
  ·have hz0:=uM.1 hz
   rw [herr _ hz0 ((vK _ hne (by rw [hln];exact hm) (by rw [hln,eE];exact hz0)).trans (by rw [hln,eE]))]
   exact ⟨hz,rfl⟩
  ·have hz0:=oJ.1 hz
   rw [herr 170 (by decide) (by rw [show 19 - l.length=0 by omega];exact tK hne (by rw [hln];exact hm) (by rw [hln,eE];exact hz0))]
   exact ⟨rfl,rfl⟩
  ·have hz0:=oJ.1 hz
   obtain ⟨b1,b2⟩:=sG hv hz0 g5' g6'
   have hnx:=tJ (n:=n) (nx:=p.2.2.1) (to:=d) (o:=u) (t:=v) (19 - (l.length + 1)) hne (by rw [hln];exact hm) (by rw [hln,eE];exact hz0)
   rw [show 19 - (l.length + 1) + 1=19 - l.length by omega,hln,eD] at hnx
   have lD:(mY n p.1 l).length=l.length:=by unfold mY;rw [List.length_map]
   generalize hq:nS (bK n u) (yU n ln).2.2.2.1 (aK n u v)=q at *
   have lA:mY n p.1 (l ++ [(u,v,q,ln)])=mY n p.1 l ++ [nT (bK n u).1 q + (2 - p.1)]:=by unfold mY aVm;rw [List.map_append];rfl
   have dq:-1000000≤nT (bK n u).1 q∧nT (bK n u).1 q≤1000000:=by
    obtain ⟨⟨z1,z2,_,_⟩,_⟩:=fJ.1 hv
    unfold nT;omega
   refine ⟨⟨hv,by omega,by omega⟩,jI (by omega),⟨⟨by rw [List.length_append],by rw [List.length_append,lD];show _ + 1≤_;omega⟩,by omega,by omega,fun x hx=>by rw [List.mem_singleton] at hx;omega⟩,by simp only [List.length_append];omega,jI (by omega),jI (by omega),
    (l ++ [(u,v,q,ln)],aAy n ln,q + iC n ln),⟨⟨hs,ht,g3,g4,o0,o1,by simp only;omega,by simp only;omega⟩,by simp;omega,?_⟩,⟨rfl,rfl,by simp,by rw [lA];simp;omega,by rw [lA,List.append_assoc]⟩,by simp;omega⟩
   show nC n p.2.2.1 d 19 o t=_
   rw [hw,hnx,aHh]
   simp
 ·rw [aCl _ he] at hE hL
  have hL':aRV n p.2.2.1 o d t=l ++ [(u,v,-1,-1)]:=hL
  have eG:aCm n p o d t=mY n p.1 l:=by unfold aCm;rw [hL',List.dropLast_concat]
  have eT:tN n p o d t=v:=by unfold tN;rw [hL'];simp
  have hE':aCn n p.2.2.1 o d t=0:=hE
  rw [hE',eG,eT]
  exact ⟨rfl,rfl,by omega,rfl⟩
end Go.Eng.Sv

set_option maxRecDepth 100000
noncomputable section
namespace Go.Eng.Sv
open Go.Proofs
def aVX (c:Int×List Bool×List Int) (m till:Int):Nat→Int→List Int
 | 0,_=>[]
 | f + 1,t=>if zB c m t=0 then if nS c m t < till then nS c m t :: aVX c m till f (nS c m t + 1) else [] else []
def aN9 (p:Plan):Nat:=(1440 * (p.2.1 - p.1)).toNat + 1
def aGE (n:Net) (p:Plan) (c o:Int) (f:Nat) (t:Int):List Int:=aVX (bK n o) (jL n c).2.1 (1440 * p.2.1) f t
def oZ (n:Net) (p:Plan) (c o:Int):List Int:=aGE n p c o (aN9 p) (1440 * p.1)
def sN (n:Net) (p:Plan) (c o:Int):Prop:=aCe n o∧aJj n c∧aBg p=true
def aCU (n:Net) (p:Plan) (c o:Int) (x:Nat×Int):Prop:=(1440 * p.1 + x.1≤x.2∧x.2≤1440 * p.2.1)∧x.1≤(oZ n p c o).length∧(oZ n p c o).drop x.1=aGE n p c o (aN9 p - x.1) x.2
def aVo:AV→AV
 | .pin u a=>.pin u a
 | .yld l=>.yld l
 | _=>.top
def aRU (n:Net) (p:Plan) (c o:Int):aJm:=⟨fun id y=>match id with
 | 1=>some { α:=Nat×Int,inv:=fun x=>aCU n p c o x,st:=fun x=>⟨put { y.s with tm:=y.s.tm.map aVo } [(5,.dat I x.2)],x.1,true⟩,μ:=fun x=>D.nat (D.sub (D.add (D.mul 1440 p.2.1) 1) x.2) }
 | _=>none,fun _ _=>none,fun id=>id == 2⟩
theorem aMe (c o:Int) (n:Net) (p:Plan) (hvc :
 let c1:=p.fst;
 let c2:=D.mul (1440:Int) c1;
 let c3:=n.fst;
 let c4:=n.snd;
 let c5:=c4.fst;
 let c6:=c4.snd;
 let c7:=c6.fst;
 let c8:=c6.snd;
 let c9:=c8.fst;
 let c10:=c8.snd;
 let c11:=c10.fst;
 let c12:=c10.snd;
 let c13:=p.snd;
 let c14:=c13.fst;
 let c15:=c13.snd;
 let c16:=c15.fst;
 let c17:=c15.snd;
 let c18:=(c3,c5,c7,c9,c11,c12);
 let c19:=bK c18 o;
 let c20:=c19.snd;
 let c21:=(c19.fst,c20.fst,c20.snd);
 let c22:=(D.get c12 (D.nat c) (ByteArray.mk (D.nil UInt8).toArray,(0:Int),(0:Int))).snd.fst;
 let c23:=D.mul (1440:Int) c14;
 let c24:=oZ n p c o;
 let c25:=D.len c24;
 let c26:=D.add c23 (1:Int);true=true∧true=true∧false=false∧∀ (l:Nat) (u:Nat→Value),sN n p c o→inR IntKind.i64 c2∧(∃ (x:Nat ×
 Int),aCU n p c o x∧(l=l∧u (0)=u (0)∧c3=c3∧c5=c5∧c7=c7∧c9=c9∧c11=c11∧c12=c12∧c1=c1∧c14=c14∧c16=c16∧c17=c17 ∧
 u (1)=u (1)∧o=o∧u (2)=u (2)∧c=c∧c2=x.snd∧True)∧0=x.fst∧true=true)∧∀ (x:Nat×Int),
 let c27:=D.ne (zB c21 c22 x.snd) (0:Int);
 let c28:=D.not c27;
 let c29:=nS c21 c22 x.snd;
 let c30:=D.cnd c27 true (D.ge c29 c23);
 let c31:=D.not c30;
 let c32:=D.cnd c30 true (D.not true);
 let c33:=D.fE x.fst (1);
 let c34:=D.add c29 (1:Int);
 let c35:=D.cnd c30 true (D.not false);aCU n p c o x→aCe c18 o∧D.ile (0:Int) c∧D.ilt c (D.ilen c12)∧aLX c21 c22 x.snd∧(c28=true→c28 =
 true→c28=true)∧(c28=true→c28=true→c28=true)∧(c28=true→c28=true→c28=true)∧(c28=true→c28=true→c28=true)∧(c28=true →
 c28=true→c28=true)∧(c28=true→inR IntKind.i64 c23)∧(c28=true→c28=true→c28=true)∧(c28=true→c28=true→c28=true)∧(D.and true
 c28=true→c28=true)∧(c31=true→(c31=true→c31=true)∧(c31=true→c31=true)∧u (0)=u (0)∧u (1)=u (1)∧u (2)=u (2)∧l=l∧true =
 true∧yY c24 x.fst c29∧((D.and true c31=true→c31=true)∧(c32=true→true=true→c33=c25)∧(c32=false→inR IntKind.i64 c34∧∃ (y:Nat ×
 Int),aCU n p c o y∧((l=l∧u (0)=u (0)∧c3=c3∧c5=c5∧c7=c7∧c9=c9∧c11=c11∧c12=c12∧c1=c1∧c14=c14∧c16=c16∧c17=c17
 ∧ u (1)=u (1)∧o=o∧u (2)=u (2)∧c=c∧c34=y.snd∧True)∧c33=y.fst∧true=true)∧D.nlt (D.nat (D.sub c26 y.snd)) (D.nat (D.sub c26
 x.snd))))∧(D.and true c31=true→c31=true)∧(c35=true→false=true→c33=c25)∧(c35=false→inR IntKind.i64 c34∧∃ (y:Nat×Int),aCU n p
 c o y∧(False∧c33=y.fst∧false=true)∧D.nlt (D.nat (D.sub c26 y.snd)) (D.nat (D.sub c26 x.snd))))∧(c31=false→(c31=true→c31=true→c31 =
 true)∧(D.and true c31=true→c31=true)∧(c35=true→true=true→x.fst=c25)∧(c35=false→inR IntKind.i64 c34∧∃ (y:Nat×Int),aCU n p c
 o y∧((l=l∧u (0)=u (0)∧c3=c3∧c5=c5∧c7=c7∧c9=c9∧c11=c11∧c12=c12∧c1=c1∧c14=c14∧c16=c16∧c17=c17∧u (1)=u (1)∧o
 = o∧u (2)=u (2)∧c=c∧c34=y.snd∧True)∧x.fst=y.fst∧true=true)∧D.nlt (D.nat (D.sub c26 y.snd)) (D.nat (D.sub c26 x.snd))))) :
  evL (mkc KW3) (aRU n p c o) 124 [.ipv (.ips (wHd n p .top)),.ip I o,.ip I c] ⟨sN n p c o,I,oZ n p c o⟩:=@of_eq _ _ (by kernel_rfl) hvc
theorem aP1 (c o:Int) (n:Net) (p:Plan):aGW Tryz.prog G0 124 [.ipv (.ips (wHd n p .top)),.ip I o,.ip I c] ⟨sN n p c o,I,oZ n p c o⟩:=by
 refine aGs (c:=mkc KW3) (A:=aRU n p c o) aRO cO hm (aMe c o n p ⟨rfl,rfl,rfl,fun l u ⟨hoff,hcl,hR⟩=>?_⟩)
 have eN:(n.1,n.2.1,n.2.2.1,n.2.2.2.1,n.2.2.2.2.1,n.2.2.2.2.2)=n:=rfl
 have eC:∀ c:Int×List Bool×List Int,(c.1,c.2.1,c.2.2)=c:=fun _=>rfl
 have eK:n.2.2.2.2.2.getD c.toNat (⟨#[]⟩,0,0)=jL n c:=rfl
 have hR':0≤p.1∧p.1 < p.2.1∧p.2.1≤600∧p.2.1 - p.1≤60:=of_decide_eq_true hR
 have hv:bM (bK n o).1 (bK n o).2.1 (bK n o).2.2=true:=(oG n.1 n.2.1 n.2.2.1 n.2.2.2.1 n.2.2.2.2.1 n.2.2.2.2.2 hoff).2.2.1
 obtain ⟨⟨m0,m1⟩,_⟩:=aB1 n.1 n.2.1 n.2.2.1 n.2.2.2.1 n.2.2.2.2.1 n.2.2.2.2.2 hoff.1 hcl
 have m0:0≤(jL n c).2.1:=m0
 have m1:(jL n c).2.1≤1439:=m1
 simp only [oN,fA,D.and,D.not,Bool.true_and,Bool.and_true,eq_self,true_and,and_true,imp_self,implies_true,Bool.not_eq_true',Bool.or_eq_true,Bool.or_eq_false_iff,Bool.not_eq_false',forall_const,D.nil,D.ne,D.ge,D.ilen,D.ile,D.ilt,D.nlt,D.sub,D.add,D.mul,D.nat,D.len,D.fE,D.get,decide_eq_true_eq,decide_eq_false_iff_not,bne_iff_ne,bne_eq_false_iff_eq,eN,eC,eK,Bool.not_true,Bool.not_false,Bool.false_eq_true,Bool.true_eq_false,false_and,and_false,exists_false,false_imp_iff]
 obtain ⟨q,hq⟩:∃ q,q=1440 * p.1:=⟨_,rfl⟩
 obtain ⟨r,hr⟩:∃ r,r=1440 * p.2.1:=⟨_,rfl⟩
 refine ⟨jI (by omega),⟨(0,1440 * p.1),⟨⟨by simp only;omega,by simp only;omega⟩,Nat.zero_le _,rfl⟩,rfl,rfl⟩,?_⟩
 rintro ⟨k,t⟩ ⟨⟨t0,t1⟩,k1,hk⟩
 simp only at t0 t1 k1 hk ⊢
 have hU:aN9 p - k=(aN9 p - (k + 1)) + 1:=by unfold aN9;omega
 have hst:aGE n p c o (aN9 p - k) t=if zB (bK n o) (jL n c).2.1 t=0 then if nS (bK n o) (jL n c).2.1 t < 1440 * p.2.1 then nS (bK n o) (jL n c).2.1 t :: aGE n p c o (aN9 p - (k + 1)) (nS (bK n o) (jL n c).2.1 t + 1) else [] else []:=by rw [hU];rfl
 rw [hst] at hk
 have hlen:∀ {l:List Int},(oZ n p c o).drop k=l→(oZ n p c o).length=k + l.length:=fun h=>by
  have:=congrArg List.length h;rw [List.length_drop] at this;omega
 refine ⟨hoff,hcl.1,hcl.2,⟨hv,m0,by omega,by omega,by omega⟩,fun _=>jI (by omega),fun ⟨h1,h2⟩=>?_,fun h _=>?_⟩
 ·have h2':nS (bK n o) (jL n c).2.1 t < 1440 * p.2.1:=by omega
  obtain ⟨b1,b2⟩:=sG hv h1 m0 m1
  rw [if_pos h1,if_pos h2'] at hk
  have hl:=hlen hk
  rw [List.length_cons] at hl
  refine ⟨?_,fun h=>absurd h (by omega),fun _=>⟨jI (by omega),(k + 1,nS (bK n o) (jL n c).2.1 t + 1),⟨⟨by simp only;omega,by simp only;omega⟩,by simp only;omega,?_⟩,⟨rfl,rfl⟩,by simp only;omega⟩⟩
  ·show (oZ n p c o)[k]?=some _
   have:=congrArg (fun l=>l[0]?) hk
   simpa [List.getElem?_drop] using this
  ·show (oZ n p c o).drop (k + 1)=_
   have:=congrArg (List.drop 1) hk
   rwa [List.drop_drop] at this
 ·have:(oZ n p c o).drop k=[]:=by
   rw [hk]
   by_cases h1:zB (bK n o) (jL n c).2.1 t=0
   ·rw [if_pos h1,if_neg (by omega)]
   ·rw [if_neg h1]
  have hl:=hlen this
  rw [List.length_nil] at hl
  omega
theorem aLg {n:Net} {p:Plan} {c o:Int} (h:sN n p c o):(oZ n p c o).length≤86401:=by
 have hR:0≤p.1∧p.1 < p.2.1∧p.2.1≤600∧p.2.1 - p.1≤60:=of_decide_eq_true h.2.2
 have:∀ (f:Nat) (t:Int),(aGE n p c o f t).length≤f:=fun f=>by
  induction f with
  | zero=>intro t;exact Nat.le_refl _
  | succ f ih =>
   intro t
   have e:aGE n p c o (f + 1) t=if zB (bK n o) (jL n c).2.1 t=0 then if nS (bK n o) (jL n c).2.1 t < 1440 * p.2.1 then nS (bK n o) (jL n c).2.1 t :: aGE n p c o f (nS (bK n o) (jL n c).2.1 t + 1) else [] else []:=rfl
   rw [e]
   split
   ·split
    ·rw [List.length_cons];exact Nat.succ_le_succ (ih _)
    ·exact Nat.zero_le _
   ·exact Nat.zero_le _
 refine Nat.le_trans (this _ _) ?_
 unfold aN9;omega
theorem aDR {n:Net} {p:Plan} {c o x:Int} (h:sN n p c o) (hx:x ∈ oZ n p c o):1440 * p.1≤x∧x < 1440 * p.2.1:=by
 have hv:bM (bK n o).1 (bK n o).2.1 (bK n o).2.2=true:=(oG n.1 n.2.1 n.2.2.1 n.2.2.2.1 n.2.2.2.2.1 n.2.2.2.2.2 h.1).2.2.1
 obtain ⟨⟨m0,m1⟩,_⟩:=aB1 n.1 n.2.1 n.2.2.1 n.2.2.2.1 n.2.2.2.2.1 n.2.2.2.2.2 h.1.1 h.2.1
 have m0:0≤(jL n c).2.1:=m0
 have m1:(jL n c).2.1≤1439:=m1
 have:∀ (f:Nat) (t:Int),x ∈ aGE n p c o f t→t≤x∧x < 1440 * p.2.1:=fun f=>by
  induction f with
  | zero=>intro t h;cases h
  | succ f ih =>
   intro t h
   have e:aGE n p c o (f + 1) t=if zB (bK n o) (jL n c).2.1 t=0 then if nS (bK n o) (jL n c).2.1 t < 1440 * p.2.1 then nS (bK n o) (jL n c).2.1 t :: aGE n p c o f (nS (bK n o) (jL n c).2.1 t + 1) else [] else []:=rfl
   rw [e] at h
   split at h
   ·rename_i he
    obtain ⟨b1,b2⟩:=sG hv he m0 m1
    split at h
    ·rcases List.mem_cons.1 h with rfl | h
     ·exact ⟨b1,by assumption⟩
     ·have:=ih _ h;omega
    ·cases h
   ·cases h
 exact this _ _ hx
end Go.Eng.Sv

set_option maxRecDepth 100000
noncomputable section
namespace Go.Eng.Sv
open Go.Proofs
def qV (p:Plan) (k o d:Int):Int:=((p.2.2.2.getD k.toNat []).getD o.toNat []).getD d.toNat 0
def aVS (n:Net) (p:Plan) (o d cut:Int):Int:=aK n d (tN n p o d cut)
def aUa (n:Net) (p:Plan) (c o d cut:Int):Int:=nS (bK n d) (jL n c).2.2 (aVS n p o d cut)
def aPb (n:Net) (p:Plan) (c o d cut:Int):Int:=zB (bK n d) (jL n c).2.2 (aVS n p o d cut)
def aTE (n:Net) (p:Plan) (c o d cut:Int):Int:=aBY (bK n d).2.1 (bK n d).2.2 (nT (bK n d).1 cut) (nT (bK n d).1 (aUa n p c o d cut))
def aFq (n:Net) (p:Plan) (c o d cut:Int):Int:=if aCn n p.2.2.1 o d cut≠0 then aCn n p.2.2.1 o d cut else if aPb n p c o d cut≠0 then aPb n p c o d cut else if aTE n p c o d cut > qV p c o d then 190 else 0
def aIJ (l:List Int):Int:=(l.find? fun e=>decide (e≠0)).getD 0
def mZ (n:Net) (p:Plan) (c o d:Int):Int:=aIJ ((oZ n p c o).map (aFq n p c o d))
def uX (n:Net) (p:Plan) (c o d:Int) (j:Nat):List Int:=((oZ n p c o).take j).flatMap (aCm n p o d)
def keepA (n:Net) (p:Plan) (c o d:Int):List Int:=uX n p c o d (oZ n p c o).length
def qX (n:Net) (p:Plan):Prop:=zW n=true∧sH n p=true
def vI (n:Net) (p:Plan) (c o d:Int) (k:Nat) (xs:List Int):Prop:=(qX n p∧aJj n c∧aCe n o∧aCe n d)∧xs.length=k∧xs.length≤900000000000
def aAj (n:Net) (p:Plan) (c o d:Int) (k:Nat) (xs:List Int) (j:Nat):Prop:=vI n p c o d k xs∧j≤(oZ n p c o).length∧∀ i:Nat,i < j→aFq n p c o d ((oZ n p c o).getD i 0)=0
def KIW:FuncId→List AV→Option oW:=fun f caps=>if f=124 + aCh then match caps with
  | [.ipv x,.ip (.int .i64) o,.ip (.int .i64) c]=>match asI x with
   | some (n,p)=>some ⟨sN n p c o,I,oZ n p c o⟩
   | none=>none
  | _=>none
 else none
def KW6:Kt:=kOr 87 (wK [.mp 2,.val I,.val I,.val I] (fun (_,o,d,t,_) n p k xs=>aC3 n p o d t k xs∧isZero (aCn n p.2.2.1 o d t)=true) (fun (_,o,d,t,_) n p=>.dat I (tN n p o d t)) fun (_,o,d,t,_) n p=>aCm n p o d t) KW4
def aVL:KPt:=pOr 87 (wP [.mp 2,.val I,.val I,.val I] fun (_,o,d,t,_) n p k xs=>⟨aC3 n p o d t k xs,isZero (aCn n p.2.2.1 o d t),aN4 39 (aCn n p.2.2.1 o d t)⟩) aVM
noncomputable def aTF:Cfg:=⟨Tryz.prog,G0,KW6,fun _=>false,KIW,true,aVL,fun f=>f == 89 || f == 87⟩
def aRS (n:Net) (p:Plan) (c o d:Int) (k:Nat) (xs:List Int):Ann:=⟨fun id s=>match id with
 | 2=>some { α:=Nat,inv:=fun j=>aAj n p c o d k xs j,st:=fun j=>{ flat s with mem:=uU n p (D.fE (D.len xs) (D.len (uX n p c o d j))) (D.app xs (uX n p c o d j)) },μ:=fun j=>j }
 | _=>none,fun _ _=>none,fun _ _=>none⟩
theorem aMb (c o d:Int) (k:Nat) (xs:List Int) (n:Net) (p:Plan) (hvc :
 let c1:=keepA n p c o d;
 let c2:=D.app xs c1;
 let c3:=n.fst;
 let c4:=n.snd;
 let c5:=c4.fst;
 let c6:=c4.snd;
 let c7:=c6.fst;
 let c8:=c6.snd;
 let c9:=c8.fst;
 let c10:=c8.snd;
 let c11:=c10.fst;
 let c12:=c10.snd;
 let c13:=p.fst;
 let c14:=p.snd;
 let c15:=c14.fst;
 let c16:=c14.snd;
 let c17:=c16.fst;
 let c18:=c16.snd;
 let c19:=(c3,c5,c7,c9,c11,c12);
 let c20:=(c13,c15,c17,c18);
 let c21:=oZ c19 c20 c o;
 let c22:=mZ n p c o d;
 let c23:=isZero c22;
 let c24:=chainOf (Value.iface (39) (Value.int IntKind.i64 c22));
 let c25:=bK c19 d;
 let c26:=c25.fst;
 let c27:=c25.snd;
 let c28:=c27.fst;
 let c29:=c27.snd;
 let c30:=(c26,c28,c29);
 let c31:=(D.get c12 (D.nat c) (ByteArray.mk (D.nil UInt8).toArray,(0:Int),(0:Int))).snd.snd;
 let c32:=D.get c18 (D.nat c) (D.nil (List Int));
 let c33:=D.get c32 (D.nat o) (D.nil Int);true=true∧(vI n p c o d k xs→1=1∧D.nle (D.len xs) (D.len c2)∧True∧true=true∧(∀ (x:Nat),
 aAj n p c o d k xs x→some [(AV.ips [AV.dat ((Ty.int IntKind.i64).pair (Ty.bool.sl.pair (Ty.int IntKind.i64).sl)).sl c3,AV.dat Ty.str.sl c5,AV.dat
 Ty.str.sl c7,AV.dat (Ty.str.pair ((Ty.int IntKind.i64).pair ((Ty.int IntKind.i64).pair ((Ty.int IntKind.i64).pair ((Ty.int IntKind.i64).pair ((Ty.int
 IntKind.i64).pair Ty.str.sl)))))).sl c9,AV.dat (Ty.str.pair ((Ty.int IntKind.i64).pair ((Ty.int IntKind.i64).pair ((Ty.int IntKind.i64).pair ((Ty.int
 IntKind.i64).pair (Ty.int IntKind.i64)))))).sl c11,AV.dat (Ty.str.pair ((Ty.int IntKind.i64).pair (Ty.int IntKind.i64))).sl c12,AV.dat (Ty.int IntKind.i64)
 c13,AV.dat (Ty.int IntKind.i64) c15,AV.dat (Ty.int IntKind.i64).sl.sl c17,AV.dat (Ty.int IntKind.i64).sl.sl.sl c18,AV.top]).ipv,AV.ip (Ty.int IntKind.i64)
 o,AV.ip (Ty.int IntKind.i64) c]=some [(AV.ips [AV.dat ((Ty.int IntKind.i64).pair (Ty.bool.sl.pair (Ty.int IntKind.i64).sl)).sl c3,AV.dat Ty.str.sl c5,
 AV.dat Ty.str.sl c7,AV.dat (Ty.str.pair ((Ty.int IntKind.i64).pair ((Ty.int IntKind.i64).pair ((Ty.int IntKind.i64).pair ((Ty.int IntKind.i64).pair ((Ty.int
 IntKind.i64).pair Ty.str.sl)))))).sl c9,AV.dat (Ty.str.pair ((Ty.int IntKind.i64).pair ((Ty.int IntKind.i64).pair ((Ty.int IntKind.i64).pair ((Ty.int
 IntKind.i64).pair (Ty.int IntKind.i64)))))).sl c11,AV.dat (Ty.str.pair ((Ty.int IntKind.i64).pair (Ty.int IntKind.i64))).sl c12,AV.dat (Ty.int IntKind.i64)
 c13,AV.dat (Ty.int IntKind.i64) c15,AV.dat (Ty.int IntKind.i64).sl.sl c17,AV.dat (Ty.int IntKind.i64).sl.sl.sl c18,AV.top]).ipv,AV.ip (Ty.int IntKind.i64)
 o,AV.ip (Ty.int IntKind.i64) c])∧sN c19 c20 c o∧(∃ x,
 let c34:=uX n p c o d x;aAj n p c o d k xs x∧x=0∧1=1∧0=0∧0=0∧c=c∧o=o∧d=d∧1=1∧0=0∧0=0∧c=c∧o=o∧d=d ∧
 1=1∧0=0∧0=0∧c=c∧o=o∧1=1∧0=0∧0=0∧o=o∧c=c∧c3=c3∧c5=c5∧c7=c7∧c9=c9∧c11=c11∧c12=c12∧c13=c13∧c15
 = c15∧c17=c17∧c18=c18∧k=D.fE (D.len xs) (D.len c34)∧xs=D.app xs c34∧1=1∧D.len xs=D.len xs∧True)∧(∀ (x:Nat),
 let c35:=uX n p c o d x;
 let c36:=D.fE (D.len xs) (D.len c35);
 let c37:=D.app xs c35;∀ (y:Int),
 let c38:=aCn c19 c17 o d y;
 let c39:=isZero c38;
 let c40:=aCm c19 c20 o d y;
 let c41:=D.app c37 c40;
 let c42:=tN c19 c20 o d y;
 let c43:=aK c19 d c42;
 let c44:=zB c30 c31 c43;
 let c45:=isZero c44;
 let c46:=nS c30 c31 c43;
 let c47:=nT c26 c46;
 let c48:=D.gt (aBY c28 c29 (nT c26 y) c47) (D.get c33 (D.nat d) (0:Int));aAj n p c o d k xs x→yY c21 x y→(true=true→aC3 c19 c20 o d y
 c36 c37∧(c39=false→c23=false∧true=true∧chainOf (Value.iface (39) (Value.int IntKind.i64 c38))=c24))∧((true=true→c39=true)→(aC3 c19
 c20 o d y c36 c37∧c39=true)∧1=1∧D.nle (D.len c37) (D.len c41)∧aCe c19 d∧1=1∧0=0∧1=1∧0=0∧1=1∧1=1∧1=1∧1=1∧0=0 ∧
 D.ile (0:Int) c∧D.ilt c (D.ilen c12)∧vF c19 d c42∧aLX c30 c31 c43∧True∧(c45=true→1=1∧0=0∧1=1∧1=1∧1=1∧1=1∧0=0 ∧
 D.ile (0:Int) c∧D.ilt c (D.ilen c12)∧vF c19 d c42∧aLX c30 c31 c43∧(True∧c45=true)∧1=1∧0=0∧rX c26 c28 c29 y∧1=1∧0=0 ∧
 rX c26 c28 c29 c46∧1=1∧0=0∧countP c26 c28 c29 (nT c26 y) c47∧1=1∧1=1∧1=1∧1=1∧0=0∧D.ile (0:Int) c∧D.ilt c (D.ilen
 c18)∧D.ile (0:Int) o∧D.ilt o (D.ilen c32)∧D.ile (0:Int) d∧D.ilt d (D.ilen c33)∧(c48=true→(true=true→True∧(false=false→c23=false ∧
 true=true∧chainOf (Value.iface (39) (Value.int IntKind.i64 (190:Int)))=c24))∧True)∧(c48=false→∃ z,
 let c49:=uX n p c o d z;aAj n p c o d k xs z∧z=D.fE x (1)∧1=1∧0=0∧0=0∧c=c∧o=o∧d=d∧1=1∧0=0∧0=0∧c=c∧o=o
 ∧ d=d∧1=1∧0=0∧0=0∧c=c∧o=o∧1=1∧0=0∧0=0∧o=o∧c=c∧c3=c3∧c5=c5∧c7=c7∧c9=c9∧c11=c11∧c12=c12∧c13 =
 c13∧c15=c15∧c17=c17∧c18=c18∧D.fE c36 (D.len c40)=D.fE (D.len xs) (D.len c49)∧c41=D.app xs c49∧1=1∧D.len xs=D.len xs∧True)) ∧
 (c45=false→c23=false∧true=true∧chainOf (Value.iface (39) (Value.int IntKind.i64 c44))=c24)))∧∀ (x:Nat),
 let c50:=uX n p c o d x;aAj n p c o d k xs x→x=D.len c21→c23=true∧c3=c3∧c5=c5∧c7=c7∧c9=c9∧c11=c11∧c12=c12∧c13=c13 ∧
 c15=c15∧c17=c17∧c18=c18∧D.fE (D.len xs) (D.len c50)=D.fE k (D.len c1)∧D.app xs c50=c2∧1=1∧D.len xs=D.len xs∧True)) :
  evM aTF (aRS n p c o d k xs) 54 [.ptr 2 1 0 0,.dat I c,.dat I o,.dat I d] (uU n p k xs) (.tup []) (uU n p (D.fE k (D.len (keepA n p c o d))) (D.app xs (keepA n p c o d))) ⟨vI n p c o d k xs,isZero (mZ n p c o d),aN4 39 (mZ n p c o d)⟩:=@of_eq _ _ (by kernel_rfl) hvc
theorem aGA {l:List Int} {j:Nat} (hj:j < l.length) (h0:∀ i:Nat,i < j→l.getD i 0=0) (h1:l.getD j 0≠0):aIJ l=l.getD j 0:=by
 induction l generalizing j with
 | nil=>simp at hj
 | cons x l ih =>
  unfold aIJ
  rw [List.find?_cons]
  cases j with
  | zero =>
   have:x≠0:=h1
   rw [decide_eq_true this];rfl
  | succ j =>
   have hx:x=0:=h0 0 (by omega)
   rw [decide_eq_false (by rw [hx];decide)]
   exact ih (by simpa using hj) (fun i hi=>by simpa using h0 (i + 1) (by omega)) (by simpa using h1)
theorem aFe {l:List Int} (h:∀ i:Nat,i < l.length→l.getD i 0=0):aIJ l=0:=by
 unfold aIJ
 have:l.find? (fun e=>decide (e≠0))=none:=by
  rw [List.find?_eq_none]
  intro x hx
  obtain ⟨i,hi,rfl⟩:=List.mem_iff_getElem.1 hx
  have:=h i hi
  rw [List.getD_eq_getElem?_getD,List.getElem?_eq_getElem hi,Option.getD_some] at this
  simp [this]
 rw [this];rfl
theorem jP {l:List Int} (h:aIJ l=0):∀ x ∈ l,x=0:=by
 intro x hx
 obtain ⟨i,hi,rfl⟩:=List.mem_iff_getElem.1 hx
 induction i using Nat.strongRecOn with
 | ind i ih =>
  have e:∀ j (hj:j < l.length),l.getD j 0=l[j]:=fun j hj=>by rw [List.getD_eq_getElem?_getD,List.getElem?_eq_getElem hj,Option.getD_some]
  rw [← e i hi]
  refine Decidable.byContradiction fun hne=>?_
  have:=aGA hi (fun j hj=>by rw [e j (by omega)];exact ih j hj (by omega) (List.getElem_mem _)) hne
  exact hne (this.symm.trans h)
theorem jC {n:Net} {p:Plan} (h:sH n p=true):aBg p=true∧aLQ n p.2.2.1=true∧aFm n p=true:=by
 unfold sH at h
 simpa only [Bool.and_eq_true] using h
theorem aLd {n:Net} {p:Plan} (h:aFm n p=true) {c o d:Int} (hc:aJj n c) (o0:0≤o) (o1:o < n.2.2.2.1.length) (d0:0≤d) (d1:d < n.2.2.2.1.length) :
  (c < p.2.2.2.length∧o < (p.2.2.2.getD c.toNat []).length∧d < ((p.2.2.2.getD c.toNat []).getD o.toNat []).length)∧-1≤qV p c o d∧qV p c o d≤65518:=by
 obtain ⟨c0,c1⟩:=hc
 unfold aFm at h
 simp only [Bool.and_eq_true,decide_eq_true_eq,List.all_eq_true] at h
 obtain ⟨h1,h2⟩:=h
 have h3:=h2 _ (getD_mem (l:=p.2.2.2) (i:=c.toNat) (d:=[]) (by omega))
 have h4:((p.2.2.2.getD c.toNat []).length:Int)=n.2.2.2.1.length:=by
  unfold sgF at h3;simp only [Bool.and_eq_true,decide_eq_true_eq] at h3;exact h3.1
 have h5:=(aEq h4).1 h3 o.toNat (by omega)
 have h6:(((p.2.2.2.getD c.toNat []).getD o.toNat []).length:Int)=n.2.2.2.1.length:=by
  unfold sgR at h5;simp only [Bool.and_eq_true,decide_eq_true_eq] at h5;exact h5.1
 have h7:yH ((o.toNat:Nat):Int) (qV p c o d)=true:=(aFW h6).1 h5 d.toNat (by omega)
 unfold yH aDP at h7
 rw [decide_eq_true_eq] at h7
 exact ⟨⟨by omega,by omega,by omega⟩,h7⟩
theorem aC2 {n:Net} {nx:List (List Int)} {to:Int}:∀ (k:Nat) (o t:Int),aL4 n nx o to t→(nC n nx to k o t).2=0 →
  (nC n nx to k o t).1.length≤k + 1∧(nC n nx to k o t).1≠[]∧t≤((nC n nx to k o t).1.getLastD (0,0,0,0)).2.1∧((nC n nx to k o t).1.getLastD (0,0,0,0)).2.1≤2200000
 | k,o,t,hp,h=>by
  obtain ⟨hs,ht,u0,u1,o0,o1,v0,v1⟩:=id hp
  by_cases he:o=to
  ·rw [aCl k he]
   exact ⟨by simp,by simp,Int.le_refl _,v1⟩
  by_cases hm:nxt nx o to=-1
  ·rw [rD k he hm] at h;cases h
  by_cases h6:aAM n (nxt nx o to) (aK n o t)=0
  case neg=>rw [vK k he hm h6] at h;exact absurd h h6
  cases k with
  | zero=>rw [tK he hm h6] at h;cases h
  | succ k =>
   have hno:noF n=true:=kG n.1 n.2.1 n.2.2.1 n.2.2.2.1 n.2.2.2.2.1 n.2.2.2.2.2 hs
   obtain ⟨_,_,c3⟩:(nx.length:Int)=n.2.2.2.1.length∧((nx.getD o.toNat []).length:Int)=n.2.2.2.1.length∧(nxt nx o to≠-1→(0≤nxt nx o to∧nxt nx o to < n.2.2.2.2.1.length)∧jE n (nxt nx o to)=o):=aAG n.1 n.2.1 n.2.2.1 n.2.2.2.1 n.2.2.2.2.1 n.2.2.2.2.2 ht u0 u1 o0 o1
   obtain ⟨⟨l0,l1⟩,lf⟩:=c3 hm
   have hlin:aRL n (nxt nx o to):=⟨hno,l0,l1⟩
   obtain ⟨g1,g2,g3,g4,g5,g6,g7,g8⟩:0≤jE n (nxt nx o to)∧jE n (nxt nx o to) < n.2.2.2.1.length∧0≤aAy n (nxt nx o to)∧aAy n (nxt nx o to) < n.2.2.2.1.length∧0≤aHr n (nxt nx o to)∧aHr n (nxt nx o to)≤1439∧1≤iC n (nxt nx o to)∧iC n (nxt nx o to)≤5000:=aEX n.1 n.2.1 n.2.2.1 n.2.2.2.1 n.2.2.2.2.1 n.2.2.2.2.2 hlin
   obtain ⟨b1,b2,b3,b4⟩:0≤aK n o t∧aK n o t≤2000000∧aK n o t≤rC n (nxt nx o to) (aK n o t)∧rC n (nxt nx o to) (aK n o t)≤aK n o t + 90000:=zG n.1 n.2.1 n.2.2.1 n.2.2.2.1 n.2.2.2.2.1 n.2.2.2.2.2 hlin h6
   obtain ⟨_,_,r1,r2⟩:inR .i64 ((kX n o).2.2.2.2.1 * (kX n o).2.2.2.2.2.1)∧inR .i64 (aK n o t)∧t≤aK n o t∧aK n o t≤t + 960:=yN n.1 n.2.1 n.2.2.1 n.2.2.2.1 n.2.2.2.2.1 n.2.2.2.2.2 ⟨⟨hno,u0,u1⟩,by omega,by omega⟩
   rw [tJ k he hm h6] at h ⊢
   by_cases h7:(nC n nx to k (aAy n (nxt nx o to)) (rC n (nxt nx o to) (aK n o t) + iC n (nxt nx o to))).2=0
   case neg=>rw [aDk h7] at h;exact absurd h h7
   obtain ⟨i1,i2,i3,i4⟩:=aC2 k _ _ ⟨hs,ht,g3,g4,o0,o1,by omega,by omega⟩ h7
   rw [aF5 h7]
   refine ⟨by simp;omega,by simp,?_,?_⟩
   ·show t≤(([_] ++ (nC n nx to k _ _).1).getLastD (0,0,0,0)).2.1
    rw [List.singleton_append,List.getLastD_cons,List.getLastD_eq_getLast?,List.getLast?_eq_some_getLast i2]
    rw [List.getLastD_eq_getLast?,List.getLast?_eq_some_getLast i2] at i3
    simp only [Option.getD_some] at i3 ⊢
    omega
   ·show (([_] ++ (nC n nx to k _ _).1).getLastD (0,0,0,0)).2.1≤_
    rw [List.singleton_append,List.getLastD_cons,List.getLastD_eq_getLast?,List.getLast?_eq_some_getLast i2]
    rw [List.getLastD_eq_getLast?,List.getLast?_eq_some_getLast i2] at i4
    exact i4
theorem aC4 {n:Net} {p:Plan} {o d t:Int} (hp:aL4 n p.2.2.1 o d t) (h:aCn n p.2.2.1 o d t=0):(aCm n p o d t).length≤19∧t≤tN n p o d t∧tN n p o d t≤2200000:=by
 obtain ⟨h1,_,h3,h4⟩:=aC2 19 o t hp h
 refine ⟨?_,h3,h4⟩
 unfold aCm mY
 rw [List.length_map,List.length_dropLast]
 show (nC n p.2.2.1 d 19 o t).1.length - 1≤19
 omega
theorem aDQ {n:Net} {p:Plan} {c o d x:Int} (hp:qX n p) (hc:sN n p c o) (hd:aCe n d) (hx:x ∈ oZ n p c o):aL4 n p.2.2.1 o d x:=by
 obtain ⟨b1,b2⟩:=aDR hc hx
 have hR:0≤p.1∧p.1 < p.2.1∧p.2.1≤600∧p.2.1 - p.1≤60:=of_decide_eq_true hc.2.2
 exact ⟨hp.1,(jC hp.2).2.1,hc.1.2.1,hc.1.2.2,hd.2.1,hd.2.2,by omega,by omega⟩
theorem aDT {n:Net} {p:Plan} {c o d x:Int} (h:aFq n p c o d x=0):aCn n p.2.2.1 o d x=0∧aPb n p c o d x=0∧aTE n p c o d x≤qV p c o d:=by
 unfold aFq at h
 by_cases h1:aCn n p.2.2.1 o d x=0
 ·rw [if_neg (fun g=>g h1)] at h
  by_cases h2:aPb n p c o d x=0
  ·rw [if_neg (fun g=>g h2)] at h
   split at h
   ·cases h
   ·exact ⟨h1,h2,by omega⟩
  ·rw [if_pos h2] at h;exact absurd h h2
 ·rw [if_pos h1] at h;exact absurd h h1
theorem aBF {n:Net} {p:Plan} {c o d:Int} {k:Nat} {xs:List Int}:∀ {j:Nat},aAj n p c o d k xs j→(uX n p c o d j).length≤19 * j
 | 0,_=>by unfold uX;simp
 | j + 1,⟨hp,hj,h0⟩=>by
  have ih:=aBF (j:=j) ⟨hp,by omega,fun i hi=>h0 i (by omega)⟩
  have hc:sN n p c o:=⟨hp.1.2.2.1,hp.1.2.1,(jC hp.1.1.2).1⟩
  have hm:(oZ n p c o).getD j 0 ∈ oZ n p c o:=getD_mem (by omega)
  have:=(aC4 (aDQ hp.1.1 hc hp.1.2.2.2 hm) (aDT (h0 j (by omega))).1).1
  unfold uX at ih ⊢
  rw [List.take_add_one,List.flatMap_append,List.length_append,List.getElem?_eq_getElem (show j < (oZ n p c o).length by omega)]
  rw [List.getD_eq_getElem?_getD,List.getElem?_eq_getElem (show j < (oZ n p c o).length by omega),Option.getD_some] at this
  simp only [Option.toList_some,List.flatMap_cons,List.flatMap_nil,List.append_nil]
  omega
theorem aWo:aQ Tryz.prog G0 KW6:=aJ (aL5 fun (_,o,d,t,_) n p k xs=>(aOJ o d t k xs n p).1) aUh
theorem aLK:fB Tryz.prog G0 aVL:=rW (aRX fun (_,o,d,t,_) n p k xs=>(aOJ o d t k xs n p).2) aLL
theorem aRz {P:Program} {G:List (Nat×AV)} {g N:Nat} {caps:List AV} {it:oW} (h:aGW P G g caps it):if g + N < N then zQ P G (g + N) caps it else aGW P G (g + N - N) caps it:=by
 rw [if_neg (by omega),Nat.add_sub_cancel];exact h
theorem aTR:dF Tryz.prog G0 KIW:=by
 unfold dF KIW
 generalize aCh=N
 intro f caps it h
 split at h
 case isFalse=>cases h
 rename_i hf
 split at h
 case h_2=>cases h
 rename_i x o c
 split at h
 case h_2=>cases h
 rename_i n p hx
 cases h
 subst hf
 rw [aPh hx]
 exact aRz (aP1 c o n p)
theorem aJM (c o d:Int) (k:Nat) (xs:List Int) (n:Net) (p:Plan):aC Tryz.prog G0 54 [.ptr 2 1 0 0,.dat I c,.dat I o,.dat I d] (uU n p k xs) ⟨vI n p c o d k xs∧isZero (mZ n p c o d)=true,.tup [],uU n p (D.fE k (D.len (keepA n p c o d))) (D.app xs (keepA n p c o d))⟩ ∧
  jM Tryz.prog G0 54 [.ptr 2 1 0 0,.dat I c,.dat I o,.dat I d] (uU n p k xs) ⟨vI n p c o d k xs,isZero (mZ n p c o d),aN4 39 (mZ n p c o d)⟩:=by
 refine fK (c:=aTF) aWo aTR hm aLK (aMb c o d k xs n p ⟨rfl,fun hp=>?_⟩)
 have eN:(n.1,n.2.1,n.2.2.1,n.2.2.2.1,n.2.2.2.2.1,n.2.2.2.2.2)=n:=rfl
 have eP:(p.1,p.2.1,p.2.2.1,p.2.2.2)=p:=rfl
 have eC:∀ c:Int×List Bool×List Int,(c.1,c.2.1,c.2.2)=c:=fun _=>rfl
 have eK:n.2.2.2.2.2.getD c.toNat (⟨#[]⟩,0,0)=jL n c:=rfl
 have eA:((p.2.2.2.getD c.toNat []).getD o.toNat []).getD d.toNat 0=qV p c o d:=rfl
 simp only [eq_self,true_and,and_true,implies_true,forall_const,D.nil,D.gt,D.ilen,D.ile,D.ilt,D.nle,D.nat,D.len,D.fE,D.get,D.app,decide_eq_true_eq,decide_eq_false_iff_not,eN,eP,eC,eK,eA]
 obtain ⟨⟨hpl,hcl,ho,hd⟩,hk,hxl⟩:=id hp
 obtain ⟨hR,hT,hDy⟩:=jC hpl.2
 have hc:sN n p c o:=⟨ho,hcl,hR⟩
 have hR':0≤p.1∧p.1 < p.2.1∧p.2.1≤600∧p.2.1 - p.1≤60:=of_decide_eq_true hR
 have hlen:=aLg hc
 have hv:bM (bK n d).1 (bK n d).2.1 (bK n d).2.2=true:=(oG n.1 n.2.1 n.2.2.1 n.2.2.2.1 n.2.2.2.2.1 n.2.2.2.2.2 hd).2.2.1
 obtain ⟨⟨z1,z2,_,_⟩,_⟩:=fJ.1 hv
 obtain ⟨_,⟨m0,m1⟩⟩:=aB1 n.1 n.2.1 n.2.2.1 n.2.2.2.1 n.2.2.2.2.1 n.2.2.2.2.2 hd.1 hcl
 have m0:0≤(jL n c).2.2:=m0
 have m1:(jL n c).2.2≤1439:=m1
 obtain ⟨⟨q1,q2,q3⟩,q4⟩:=aLd hDy hcl ho.2.1 ho.2.2 hd.2.1 hd.2.2
 have kE:∀ (x:Nat),aAj n p c o d k xs x→x < (oZ n p c o).length→aFq n p c o d ((oZ n p c o).getD x 0)≠0→mZ n p c o d=aFq n p c o d ((oZ n p c o).getD x 0):=fun x hx hl hne=>by
  have eg:∀ i:Nat,i < (oZ n p c o).length→((oZ n p c o).map (aFq n p c o d)).getD i 0=aFq n p c o d ((oZ n p c o).getD i 0):=fun i hi=>by
   rw [List.getD_eq_getElem?_getD,List.getElem?_map,List.getD_eq_getElem?_getD,List.getElem?_eq_getElem hi];rfl
  unfold mZ
  rw [aGA (j:=x) (by rw [List.length_map];exact hl) (fun i hi=>by rw [eg i (by omega)];exact hx.2.2 i hi) (by rw [eg x hl];exact hne),eg x hl]
 refine ⟨by rw [List.length_append];omega,hc,⟨0,⟨hp,Nat.zero_le _,fun i hi=>by omega⟩,rfl,by rw [hk];rfl,(List.append_nil _).symm⟩,fun x y hx hy=>?_,fun x hx hl=>?_⟩
 ·have hy:(oZ n p c o)[x]?=some y:=hy
  have hxl2:x < (oZ n p c o).length:=(List.getElem?_eq_some_iff.1 hy).1
  have ey:(oZ n p c o).getD x 0=y:=by rw [List.getD_eq_getElem?_getD,hy];rfl
  have hym:y ∈ oZ n p c o:=List.mem_of_getElem? hy
  have kE:=kE x hx hxl2
  rw [ey] at kE
  obtain ⟨y0,y1⟩:=aDR hc hym
  have hgl:=aBF hx
  have hwP:=aDQ hpl hc hd hym
  have hW:aC3 n p o d y (xs.length + (uX n p c o d x).length) (xs ++ uX n p c o d x):=⟨hwP,⟨by omega,by omega⟩,by rw [List.length_append],by rw [List.length_append];omega⟩
  refine ⟨⟨hW,fun hz=>?_⟩,fun hz=>?_⟩
  ·have hz0:=uM.1 hz
   have e:aFq n p c o d y=aCn n p.2.2.1 o d y:=if_pos hz0
   rw [kE (by rw [e];exact hz0),e]
   exact ⟨hz,rfl⟩
  ·have hz0:=oJ.1 hz
   obtain ⟨_,w1,w2⟩:=aC4 hwP hz0
   have hr:vF n d (tN n p o d y):=⟨hd,by omega,by omega⟩
   obtain ⟨_,_,r1,r2⟩:inR .i64 ((kX n d).2.2.2.2.1 * (kX n d).2.2.2.2.2.1)∧inR .i64 (aK n d (tN n p o d y))∧tN n p o d y≤aK n d (tN n p o d y)∧aK n d (tN n p o d y)≤tN n p o d y + 960:=yN n.1 n.2.1 n.2.2.1 n.2.2.2.1 n.2.2.2.2.1 n.2.2.2.2.2 hr
   have hf:aLX (bK n d) (jL n c).2.2 (aK n d (tN n p o d y)):=⟨hv,m0,by omega,by omega,by omega⟩
   refine ⟨⟨hW,hz⟩,by simp only [List.length_append];omega,hd,hcl.1,hcl.2,hr,hf,fun h0=>?_,fun h0=>?_⟩
   ·have h00:=oJ.1 h0
    obtain ⟨b1,b2⟩:=sG hv h00 m0 m1
    have dB:∀ t:Int,0≤t→t≤3000000→kN (nT (bK n d).1 t)=true:=fun t t0 t1=>aBL (by unfold nT;omega) (by unfold nT;omega)
    refine ⟨hcl.1,hcl.2,hr,hf,h0,⟨hv,by omega,by omega⟩,⟨hv,by omega,by omega⟩,⟨hv,dB _ (by omega) (by omega),dB _ (by omega) (by omega)⟩,hcl.1,q1,ho.2.1,q2,hd.2.1,q3,fun hgt=>?_,fun hle=>?_⟩
    ·have e:aFq n p c o d y=190:=by
      unfold aFq
      rw [if_neg (fun g=>g hz0),if_neg (fun g=>g (show aPb n p c o d y=0 from h00)),if_pos (show aTE n p c o d y > qV p c o d from hgt)]
     rw [kE (by rw [e];decide),e]
     exact ⟨rfl,rfl⟩
    ·have e:aFq n p c o d y=0:=by
      unfold aFq
      rw [if_neg (fun g=>g hz0),if_neg (fun g=>g (show aPb n p c o d y=0 from h00)),if_neg (show ¬ aTE n p c o d y > qV p c o d from hle)]
     have eG:uX n p c o d (x + 1)=uX n p c o d x ++ aCm n p o d y:=by
      unfold uX
      rw [List.take_add_one,hy,List.flatMap_append]
      simp
     refine ⟨x + 1,⟨hp,hxl2,fun i hi=>?_⟩,rfl,by rw [eG,List.length_append];omega,by rw [eG,List.append_assoc]⟩
     by_cases h3:i < x
     ·exact hx.2.2 i h3
     ·have:i=x:=by omega
      rw [this,ey];exact e
   ·have h00:=uM.1 h0
    have e:aFq n p c o d y=aPb n p c o d y:=by
     unfold aFq
     rw [if_neg (fun g=>g hz0),if_pos (show aPb n p c o d y≠0 from h00)]
    rw [kE (by rw [e];exact h00),e]
    exact ⟨h0,rfl⟩
 ·have e:mZ n p c o d=0:=by
   unfold mZ
   refine aFe fun i hi=>?_
   rw [List.length_map] at hi
   rw [List.getD_eq_getElem?_getD,List.getElem?_map,List.getElem?_eq_getElem hi]
   have:=hx.2.2 i (by omega)
   rw [List.getD_eq_getElem?_getD,List.getElem?_eq_getElem hi] at this
   exact this
  rw [e,hl]
  exact ⟨rfl,by rw [hk];rfl,rfl⟩
end Go.Eng.Sv
