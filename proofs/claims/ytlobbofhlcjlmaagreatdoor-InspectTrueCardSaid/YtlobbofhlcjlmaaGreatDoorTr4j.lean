/- PeTr3j, PeTr4j -/
import Derived.Test.YtlobbofhlcjlmaaGreatDoorZ22
import Derived.Test.YtlobbofhlcjlmaaGreatDoorTr2j
set_option linter.unusedSimpArgs false
set_option linter.unusedVariables false
set_option maxRecDepth 100000
namespace Go.Eng.Sv
open Go.Proofs
theorem KSR3:KSound Tryz.prog G0 KR3:=kOr_ok (dataK_ok fun (i,l,_)=>t_pinside i l) <| kOr_ok (dataK_ok fun (t,_)=>t_pinRange t) <| kOr_ok (dataK_ok fun ((cs,ns,os,fs,ls,ks),_)=>t_psound cs ns os fs ls ks) <|
 kOr_ok (dataK_ok fun ((cs,ns,os,fs,ls,ks),o,_)=>t_pcalOf o cs ns os fs ls ks) <| kOr_ok (dataK_ok fun (c,m,t,_)=>t_pfirst m t c) <| kOr_ok (dataK_ok fun ((cs,ns,os,fs,ls,ks),o,t,_)=>t_pready o t cs ns os fs ls ks) <|
 kOr_ok (dataK_ok fun (v,e,_)=>(t_pmust v e).1) <| kOr_ok (dataK_ok fun (b,_)=>(t_pdemand b).1) KSR2
theorem tab_row {n:Net} {nx:List (List Int)} (hl:(nx.length:Int)=n.2.2.2.1.length):tabF n nx=true↔∀ i:Nat,(i:Int) < nx.length→rowOk n i (nx.getD i [])=true:=by
 unfold tabF
 simp only [Bool.and_eq_true,decide_eq_true_eq,List.all_eq_true,List.mem_range]
 exact ⟨fun h i hi=>h.2 i (by omega),fun h=>⟨hl,fun i hi=>h i (by omega)⟩⟩
theorem row_cell {n:Net} {o:Int} {row:List Int} (hl:(row.length:Int)=n.2.2.2.1.length):rowOk n o row=true↔∀ i:Nat,(i:Int) < row.length→cellOk n o (row.getD i 0)=true:=by
 unfold rowOk
 simp only [Bool.and_eq_true,decide_eq_true_eq,List.all_eq_true]
 refine ⟨fun h i hi=>h.2 _ ?_,fun h=>⟨hl,fun x hx=>?_⟩⟩
 ·rw [List.getD_eq_getElem?_getD,List.getElem?_eq_getElem (by omega),Option.getD_some];exact List.getElem_mem _
 ·obtain ⟨i,hi,rfl⟩:=List.mem_iff_getElem.1 hx
  have:=h i (by omega)
  rw [List.getD_eq_getElem?_getD,List.getElem?_eq_getElem hi,Option.getD_some] at this
  exact this
theorem cell_cnd (n:Net) (o l:Int):D.cnd (D.ne l (-1)) (D.cnd (D.not (idxF l (D.ilen n.2.2.2.2.1))) true (D.ne (lnFrom n l) o)) false=!cellOk n o l:=by
 unfold cellOk
 simp only [D.cnd,D.ne,D.not,D.ilen]
 by_cases h:l=-1
 ·simp [h]
 ·have hb:(l != -1)=true:=by simpa using h
  rw [hb]
  cases hi:idxF l n.2.2.2.2.1.length
  ·simp [h]
  ·by_cases hf:lnFrom n l=o <;> simp [h,hf]
theorem t_pformed (nx:List (List Int)) (cs:LC) (ns os:LB) (fs:List Off) (ls:List Line) (ks:List Cla):SoundC Tryz.prog G0 45 [.ip N (cs,ns,os,fs,ls,ks),.dat M nx] [] ⟨fitsM nx,.dat .bool (tabF (cs,ns,os,fs,ls,ks) nx),[]⟩:=by
 refine sound_of_ev (c:=mkc KR3) KSR3 KI0s hm (vc_pformed nx cs ns os fs ls ks ⟨rfl,fun hf=>?_⟩)
 have ec:∀ l x:Int,D.cnd (D.ne l (-1)) (D.cnd (D.not (idxF l (D.ilen ls))) true (D.ne (D.get ls (D.nat l) (ByteArray.mk (D.nil UInt8).toArray,(0:Int),(0:Int),(0:Int),(0:Int),(0:Int))).snd.fst x)) false=!cellOk (cs,ns,os,fs,ls,ks) x l:=fun l x=>cell_cnd (cs,ns,os,fs,ls,ks) x l
 simp only [ec]
 simp only [D.and,D.not,Bool.true_and,true_and,and_true,imp_self,implies_true,Bool.not_eq_true',Bool.not_eq_false',Bool.and_eq_true,Bool.not_not,exists_eq_right',D.nil,D.ne,D.lt,D.ilen,D.ile,D.ilt,D.nlt,D.sub,D.add,D.nat,D.get,decide_eq_true_eq,decide_eq_false_iff_not,bne_iff_ne,bne_eq_false_iff_eq]
 obtain ⟨hf1,hf2⟩:=hf
 have hz:∀ x l:Int,¬ l=-1∧idxF l ls.length=true→0≤l∧l < ls.length:=fun x l h=>by
  have:=h.2;unfold idxF at this;simpa using this
 have hr:∀ x:Int,0≤x→x < nx.length→(nx.getD x.toNat []).length≤1000000:=fun x h0 h1=>hf2 _ (by
  rw [List.getD_eq_getElem?_getD,List.getElem?_eq_getElem (by omega),Option.getD_some];exact List.getElem_mem _)
 have hct:∀ x:Int,0≤x→((x.toNat:Nat):Int)=x:=fun x h=>by omega
 refine ⟨fun hne=>?_,fun he=>⟨⟨Int.le_refl _,by omega,he,fun i h=>by omega⟩,fun x hx=>⟨fun hlt=>⟨hx.1,hlt,fun hr'=>?_,fun hr'=>⟨⟨Int.le_refl _,by omega,hr',fun i h=>by omega⟩,fun y hy=>⟨fun hlty=>⟨hy.1,hlty,fun h=>(hz x _ h).1,fun h=>(hz x _ h).2,fun hc=>?_,fun hc=>?_⟩,fun hgey=>?_⟩⟩⟩,fun hge=>?_⟩⟩⟩
 ·unfold tabF
  rw [decide_eq_false hne];rfl
 ·refine (Bool.eq_false_iff.2 fun ht=>hr' ?_).symm
  have h:=(tab_row he).1 ht x.toNat (by have:=hx.1;omega)
  unfold rowOk at h
  simp only [Bool.and_eq_true,decide_eq_true_eq] at h
  exact h.1
 ·refine (Bool.eq_false_iff.2 fun ht=>?_).symm
  have h:=(tab_row he).1 ht x.toNat (by have:=hx.1;omega)
  rw [hct x hx.1] at h
  have h2:=(row_cell (n:=(cs,ns,os,fs,ls,ks)) hr').1 h y.toNat (by have:=hy.1;omega)
  rw [h2] at hc;cases hc
 ·have h1:=hr x hx.1 hlt
  refine ⟨by unfold inR;simp only;have:=hy.1;omega,y + 1,⟨by have:=hy.1;omega,by omega,hr',fun i hi=>?_⟩,rfl,by have:=hy.1;omega⟩
  by_cases h:(i:Int) < y
  ·exact hy.2.2.2 i h
  ·have:i=y.toNat:=by omega
   rw [this];exact hc
 ·refine ⟨by unfold inR;simp only;have:=hx.1;omega,x + 1,⟨by have:=hx.1;omega,by omega,he,fun i hi=>?_⟩,rfl,by have:=hx.1;omega⟩
  by_cases h:(i:Int) < x
  ·exact hx.2.2.2 i h
  ·have:i=x.toNat:=by have:=hx.1;omega
   rw [this,hct x hx.1]
   exact (row_cell (n:=(cs,ns,os,fs,ls,ks)) hr').2 fun j hj=>hy.2.2.2 j (by omega)
 ·exact ((tab_row he).2 fun i hi=>hx.2.2.2 i (by omega)).symm
theorem t_pdepart (l t:Int) (cs:LC) (ns os:LB) (fs:List Off) (ls:List Line) (ks:List Cla):SoundC Tryz.prog G0 79 [.ip N (cs,ns,os,fs,ls,ks),.dat I l,.dat I t] [] ⟨linP (cs,ns,os,fs,ls,ks) l,.tup [.dat I (depD (cs,ns,os,fs,ls,ks) l t),.dat I (depE (cs,ns,os,fs,ls,ks) l t)],[]⟩:=by
 refine sound_of_ev (c:=mkc KR3) KSR3 KI0s hm (vc_pdepart l t cs ns os fs ls ks ⟨rfl,fun hp=>?_⟩)
 simp only [D.not,true_and,and_true,Bool.not_eq_true',Bool.not_eq_false',D.nil,D.ilen,D.ile,D.ilt,D.nat,D.get]
 refine ⟨fun h=>?_,fun h=>?_⟩
 ·unfold depD depE
  rw [h];exact ⟨rfl,rfl⟩
 ·obtain ⟨g1,g2,g3,g4,g5,g6,g7,g8⟩:=lin_ok cs ns os fs ls ks hp
  have ho:offP (cs,ns,os,fs,ls,ks) (lnFrom (cs,ns,os,fs,ls,ks) l):=⟨hp.1,g1,g2⟩
  have hv:=(off_ok cs ns os fs ls ks ho).2.2.1
  have ht:0≤t∧t≤2000000:=of_decide_eq_true h
  have hf:fstP (calAt (cs,ns,os,fs,ls,ks) (lnFrom (cs,ns,os,fs,ls,ks) l)) (lnAt (cs,ns,os,fs,ls,ks) l) t:=⟨hv,g5,by omega,by omega,by omega⟩
  have e1:depD (cs,ns,os,fs,ls,ks) l t=fstD (calAt (cs,ns,os,fs,ls,ks) (lnFrom (cs,ns,os,fs,ls,ks) l)) (lnAt (cs,ns,os,fs,ls,ks) l) t:=if_pos h
  have e2:depE (cs,ns,os,fs,ls,ks) l t=fstE (calAt (cs,ns,os,fs,ls,ks) (lnFrom (cs,ns,os,fs,ls,ks) l)) (lnAt (cs,ns,os,fs,ls,ks) l) t:=if_pos h
  exact ⟨hp.2.1,hp.2.2,ho,hp.2.1,hp.2.2,hf,e1.symm,e2.symm⟩
end Go.Eng.Sv

set_option maxRecDepth 100000
noncomputable section
namespace Go.Eng.Sv
open Go.Proofs
def nxt (nx:List (List Int)) (o d:Int):Int:=(nx.getD o.toNat []).getD d.toNat 0
def wayN (n:Net) (nx:List (List Int)) (to:Int):Nat→Int→Int→List Stop×Int
 | 0,o,t=>if o=to then ([(o,t,-1,-1)],0) else if nxt nx o to=-1 then ([],170) else if depE n (nxt nx o to) (readyF n o t)=0 then ([],170) else ([],depE n (nxt nx o to) (readyF n o t))
 | k + 1,o,t=>if o=to then ([(o,t,-1,-1)],0) else if nxt nx o to=-1 then ([],170) else if depE n (nxt nx o to) (readyF n o t)=0 then
   if (wayN n nx to k (lnTo n (nxt nx o to)) (depD n (nxt nx o to) (readyF n o t) + lnTrav n (nxt nx o to))).2=0 then
    ((o,t,depD n (nxt nx o to) (readyF n o t),nxt nx o to) :: (wayN n nx to k (lnTo n (nxt nx o to)) (depD n (nxt nx o to) (readyF n o t) + lnTrav n (nxt nx o to))).1,0)
   else ([],(wayN n nx to k (lnTo n (nxt nx o to)) (depD n (nxt nx o to) (readyF n o t) + lnTrav n (nxt nx o to))).2)
  else ([],depE n (nxt nx o to) (readyF n o t))
def wayL (n:Net) (nx:List (List Int)) (o to t:Int):List Stop:=(wayN n nx to 19 o t).1
def wayE (n:Net) (nx:List (List Int)) (o to t:Int):Int:=(wayN n nx to 19 o t).2
def wayP (n:Net) (nx:List (List Int)) (o to t:Int):Prop:=soundF n=true∧tabF n nx=true∧0≤o∧o < n.2.2.2.1.length∧0≤to∧to < n.2.2.2.1.length∧0≤t∧t≤2200000
def preW (d:List Stop) (r:List Stop×Int):List Stop×Int:=if r.2=0 then (d ++ r.1,0) else ([],r.2)
def wInv (n:Net) (nx:List (List Int)) (o0 to t0:Int) (x:List Stop×Int×Int):Prop:=wayP n nx x.2.1 to x.2.2∧x.1.length≤19∧wayN n nx to 19 o0 t0=preW x.1 (wayN n nx to (19 - x.1.length) x.2.1 x.2.2)
def wSt (x:List Stop×Int×Int):List Stop:=x.1 ++ [(x.2.1,x.2.2,-1,-1)]
def walkA (n:Net) (nx:List (List Int)) (o0 to t0:Int):Ann:=⟨fun id s=>match id with
 | 3=>match s.sig.T 19 with
  | .buf nm _=>some { α:=List Stop×Int×Int,inv:=fun x=>wInv n nx o0 to t0 x,st:=fun x=>putM (put (flat s) [(11,.buf nm (D.len (wSt x))),(12,.dat I (D.ilen x.1))]) nm (.buf 54 Stp (wSt x) []),μ:=fun x=>D.nat (D.sub 20 (D.ilen x.1)) }
  | _=>none
 | _=>none,fun _ _=>none,fun _ _=>none⟩
def KR4:Kt:=kOr 45 (dataK [.ptr N,.val M] (fun (_,nx,_)=>fitsM nx) fun (n,nx,_)=>.dat .bool (tabF n nx)) <|
 kOr 79 (dataK [.ptr N,.val I,.val I] (fun (n,l,_)=>linP n l) fun (n,l,t,_)=>.tup [.dat I (depD n l t),.dat I (depE n l t)]) KR3
def KPm:KPt:=pOr 40 (dataP [.val I,.val I] fun (_,e,_)=>⟨True,isZero e,errV 39 e⟩) Go.Eng.noP
noncomputable def mkp (K:Kt) (mb:Tmp→Bool) (KP:KPt) (pf:FuncId→Bool):Cfg:=⟨Tryz.prog,G0,K,mb,KI0,false,KP,pf⟩
def cW:Cfg:=mkp KR4 (fun t=>t == 19) KPm (fun f=>f == 40)
theorem vc_pwalk (nx:List (List Int)) (o to t:Int) (cs:LC) (ns os:LB) (fs:List Off) (ls:List Line) (ks:List Cla) (hvc :
 let c1:=(cs,ns,os,fs,ls,ks);
 let c2:=((-1:Int),(-1:Int));
 let c3:=((0:Int),(0:Int),(0:Int),(0:Int));
 let c4:=wayE c1 nx o to t;
 let c5:=isZero c4;
 let c6:=chainOf (Value.iface (39) (Value.int IntKind.i64 c4));
 let c7:=(ByteArray.mk (D.nil UInt8).toArray,(0:Int),c3);true=true∧(wayP c1 nx o to t→(∃ (x:List Stop×Int×Int),wInv c1 nx o to t x∧c1=c1
 ∧ nx=nx∧o=o∧to=to∧t=t∧Value.slice none (0) (0)=Value.slice none (0) (0)∧1=D.len (wSt x)∧(0:Int)=D.ilen x.fst∧o=o∧t=t∧o =
 o∧t=t∧(-1:Int)=(-1:Int)∧(-1:Int)=(-1:Int)∧1=1∧[(o,t,c2)]=wSt x∧True)∧∀ (x:List (Int×Int×Int×Int)×Int×Int),
 let c8:=D.len (wSt x);
 let c9:=D.ilen x.fst;
 let c10:=D.nat c9;
 let c11:=D.get (wSt x) c10 c3;
 let c12:=c11.fst;
 let c13:=D.ne c12 to;
 let c14:=D.get nx (D.nat c12) (D.nil Int);
 let c15:=D.get c14 (D.nat to) (0:Int);
 let c16:=D.eq c15 (-1:Int);
 let c17:=c11.snd;
 let c18:=D.set (wSt x) c10 (c12,c17.fst,c17.snd.fst,c15);
 let c19:=D.get c18 c10 c3;
 let c20:=c19.fst;
 let c21:=c19.snd;
 let c22:=c21.fst;
 let c23:=readyF c1 c20 c22;
 let c24:=depE c1 c15 c23;
 let c25:=isZero c24;
 let c26:=D.set c18 c10 (c20,c22,depD c1 c15 c23,c21.snd.snd);
 let c27:=D.eq (Int.ofNat c8) (20:Int);
 let c28:=(D.get ls (D.nat c15) c7).snd.snd;
 let c29:=D.add (D.get c26 c10 c3).snd.snd.fst c28.snd.snd.fst;
 let c30:=[(c28.fst,c29,c2)];
 let c31:=D.nadd c8 (D.len c30);
 let c32:=D.add c9 (1:Int);wInv c1 nx o to t x→c8=c8∧D.ile (0:Int) c9∧D.ilt c9 (D.ofN c8)∧c8=c8∧c8=c8∧(c13=true→c8=c8∧D.ile (0 :
 Int) c9∧D.ilt c9 (D.ofN c8)∧c8=c8∧c8=c8∧c8=c8∧D.ile (0:Int) c12∧D.ilt c12 (D.ilen nx)∧D.ile (0:Int) to∧D.ilt to (D.ilen c14)∧(c16 =
 true→(true=true→True∧(false=false→c5=false∧true=true∧chainOf (Value.iface (39) (Value.int IntKind.i64 (170:Int)))=c6))∧True)∧(c16 =
 false→c8=c8∧c8=c8∧c8=c8∧D.len c18=c8∧D.len c18=c8∧D.len c18=c8∧D.len c18=c8∧D.len c18=c8∧D.len c18=c8∧readyP c1 c20 c22 ∧
 linP c1 c15∧True∧(c25=true→D.len c18=c8∧D.len c18=c8∧D.len c18=c8∧D.len c18=c8∧D.len c18=c8∧D.len c18=c8∧readyP c1 c20 c22 ∧
 linP c1 c15∧(True∧c25=true)∧D.len c18=c8∧D.len c18=c8∧D.len c18=c8∧D.len c26=c8∧(c27=true→(true=true→True∧(false=false→c5
 = false∧true=true∧chainOf (Value.iface (39) (Value.int IntKind.i64 (170:Int)))=c6))∧True)∧(c27=false→D.ile (0:Int) c15∧D.ilt c15 (D.ilen
 ls)∧1=1∧0=0∧1=1∧1=1∧0=0∧D.len c26=c8∧D.len c26=c8∧D.len c26=c8∧1=1∧1=1∧0=0∧inR IntKind.i64 c29∧D.len c26=c8 ∧
 D.nle (D.nmul c31 (32)) (140737488355328)∧D.nle c31 (9223372036854775807)∧inR IntKind.i64 c32∧∃ (y:List Stop×Int×Int),
 let c33:=D.ilen y.fst;wInv c1 nx o to t y∧(c1=c1∧nx=nx∧o=o∧to=to∧t=t∧Value.slice none (0) (0)=Value.slice none (0) (0)∧c31=D.len
 (wSt y)∧c32=c33∧o=o∧t=t∧o=o∧t=t∧(-1:Int)=(-1:Int)∧(-1:Int)=(-1:Int)∧1=1∧D.app c26 c30=wSt y∧True)∧D.nlt (D.nat
 (D.sub (20:Int) c33)) (D.nat (D.sub (20:Int) c9))))∧(c25=false→c5=false∧true=true∧chainOf (Value.iface (39) (Value.int IntKind.i64 c24)) =
 c6)))∧(c13=false→c5=true∧c8=c8∧wSt x=wayL c1 nx o to t∧True))) :
  evC cW (walkA (cs,ns,os,fs,ls,ks) nx o to t) 46 [.ip N (cs,ns,os,fs,ls,ks),.dat M nx,.dat I o,.dat I to,.dat I t] (.dat (.sl Stp) (wayL (cs,ns,os,fs,ls,ks) nx o to t)) ⟨wayP (cs,ns,os,fs,ls,ks) nx o to t,isZero (wayE (cs,ns,os,fs,ls,ks) nx o to t),errV 39 (wayE (cs,ns,os,fs,ls,ks) nx o to t)⟩:=@of_eq _ _ (by kernel_rfl) hvc
theorem KSR4:KSound Tryz.prog G0 KR4:=kOr_ok (dataK_ok fun ((cs,ns,os,fs,ls,ks),nx,_)=>t_pformed nx cs ns os fs ls ks) <| kOr_ok (dataK_ok fun ((cs,ns,os,fs,ls,ks),l,t,_)=>t_pdepart l t cs ns os fs ls ks) KSR3
theorem KPm_ok:KPSound Tryz.prog G0 KPm:=pOr_ok (dataP_ok fun (v,e,_)=>(t_pmust v e).2) noP_ok
theorem w_get (d:List Stop) (o t:Int) (z:Stop):(wSt (d,o,t)).getD d.length z=(o,t,-1,-1):=by simp [wSt,List.getD_eq_getElem?_getD]
theorem w_set (d:List Stop) (o t:Int) (v:Stop):(wSt (d,o,t)).set d.length v=d ++ [v]:=by simp [wSt]
theorem a_get (d:List Stop) (v z:Stop):(d ++ [v]).getD d.length z=v:=by simp [List.getD_eq_getElem?_getD]
theorem a_set (d:List Stop) (v w:Stop):(d ++ [v]).set d.length w=d ++ [w]:=by simp
theorem w_len (d:List Stop) (o t:Int):(wSt (d,o,t)).length=d.length + 1:=by simp [wSt]
theorem isZero_iff {e:Int}:isZero e=true↔e=0:=by simp [isZero]
theorem isZero_not {e:Int}:isZero e=false↔e≠0:=by simp [isZero]
theorem sound_noF (cs:LC) (ns os:LB) (fs:List Off) (ls:List Line) (ks:List Cla) (h:soundF (cs,ns,os,fs,ls,ks)=true):noF (cs,ns,os,fs,ls,ks)=true:=((checkF_nil cs ns os fs ls ks).1 (List.isEmpty_iff.1 h)).1
theorem fst_bnd {c:Int×List Bool×List Int} {m t:Int} (hv:validF c.1 c.2.1 c.2.2=true) (he:fstE c m t=0) (m0:0≤m) (m1:m≤1439):t≤fstD c m t∧fstD c m t≤t + 90000:=by
 obtain ⟨z,w,h⟩:=c
 obtain ⟨⟨v1,v2,_,_⟩,_⟩:=validF_iff.1 hv
 have he':nextE w h (d0F (z,w,h) m t)=0:=he
 obtain ⟨q1,q2,_⟩:=next_spec he'
 have e:fstD (z,w,h) m t=timeF z (nextD w h (d0F (z,w,h) m t)) m:=if_pos he'
 rw [e]
 unfold timeF
 generalize nextD w h (d0F (z,w,h) m t)=nd at *
 have hd:d0F (z,w,h) m t=if m < (t + z) % 1440 then (t + z) / 1440 + 1 else (t + z) / 1440:=rfl
 rw [hd] at q1 q2
 simp only at v1 v2
 split at q1 <;> rename_i hs <;> simp only [hs,if_true,if_false] at q2 <;> omega
theorem depart_bnd (cs:LC) (ns os:LB) (fs:List Off) (ls:List Line) (ks:List Cla) {l t:Int} (hl:linP (cs,ns,os,fs,ls,ks) l) (he:depE (cs,ns,os,fs,ls,ks) l t=0):0≤t∧t≤2000000∧t≤depD (cs,ns,os,fs,ls,ks) l t∧depD (cs,ns,os,fs,ls,ks) l t≤t + 90000:=by
 obtain ⟨g1,g2,g3,g4,g5,g6,g7,g8⟩:=lin_ok cs ns os fs ls ks hl
 have ho:offP (cs,ns,os,fs,ls,ks) (lnFrom (cs,ns,os,fs,ls,ks) l):=⟨hl.1,g1,g2⟩
 have hv:=(off_ok cs ns os fs ls ks ho).2.2.1
 have hk:timeOk t=true:=by
  cases h:timeOk t with
  | true=>rfl
  | false=>unfold depE at he;rw [h] at he;cases he
 have ht:0≤t∧t≤2000000:=of_decide_eq_true hk
 have e1:depD (cs,ns,os,fs,ls,ks) l t=fstD (calAt (cs,ns,os,fs,ls,ks) (lnFrom (cs,ns,os,fs,ls,ks) l)) (lnAt (cs,ns,os,fs,ls,ks) l) t:=if_pos hk
 have e2:depE (cs,ns,os,fs,ls,ks) l t=fstE (calAt (cs,ns,os,fs,ls,ks) (lnFrom (cs,ns,os,fs,ls,ks) l)) (lnAt (cs,ns,os,fs,ls,ks) l) t:=if_pos hk
 rw [e2] at he
 rw [e1]
 exact ⟨ht.1,ht.2,fst_bnd hv he g5 g6⟩
theorem way_to {n:Net} {nx:List (List Int)} {to o t:Int} (k:Nat) (h:o=to):wayN n nx to k o t=([(o,t,-1,-1)],0):=by cases k <;> exact if_pos h
theorem way_route {n:Net} {nx:List (List Int)} {to o t:Int} (k:Nat) (h:o≠to) (h1:nxt nx o to=-1):wayN n nx to k o t=([],170):=by cases k <;> (unfold wayN;rw [if_neg h,if_pos h1])
theorem way_err {n:Net} {nx:List (List Int)} {to o t:Int} (k:Nat) (h:o≠to) (h1:nxt nx o to≠-1) (h2:depE n (nxt nx o to) (readyF n o t)≠0):wayN n nx to k o t=([],depE n (nxt nx o to) (readyF n o t)):=by cases k <;> (unfold wayN;rw [if_neg h,if_neg h1,if_neg h2])
theorem way_full {n:Net} {nx:List (List Int)} {to o t:Int} (h:o≠to) (h1:nxt nx o to≠-1) (h2:depE n (nxt nx o to) (readyF n o t)=0):wayN n nx to 0 o t=([],170):=by unfold wayN;rw [if_neg h,if_neg h1,if_pos h2]
theorem way_next {n:Net} {nx:List (List Int)} {to o t:Int} (k:Nat) (h:o≠to) (h1:nxt nx o to≠-1) (h2:depE n (nxt nx o to) (readyF n o t)=0) :
  wayN n nx to (k + 1) o t=preW [(o,t,depD n (nxt nx o to) (readyF n o t),nxt nx o to)] (wayN n nx to k (lnTo n (nxt nx o to)) (depD n (nxt nx o to) (readyF n o t) + lnTrav n (nxt nx o to))):=by
 rw [wayN,if_neg h,if_neg h1,if_pos h2];rfl
theorem preW_err {d:List Stop} {r:List Stop×Int} (h:r.2≠0):(preW d r).2=r.2:=by unfold preW;rw [if_neg h]
theorem preW_app (d e:List Stop) (r:List Stop×Int):preW d (preW e r)=preW (d ++ e) r:=by
 unfold preW
 by_cases h:r.2=0
 ·simp [h]
 ·simp [h]
theorem preW_nil {n:Net} {nx:List (List Int)} {to:Int}:∀ (k:Nat) (o t:Int),preW [] (wayN n nx to k o t)=wayN n nx to k o t:=fun k o t=>by
 by_cases h:o=to
 ·rw [way_to k h];rfl
 ·by_cases h1:nxt nx o to=-1
  ·rw [way_route k h h1];rfl
  ·by_cases h2:depE n (nxt nx o to) (readyF n o t)=0
   ·cases k with
    | zero=>rw [way_full h h1 h2];rfl
    | succ k=>rw [way_next k h h1 h2,preW_app];rfl
   ·rw [way_err k h h1 h2];unfold preW;rw [if_neg h2]
theorem tab_cell (cs:LC) (ns os:LB) (fs:List Off) (ls:List Line) (ks:List Cla) {nx:List (List Int)} (ht:tabF (cs,ns,os,fs,ls,ks) nx=true) {o d:Int} (o0:0≤o) (o1:o < fs.length) (d0:0≤d) (d1:d < fs.length):(nx.length:Int)=fs.length∧((nx.getD o.toNat []).length:Int)=fs.length∧(nxt nx o d≠-1→(0≤nxt nx o d∧nxt nx o d < ls.length)∧lnFrom (cs,ns,os,fs,ls,ks) (nxt nx o d)=o):=by
 have hl:(nx.length:Int)=fs.length:=by
  unfold tabF at ht;simp only [Bool.and_eq_true,decide_eq_true_eq] at ht;exact ht.1
 have h:=(tab_row (n:=(cs,ns,os,fs,ls,ks)) hl).1 ht o.toNat (by omega)
 have hr:((nx.getD o.toNat []).length:Int)=fs.length:=by
  unfold rowOk at h;simp only [Bool.and_eq_true,decide_eq_true_eq] at h;exact h.1
 refine ⟨hl,hr,fun hne=>?_⟩
 have h2:=(row_cell (n:=(cs,ns,os,fs,ls,ks)) hr).1 h d.toNat (by omega)
 unfold cellOk idxF at h2
 simp only [Bool.or_eq_true,Bool.and_eq_true,decide_eq_true_eq] at h2
 rcases h2 with h2 | ⟨h2,h3⟩
 ·exact absurd h2 hne
 ·exact ⟨h2,h3.trans (by omega)⟩
theorem in_big {x:Int} (h:-1000000000000≤x∧x≤1000000000000):inR .i64 x:=by unfold inR;simp only;omega
theorem t_pwalk (nx:List (List Int)) (o to t:Int) (cs:LC) (ns os:LB) (fs:List Off) (ls:List Line) (ks:List Cla):SoundC Tryz.prog G0 46 [.ip N (cs,ns,os,fs,ls,ks),.dat M nx,.dat I o,.dat I to,.dat I t] [] ⟨wayP (cs,ns,os,fs,ls,ks) nx o to t∧isZero (wayE (cs,ns,os,fs,ls,ks) nx o to t)=true,.dat (.sl Stp) (wayL (cs,ns,os,fs,ls,ks) nx o to t),[]⟩∧SoundP Tryz.prog G0 46 [.ip N (cs,ns,os,fs,ls,ks),.dat M nx,.dat I o,.dat I to,.dat I t] [] ⟨wayP (cs,ns,os,fs,ls,ks) nx o to t,isZero (wayE (cs,ns,os,fs,ls,ks) nx o to t),errV 39 (wayE (cs,ns,os,fs,ls,ks) nx o to t)⟩:=by
 refine sound_of_evC (c:=cW) KSR4 KI0s hm KPm_ok (vc_pwalk nx o to t cs ns os fs ls ks ⟨rfl,fun hp=>?_⟩)
 simp only [eq_self,true_and,and_true,forall_const,Int.toNat_natCast,Int.ofNat_eq_natCast,D.nil,D.eq,D.ne,D.ilen,D.ile,D.ilt,D.nle,D.nlt,D.sub,D.add,D.nat,D.ofN,D.len,D.nadd,D.nmul,D.get,D.set,D.app,beq_iff_eq,bne_iff_ne,beq_eq_false_iff_ne,bne_eq_false_iff_eq]
 refine ⟨?_,?_⟩
 ·exact ⟨([],o,t),⟨hp,by simp,(preW_nil 19 o t).symm⟩,rfl,rfl,rfl⟩
 rintro ⟨d,u,v⟩ hx
 simp only [w_get,w_set,a_get,a_set,w_len,List.length_append,List.length_singleton,true_and]
 obtain ⟨⟨hs,ht,u0,u1,o0,o1,v0,v1⟩,hd,hw⟩:=hx
 simp only at u0 u1 o0 o1 v0 v1 hd hw
 have hno:=sound_noF cs ns os fs ls ks hs
 obtain ⟨c1,c2,c3⟩:=tab_cell cs ns os fs ls ks ht u0 u1 o0 o1
 have ec:(nx.getD u.toNat []).getD to.toNat 0=nxt nx u to:=rfl
 rw [ec]
 generalize hln:nxt nx u to=ln at *
 have hoff:offP (cs,ns,os,fs,ls,ks) u:=⟨hno,u0,u1⟩
 have hW:wayE (cs,ns,os,fs,ls,ks) nx o to t=(preW d (wayN (cs,ns,os,fs,ls,ks) nx to (19 - d.length) u v)).2:=by unfold wayE;rw [hw]
 have hL:wayL (cs,ns,os,fs,ls,ks) nx o to t=(preW d (wayN (cs,ns,os,fs,ls,ks) nx to (19 - d.length) u v)).1:=by unfold wayL;rw [hw]
 have hroute:u≠to→wayN (cs,ns,os,fs,ls,ks) nx to (19 - d.length) u v=([],170)→isZero (wayE (cs,ns,os,fs,ls,ks) nx o to t)=false∧chainOf (Value.iface 39 (Value.int IntKind.i64 170))=chainOf (errV 39 (wayE (cs,ns,os,fs,ls,ks) nx o to t)):=fun _ h=>by
  have:wayE (cs,ns,os,fs,ls,ks) nx o to t=170:=by rw [hW,h];rfl
  rw [this];exact ⟨rfl,rfl⟩
 refine ⟨by omega,by omega,fun hne=>⟨by omega,by omega,u0,by rw [c1];exact u1,o0,by rw [c2];exact o1,fun hm=>hroute hne (way_route _ hne (hln.trans hm)),fun hm=>?_⟩,fun he=>?_⟩
 ·have hm':nxt nx u to≠-1:=by rw [hln];exact hm
  obtain ⟨⟨l0,l1⟩,lf⟩:=c3 hm
  have hlin:linP (cs,ns,os,fs,ls,ks) ln:=⟨hno,l0,l1⟩
  have hr:readyP (cs,ns,os,fs,ls,ks) u v:=⟨hoff,by omega,by omega⟩
  refine ⟨hr,hlin,fun hz=>⟨hr,hlin,hz,fun h20=>hroute hne ?_,fun h20=>?_⟩,fun hz=>?_⟩
  ·rw [show 19 - d.length=0 by omega]
   exact way_full hne hm' (by rw [hln];exact isZero_iff.1 hz)
  ·have hz0:=isZero_iff.1 hz
   obtain ⟨b1,b2,b3,b4⟩:=depart_bnd cs ns os fs ls ks hlin hz0
   obtain ⟨g1,g2,g3,g4,g5,g6,g7,g8⟩:=lin_ok cs ns os fs ls ks hlin
   have et:(ls.getD ln.toNat (⟨#[]⟩,0,0,0,0,0)).2.2.2.2.1=lnTrav (cs,ns,os,fs,ls,ks) ln:=rfl
   have eo:(ls.getD ln.toNat (⟨#[]⟩,0,0,0,0,0)).2.2.1=lnTo (cs,ns,os,fs,ls,ks) ln:=rfl
   rw [et,eo]
   have hnx:=way_next (n:=(cs,ns,os,fs,ls,ks)) (nx:=nx) (to:=to) (o:=u) (t:=v) (19 - (d.length + 1)) hne hm' (by rw [hln];exact hz0)
   rw [show 19 - (d.length + 1) + 1=19 - d.length by omega,hln] at hnx
   refine ⟨l0,l1,in_big (by omega),by omega,by omega,in_big (by omega),(d ++ [(u,v,depD (cs,ns,os,fs,ls,ks) ln (readyF (cs,ns,os,fs,ls,ks) u v),ln)],lnTo (cs,ns,os,fs,ls,ks) ln,depD (cs,ns,os,fs,ls,ks) ln (readyF (cs,ns,os,fs,ls,ks) u v) + lnTrav (cs,ns,os,fs,ls,ks) ln),⟨⟨hs,ht,g3,g4,o0,o1,by simp only;omega,by simp only;omega⟩,by simp;omega,?_⟩,⟨by rw [w_len];simp,by simp,rfl⟩,by simp;omega⟩
   show wayN (cs,ns,os,fs,ls,ks) nx to 19 o t=_
   rw [hw,hnx,preW_app]
   simp
  ·have hz0:=isZero_not.1 hz
   have:=way_err (n:=(cs,ns,os,fs,ls,ks)) (nx:=nx) (to:=to) (o:=u) (t:=v) (19 - d.length) hne hm' (by rw [hln];exact hz0)
   rw [hln] at this
   have:wayE (cs,ns,os,fs,ls,ks) nx o to t=depE (cs,ns,os,fs,ls,ks) ln (readyF (cs,ns,os,fs,ls,ks) u v):=by rw [hW,this];exact preW_err hz0
   rw [this];exact ⟨hz,rfl⟩
 ·have:=way_to (n:=(cs,ns,os,fs,ls,ks)) (nx:=nx) (to:=to) (o:=u) (t:=v) (19 - d.length) he
  rw [hW,hL,this]
  exact ⟨rfl,rfl⟩
end Go.Eng.Sv
