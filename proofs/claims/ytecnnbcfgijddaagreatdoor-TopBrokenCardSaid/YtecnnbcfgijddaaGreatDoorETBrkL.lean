/- TpA -/
import Derived.Test.YtecnnbcfgijddaaGreatDoorETBrkK
import Derived.Maps.OwnSet
set_option linter.unusedSimpArgs false
set_option linter.unusedVariables false
namespace Go.Eng.Top
open Go.Proofs Go.RowKit
def inP(ps:List ByteArray)(s:ByteArray):Bool:=ps.any λx=>decide (x=s)
theorem SJ{ps:List ByteArray}{s:ByteArray}:inP ps s=true↔s∈ps:=by
 unfold inP;rw[xO];exact⟨λ⟨x,f,h⟩=>vO h▸f,λh=>⟨s,h,qR rfl⟩⟩
def PM(W:World)(M:Nat)(ps:List ByteArray):Prop:=∃D:DataW Unit,W.ownsMap Tryz.prog 9 (plainElem Tryz.prog 4) M ps.length D/\Maps.IsMap D/\∀s:ByteArray,D.atKey (aAc s) (.lit (.bool false))=.lit (.bool (inP ps s))
variable {W W':World}{M p q b0:Nat}{ps:List ByteArray}{e:bZ}{lab:ByteArray->Bool}
theorem PM.same(h:PM W M ps)(e:W'.heap[M]?=W.heap[M]?):PM W' M ps:=by
 obtain⟨D,j,f⟩:=h;exact⟨D,dw j e,f⟩
theorem PM.lt(h:PM W M ps):M<W.heap.size:=by
 obtain⟨D,f,_⟩:=h;exact f.lt
theorem PM.look(h:PM W M ps){s:ByteArray}(A:s.size<=1000):(Instr.lookup 169 (.map (some M)) (.string s) false).run Tryz.prog W=.ok (.bool (inP ps s)) W:=by
 obtain⟨D,u,_,j⟩:=h;obtain⟨v,y,e,f⟩:=u.lookup (Maps.string_keyed Tryz.underlying9) Tryz.underlying169 (e:=4) (z:=.bool false) (zd:=.lit (.bool false)) (zp:=[]) (Tryz.zeroValue4 _) (plainElem_bool Tryz.underlying4 _) (key:=.string s) (WideMaps.keyOf_string_mk Tryz.underlying9 (by unfold maxLen;omega));rw[show D.atKey (Lit.string s.data.toList) (.lit (.bool false))=_ from j s]at f;rw[e,Ik Tryz.underlying4 f]
theorem PM.put(h:PM W M ps){s:ByteArray}(X:s.size<=1000)(hn:ps.length<1000):∃f,(Instr.mapUpdate 169 (.map (some M)) (.string s) (.bool true)).run Tryz.prog W=.ok () f/\PM f M (ps++[s])/\W.grownBy f (some M):=by
 obtain⟨D,G,j,A⟩:=h;obtain⟨f,u,y,z⟩:=G.update (Maps.string_keyed Tryz.underlying9) Tryz.underlying169 (e:=4) (by unfold maxLen;omega) (key:=.string s) (val:=.bool true) (WideMaps.keyOf_string_mk Tryz.underlying9 (by unfold maxLen;omega)) (plainElem_bool Tryz.underlying4 _);refine⟨f,u,⟨_,by rw[qG];exact y,j.put _ _,λx=>?_⟩,z⟩;by_cases e:x=s;subst e;rw[show(Lit.string x.data.toList)=aAc x from rfl,Maps.atKey_put_same j (by simp[WideAt.IsKeyLit,aAc])];simp[inP];rw[Maps.atKey_put_other (by
  intro h;apply e;unfold aAc at h;have:=Lit.string.inj h;cases x;cases s;simp_all),A x]
 have L:¬s=x:=λh=>e h.symm;simp[inP,L]
set_option maxRecDepth 100000 in
theorem TR(W:World){a b:Int}(j:0<=a)(h:a<b):Calls Tryz.prog 96 #[.int .i64 a,.int .i64 b] W λe f=>e=.returned (.bool true)/\f=W:=by
 have y:decide (a≥0)=true:=qR j;have u:decide (a<b)=true:=qR h
 go_enter Tryz.func96,Tryz.ntmps96
 go_wp2
 go_ret
 exact⟨rfl,rfl⟩
set_option maxRecDepth 100000 in
theorem TQ(y:W.cell? ⟨p,0,none⟩=some (.map (some M)))(hm:PM W M ps)(hz:e.2.2.2.1.size<=1000):Calls Tryz.prog 97 #[.agg (aU e),.pointer (some ⟨p,0,none⟩)] W λe' w'=>e'=.returned (.bool (inP ps e.2.2.2.1))/\Below W.heap.size W w':=by
 obtain⟨k1,G,⟨X,pf,L,pc,pa⟩,u,ot,ln⟩:=e;obtain⟨j,f⟩:∃j,W.alloc (.cells (aU (k1,G,(X,pf,L,pc,pa),u,ot,ln)) 59)=j:=⟨_,rfl⟩;have b1:j.heap[W.heap.size]?=some (.cells (aU (k1,G,(X,pf,L,pc,pa),u,ot,ln)) 59 (0,0)):=by rw[<- f];exact World.alloc_heap_new W _
 have A:Below W.heap.size W j:=f▸(Below.refl _ W).alloc (qL _) _;have l1:j.cell? ⟨W.heap.size,7,none⟩=some (.string u):=by simp[World.cell?,b1,aU]
 have z:p<W.heap.size:=by
  unfold World.cell? at y;cases h:W.heap[p]? with
  |none=>simp[h]at y|some o=>exact(qJ.1 h).1
 have hp1:j.cell? ⟨p,0,none⟩=some (.map (some M)):=(A.cell (p:=⟨p,0,none⟩) z).trans y;have hk:=(hm.same (A.block M hm.lt)).look (s:=u) hz;unfold aU;unfold aU at f
 go_enter Tryz.func97,Tryz.ntmps97
 go_wp2
 go_ret
 exact⟨rfl,A⟩
theorem PM.blk(h:PM W M ps):∃o:Obj,W.heap[M]?=some o/\o.isCells=false:=by
 obtain⟨D,⟨es,f,j,_⟩,_⟩:=h;exact⟨_,j,rfl⟩
theorem PM.len(h:PM W M ps):∃k:Nat,k<=ps.length/\(Builtin.len_ #[169] 3 #[.map (some M)]).run Tryz.prog W=.ok (.int .i64 k) W:=by
 obtain⟨D,f,_⟩:=h;exact⟨_,f.size_le,f.len Tryz.underlying169 3⟩
theorem cell_lt{W:World}{a:Addr}{v:Value}(h:W.cell? a=some v):a.block<W.heap.size:=by
 unfold World.cell? at h;cases e:W.heap[a.block]? with
 |none=>simp[e]at h|some o=>exact(qJ.1 e).1
theorem jE{W V:World}(f:Below W.heap.size W V){a:Addr}{v:Value}(h:W.cell? a=some v):V.cell? a=some v:=(f.cell (p:=a) (cell_lt h)).trans h
set_option maxRecDepth 100000 in
theorem aAR(hp:W.cell? ⟨p,0,none⟩=some (.map (some M)))(hm:PM W M ps)(hq:W.cell? ⟨q,0,none⟩=some (.func (.func 96) #[] #[])){a3 a5:Option Addr}{l3 l5 c3 c5:Nat}
 (h3:W.cell? ⟨b0,3,none⟩=some (.slice a3 l3 c3)) (h5:W.cell? ⟨b0,5,none⟩=some (.slice a5 l5 c5))
 (hl:∀(W':World) (s:ByteArray),s.size<=1000->Calls Tryz.prog 99 #[.string s] W' λe w'=>e=.returned (.bool (lab s))/\Below W'.heap.size W' w') (hz:e.2.2.1.1.size<=1000)
 (e1:lab e.2.2.1.1=true) (e2:inP ps e.2.2.1.1=false) (e3:ps.length<60) (e4:e.2.2.1.2.2.2.2=e.2.1) (e5:0<=e.2.2.1.2.1/\e.2.2.1.2.1<l3) (e6:0<=e.2.2.1.2.2.1/\e.2.2.1.2.2.1<l3) (e7:0<=e.2.2.1.2.2.2.1/\e.2.2.1.2.2.2.1<l5):
 Calls Tryz.prog 98 #[.agg (aU e),.pointer (some ⟨p,0,none⟩),.pointer (some ⟨q,0,none⟩),.pointer (some ⟨b0,0,none⟩)] W λe' w'=>e'=.returned (.bool true)/\PM w' M (ps++[e.2.2.1.1])/\Chg (·=M) W w':=by
 obtain⟨k1,t1,⟨u,G,A,L,y⟩,lb,ot,ln⟩:=e;dsimp only at *;subst e4;obtain⟨f,hW1⟩:∃f,W.alloc (.cells (aU (k1,y,(u,G,A,L,y),lb,ot,ln)) 59)=f:=⟨_,rfl⟩;have b1:f.heap[W.heap.size]?=some (.cells (aU (k1,y,(u,G,A,L,y),lb,ot,ln)) 59 (0,0)):=by rw[<- hW1];exact World.alloc_heap_new W _
 have B1:Below W.heap.size W f:=hW1▸(Below.refl _ W).alloc (qL _) _;have l1:f.cell? ⟨W.heap.size,1,none⟩=some (.int .i64 y):=by simp[World.cell?,b1,aU]
 have l2:f.cell? ⟨W.heap.size,2,none⟩=some (.string u):=by simp[World.cell?,b1,aU]
 have l3':f.cell? ⟨W.heap.size,3,none⟩=some (.int .i64 G):=by simp[World.cell?,b1,aU]
 have l4:f.cell? ⟨W.heap.size,4,none⟩=some (.int .i64 A):=by simp[World.cell?,b1,aU]
 have l5':f.cell? ⟨W.heap.size,5,none⟩=some (.int .i64 L):=by simp[World.cell?,b1,aU]
 have l6:f.cell? ⟨W.heap.size,6,none⟩=some (.int .i64 y):=by simp[World.cell?,b1,aU]
 have z1:f.heap.size=W.heap.size+1:=by rw[<- hW1];simp
 have fx:∀V:World,Below (f.alloc (.cells #[.string u,.int .i64 G,.int .i64 A,.int .i64 L,.int .i64 y] 52)).heap.size (f.alloc (.cells #[.string u,.int .i64 G,.int .i64 A,.int .i64 L,.int .i64 y] 52)) V->
   (V.cell? ⟨W.heap.size+1,0,none⟩=some (.string u)/\V.cell? ⟨W.heap.size+1,4,none⟩=some (.int .i64 y)/\V.cell? ⟨W.heap.size,1,none⟩=some (.int .i64 y)/\V.cell? ⟨p,0,none⟩=some (.map (some M))/\
   (Instr.lookup 169 (.map (some M)) (.string u) false).run Tryz.prog V=.ok (.bool false) V/\∃k:Nat,(Builtin.len_ #[169] 3 #[.map (some M)]).run Tryz.prog V=.ok (.int .i64 k) V/\decide ((k:Int)≥60)=false)/\
   ∃j,(Instr.mapUpdate 169 (.map (some M)) (.string u) (.bool true)).run Tryz.prog V=.ok () j/\PM j M (ps++[u])/\Chg (·=M) W j/\j.cell? ⟨W.heap.size+1,1,none⟩=some (.int .i64 G)/\j.cell? ⟨W.heap.size+1,2,none⟩=some (.int .i64 A)/\j.cell? ⟨W.heap.size+1,3,none⟩=some (.int .i64 L)/\
   j.cell? ⟨q,0,none⟩=some (.func (.func 96) #[] #[])/\j.cell? ⟨b0,3,none⟩=some (.slice a3 l3 c3)/\j.cell? ⟨b0,5,none⟩=some (.slice a5 l5 c5):=λV hV=>by
  have B2:=hV;rw[qH,z1]at B2;have z:Below W.heap.size W V:=(B1.alloc Z _).trans (B2.mono Z);have nw:V.heap[f.heap.size]?=some (.cells #[.string u,.int .i64 G,.int .i64 A,.int .i64 L,.int .i64 y] 52 (0,0)):=(B2.block _ Z).trans (World.alloc_heap_new f _);rw[z1]at nw;have b2:V.heap[W.heap.size]?=f.heap[W.heap.size]?:=(B2.block _ Z).trans (Below.heap_alloc _ _ _ Z);rw[b1]at b2;have X:=hm.same (z.block M hm.lt);have hk:=X.look hz;rw[e2]at hk;obtain⟨k,hk1,hk2⟩:=X.len;obtain⟨j,u1,u2,u3⟩:=X.put hz Z;have ck:∀{a:Addr}{v:Value},V.cell? a=some v->j.cell? a=some v:=λh=>cell_kept h u3 (λr e=>by cases e;exact X.blk);exact⟨⟨by simp[World.cell?,nw],by simp[World.cell?,nw],by simp[World.cell?,b2,aU],jE z hp,hk,k,hk2,qY Z⟩,j,u1,u2,
   ⟨u3.os.trans z.os,u3.tape.trans z.tape,u3.output.trans z.output,vP z.size u3.size,λb hb hno=>(u3.block b (qK hb z.size) (λe=>hno (by cases e;rfl))).trans (z.block b hb)⟩,
   ck (by simp[World.cell?,nw]),ck (by simp[World.cell?,nw]),ck (by simp[World.cell?,nw]),ck (jE z hq),ck (jE z h3),ck (jE z h5)⟩
 have d1:decide (G≥0)=true:=qR e5.1;have d2:decide (G<l3)=true:=qR e5.2;have d3:decide (A≥0)=true:=qR e6.1;have d4:decide (A<l3)=true:=qR e6.2;have d5:decide (L≥0)=true:=qR e7.1;have d6:decide (L<l5)=true:=qR e7.2;unfold aU;unfold aU at hW1
 go_enter Tryz.func98,Tryz.ntmps98
 obtain⟨f1,f2⟩:=e5;obtain⟨f3,f4⟩:=e6;obtain⟨f5,f6⟩:=e7
 go_wp2_with (first
  |(go_at_call_of 99 (Value.string u);refine(hl _ _ hz).mono ?_;rintro e w' ⟨rfl,hB⟩;obtain⟨⟨x0,x4,y1,y2,hk,k,hlen,hd⟩,j,u1,u2,u3,x1,x2,x3,y3,y4,y5⟩:=fx _ hB)
  |(refine(TR _ (by assumption) (by assumption)).mono ?_;rintro e w' ⟨rfl,hw⟩;subst hw))
 go_ret
 exact⟨rfl,u2,u3⟩
theorem CL{s:ByteArray}(h:s∈ps):inP ps s=true:=SJ.2 h
set_option maxRecDepth 100000 in
theorem aAQ(hp:W.cell? ⟨p,0,none⟩=some (.map (some M)))(hm:PM W M ps)(hq:W.cell? ⟨q,0,none⟩=some (.func (.func 97) #[] #[.pointer (some ⟨p,0,none⟩)]))
 (hz:e.2.2.2.1.size<=1000) (hz2:e.2.2.2.2.1.size<=1000) (e1:e.2.2.2.1∈ps) (e2:e.2.2.2.2.1∈ps) (e3:e.2.2.2.1≠e.2.2.2.2.1):
 Calls Tryz.prog 100 #[.agg (aU e),.pointer (some ⟨q,0,none⟩),.pointer (some ⟨p,0,none⟩)] W λe' w'=>e'=.returned (.bool true)/\Below W.heap.size W w':=by
 obtain⟨k1,t1,⟨pl,pf,pt,pc,pa⟩,L,A,ln⟩:=e;dsimp only at *;obtain⟨z,y⟩:∃z,W.alloc (.cells (aU (k1,t1,(pl,pf,pt,pc,pa),L,A,ln)) 59)=z:=⟨_,rfl⟩;have b1:z.heap[W.heap.size]?=some (.cells (aU (k1,t1,(pl,pf,pt,pc,pa),L,A,ln)) 59 (0,0)):=by rw[<- y];exact World.alloc_heap_new W _
 have B1:Below W.heap.size W z:=y▸(Below.refl _ W).alloc (qL _) _;have z1:z.heap.size=W.heap.size+1:=by rw[<- y];simp
 have G:=hm.same (B1.block M hm.lt);have X:=jE B1 hp;have hq1:=jE B1 hq;have cn:=TQ (e:=(k1,t1,(pl,pf,pt,pc,pa),L,A,ln)) X G hz;rw[show inP ps _=true from CL e1]at cn;have fx:∀V:World,Below z.heap.size z V->Below W.heap.size W V/\V.cell? ⟨p,0,none⟩=some (.map (some M))/\V.cell? ⟨W.heap.size,7,none⟩=some (.string L)/\V.cell? ⟨W.heap.size,8,none⟩=some (.string A)/\
   (Instr.lookup 169 (.map (some M)) (.string A) false).run Tryz.prog V=.ok (.bool true) V:=λV hV=>by
  have b2:V.heap[W.heap.size]?=z.heap[W.heap.size]?:=hV.block _ Z;rw[b1]at b2;have hk:=(G.same (hV.block M G.lt)).look hz2;rw[CL e2]at hk;exact⟨B1.trans (hV.mono Z),jE hV X,by simp[World.cell?,b2,aU],by simp[World.cell?,b2,aU],hk⟩
 have f:∀(j:Nat) (u:Value),(aU (k1,t1,(pl,pf,pt,pc,pa),L,A,ln))[j]?=some u->z.cell? ⟨W.heap.size,j,none⟩=some u:=λj u h=>by simp[World.cell?,b1,h]
 have m0:=f 0 _ rfl;have m1:=f 1 _ rfl;have m2:=f 2 _ rfl;have m3:=f 3 _ rfl;have m4:=f 4 _ rfl;have m5:=f 5 _ rfl;have m6:=f 6 _ rfl;have m7:=f 7 _ rfl;have m8:=f 8 _ rfl;have m9:=f 9 _ rfl;unfold aU;unfold aU at y cn
 go_enter Tryz.func100,Tryz.ntmps100
 go_wp2_with (refine cn.mono ?_;rintro e w' ⟨rfl,hB⟩;obtain⟨B3,x0,x4,y1,y2⟩:=fx _ hB)
 go_ret
 exact⟨by simp[show ¬L.toList=A.toList from λh=>e3 (str_inj (by rwa [ByteArray.toList_eq,ByteArray.toList_eq]at h))],B3⟩
set_option maxRecDepth 100000 in
theorem TP(hq:W.cell? ⟨q,0,none⟩=some (.func (.func 96) #[] #[])){a4:Option Addr}{l4 c4:Nat}(h4:W.cell? ⟨b0,4,none⟩=some (.slice a4 l4 c4))(e1:0<=e.2.2.2.2.2)(e2:e.2.2.2.2.2<l4):
 Calls Tryz.prog 101 #[.agg (aU e),.pointer (some ⟨q,0,none⟩),.pointer (some ⟨b0,0,none⟩)] W λe' y=>e'=.returned (.bool true)/\Below W.heap.size W y:=by
 obtain⟨k1,z,⟨G,L,A,X,pa⟩,lb,ot,j⟩:=e;dsimp only at *;obtain⟨h,f⟩:∃h,W.alloc (.cells (aU (k1,z,(G,L,A,X,pa),lb,ot,j)) 59)=h:=⟨_,rfl⟩;have b1:h.heap[W.heap.size]?=some (.cells (aU (k1,z,(G,L,A,X,pa),lb,ot,j)) 59 (0,0)):=by rw[<- f];exact World.alloc_heap_new W _
 have u:Below W.heap.size W h:=f▸(Below.refl _ W).alloc (qL _) _;have hq1:=jE u hq;have h41:=jE u h4;have l9:h.cell? ⟨W.heap.size,9,none⟩=some (.int .i64 j):=by simp[World.cell?,b1,aU]
 unfold aU;unfold aU at f
 go_enter Tryz.func101,Tryz.ntmps101
 go_wp2_with (refine(TR _ (by assumption) (by assumption)).mono ?_;rintro e y ⟨rfl,hw⟩;subst hw)
 go_ret
 exact⟨rfl,u⟩
end Go.Eng.Top
namespace Go.Eng.Top
open Go.Proofs Go.RowKit
variable {W W':World} {M p q b0:Nat} {ps:List ByteArray} {e:bZ} {lab:ByteArray->Bool}
def nxP(ps:List ByteArray)(e:bZ):List ByteArray:=if e.1=1 then ps++[e.2.2.1.1]else ps
def okW(lab:ByteArray->Bool)(h u j:Nat)(ps:List ByteArray)(f:Int)(e:bZ):Prop:=f<=e.2.1/\e.2.1<=1000000/\
 ((e.1=1/\lab e.2.2.1.1=true/\e.2.2.1.1∉ps/\ps.length<60/\e.2.2.1.2.2.2.2=e.2.1/\(0<=e.2.2.1.2.1/\e.2.2.1.2.1<h)/\(0<=e.2.2.1.2.2.1/\e.2.2.1.2.2.1<h)/\(0<=e.2.2.1.2.2.2.1/\e.2.2.1.2.2.2.1<j))\/
  ((e.1=2\/e.1=3)/\e.2.2.2.1∈ps)\/(e.1=4/\e.2.2.2.1∈ps/\e.2.2.2.2.1∈ps/\e.2.2.2.1≠e.2.2.2.2.1)\/(e.1=5/\0<=e.2.2.2.2.2/\e.2.2.2.2.2<u))
def CP(lab:ByteArray->Bool)(j h f:Nat):List ByteArray->Int->List bZ->Prop|_,_,[]=>True|ps,last,e::es=>okW lab j h f ps last e/\CP lab j h f (nxP ps e) e.2.1 es
noncomputable def fnR(h:Nat->Array Value)(v:Value):Option (DataW Unit×List MemPlace):=by
 classical
 exact match v with
 |.func (.func f) b c=>if b=#[]/\c=h f then some (.lit (.int .i64 f),[])else none|.nilFunc=>some (.lit (.int .i64 (-1)),[])|_=>none
theorem aCN(h:Nat->Array Value)(f:Nat):fnR h (.func (.func f) #[] (h f))=some (.lit (.int .i64 f),[]):=by
 unfold fnR;simp
theorem aAx{j:Nat->Array Value}{v:Value}{f:Nat}{xs:List MemPlace}(h:fnR j v=some (.lit (.int .i64 f),xs)):v=.func (.func f) #[] (j f):=by
 unfold fnR at h;split at h;rename_i g b c;split at h;rename_i e;obtain⟨rfl,rfl⟩:=e;simp only[vT,kL,DataW.lit.injEq,Lit.int.injEq,yE]at h;have u:g=f:=Int.ofNat.inj h.1;rw[u];cases h;simp at h;cases h
theorem lZ{W:World}{M n:Nat}{j:Nat->Array Value}{D:DataW Unit}(h:W.ownsMap Tryz.prog 3 (fnR j) M n D)(z:n<10){k:Int}(y:(Lit.int .i64 k).wf=true)(f:Nat):
  ∃u,(Instr.mapUpdate 171 (.map (some M)) (.int .i64 k) (.func (.func f) #[] (j f))).run Tryz.prog W=.ok () u/\u.ownsMap Tryz.prog 3 (fnR j) M (n+1) (D.put (.int .i64 k) (.lit (.int .i64 f)))/\W.grownBy u (some M):=
 h.update (Maps.int_keyed Tryz.underlying3) Tryz.underlying171 (by unfold maxLen;omega) (Maps.keyOf_int_mk Tryz.underlying3 y) (d:=.lit (.int .i64 f)) (ps:=[]) (aCN j f)
def yh(k:Nat):Nat:=if k=1 then 98 else if k=4 then 100 else if k=5 then 101 else 97
def XR(p q r b0:Nat)(f:Nat):Array Value:=if f=98 then #[.pointer (some ⟨p,0,none⟩),.pointer (some ⟨q,0,none⟩),.pointer (some ⟨b0,0,none⟩)]else if f=100 then #[.pointer (some ⟨r,0,none⟩),.pointer (some ⟨p,0,none⟩)]
 else if f=101 then #[.pointer (some ⟨q,0,none⟩),.pointer (some ⟨b0,0,none⟩)]else #[.pointer (some ⟨p,0,none⟩)]
def FH:DataW Unit:=(((((DataW.map []).put (.int .i64 1) (.lit (.int .i64 (98:Nat)))).put (.int .i64 2) (.lit (.int .i64 (97:Nat)))).put (.int .i64 3) (.lit (.int .i64 (97:Nat)))).put (.int .i64 4) (.lit (.int .i64 (100:Nat)))).put (.int .i64 5) (.lit (.int .i64 (101:Nat)))
theorem FG{k:Nat}(h:1<=k)(f:k<=5):FH.atKey (.int .i64 k) (.lit (.int .i64 (-1)))=.lit (.int .i64 (yh k:Nat))/\Maps.has FH (.int .i64 k)=true:=by
 rcases(by omega:k=1\/k=2\/k=3\/k=4\/k=5)with rfl|rfl|rfl|rfl|rfl<;>exact⟨by kernel_rfl,by kernel_rfl⟩
theorem QT{W:World}{M n:Nat}{f:Nat->Array Value}(h:W.ownsMap Tryz.prog 3 (fnR f) M n FH){k:Nat}(y:1<=k)(u:k<=5):
  (Instr.lookup 171 (.map (some M)) (.int .i64 k) true).run Tryz.prog W=.ok (.tuple #[.func (.func (yh k)) #[] (f (yh k)),.bool true]) W:=by
 obtain⟨v,A,e,j⟩:=h.look_ok (Maps.int_keyed Tryz.underlying3) Tryz.underlying171 (e:=170) (z:=.nilFunc) (zd:=.lit (.int .i64 (-1))) (zp:=[]) (Tryz.zeroValue170 _) rfl (key:=.int .i64 k) (Maps.keyOf_int_mk Tryz.underlying3 (by
  rcases(by omega:k=1\/k=2\/k=3\/k=4\/k=5)with rfl|rfl|rfl|rfl|rfl<;>rfl))
 rw[(FG y u).1]at j;rw[e,aAx j,(FG y u).2]
theorem aCZ{O:Nat->Prop}{W V:World}(h:Below W.heap.size W V):Chg O W V:=(Chg.refl _ _).below h
theorem aC1{r l3 l4 l5 c3 c4 c5 k:Nat}{a3 a4 a5:Option Addr}{z:Int}(X:W.cell? ⟨p,0,none⟩=some (.map (some M)))(hm:PM W M ps)(hq:W.cell? ⟨q,0,none⟩=some (.func (.func 96) #[] #[]))
 (hr:W.cell? ⟨r,0,none⟩=some (.func (.func 97) #[] #[.pointer (some ⟨p,0,none⟩)])) (h3:W.cell? ⟨b0,3,none⟩=some (.slice a3 l3 c3)) (h4:W.cell? ⟨b0,4,none⟩=some (.slice a4 l4 c4)) (h5:W.cell? ⟨b0,5,none⟩=some (.slice a5 l5 c5))
 (hl:∀(W':World) (s:ByteArray),s.size<=1000->Calls Tryz.prog 99 #[.string s] W' λe f=>e=.returned (.bool (lab s))/\Below W'.heap.size W' f) (hz:∀s,lab s=true->s.size<=1000) (y:∀s∈ps,s.size<=1000)
 (L:okW lab l3 l4 l5 ps z e) (hk:e.1=k):
 Calls Tryz.prog (yh k) (#[.agg (aU e)]++XR p q r b0 (yh k)) W λG f=>G=.returned (.bool true)/\PM f M (nxP ps e)/\Chg (·=M) W f:=by
 obtain⟨_,_,L⟩:=L;have bl:∀{f},nxP ps e=ps->Below W.heap.size W f->PM f M (nxP ps e)/\Chg (·=M) W f:=λ{f} h u=>⟨by rw[h];exact hm.same (u.block M hm.lt),aCZ u⟩;rcases L with⟨A,j,g2,g3,g4,g5,g6,g7⟩|⟨A,j⟩|⟨A,j,g2,g3⟩|⟨A,j,g2⟩;obtain rfl:k=1:=by omega
 unfold nxP;rw[if_pos A];exact aAR X hm hq h3 h5 hl (hz _ j) j (by rw[<- qAh,SJ];exact g2) g3 g4 g5 g6 g7;have e1:yh k=97:=by unfold yh;rw[if_neg Z,if_neg Z,if_neg Z]
 rw[e1];refine(TQ X hm (y _ j)).mono ?_;rintro G f ⟨rfl,u⟩;exact⟨by rw[CL j],bl (if_neg Z) u⟩;obtain rfl:k=4:=by omega
 refine(aAQ X hm hr (y _ j) (y _ g2) j g2 g3).mono ?_;rintro G f ⟨rfl,u⟩;exact⟨rfl,bl (if_neg Z) u⟩;obtain rfl:k=5:=by omega
 refine(TP hq h4 j g2).mono ?_;rintro G f ⟨rfl,u⟩;exact⟨rfl,bl (if_neg Z) u⟩
end Go.Eng.Top
