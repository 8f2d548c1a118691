/- PeWa1k -/
import Derived.Test.YtlobbofhlcjlmaaGreatDoorH22
import Derived.Test.YtlobbofhlcjlmaaGreatDoorTrDk
set_option linter.unusedSimpArgs false
set_option linter.unusedVariables false
set_option maxRecDepth 100000
noncomputable section
namespace Go.Eng.Sv
open Go.Proofs
def aRF (xs:List Int) (k:Nat):Prop:=xs.length=k
def aHX (xs ys:List Int):Prop:=xs.length + ys.length≤1000000000000
def upR (l:List Int) (b k:Int):List Int:=(l.take k.toNat).map fun x=>x + b
def upTo (l:List Int) (k:Int):Prop:=0≤k∧k≤l.length
def rsP (b:Int) (l xs:List Int) (k:Nat):Prop:=(xs.length=k∧xs.length + l.length≤1000000000000)∧-1000000≤b∧b≤1000000∧∀ x ∈ l,-1000000000≤x∧x≤1000000000
def wHd (n:Net) (p:Plan) (a:AV):List AV:=[.dat (.sl C) n.1,.dat (.sl S) n.2.1,.dat (.sl S) n.2.2.1,.dat (.sl (.pair S (.pair I (.pair I (.pair I (.pair I (.pair I (.sl S)))))))) n.2.2.2.1,.dat (.sl (.pair S (.pair I (.pair I (.pair I (.pair I I)))))) n.2.2.2.2.1,.dat (.sl (.pair S (.pair I I))) n.2.2.2.2.2,.dat I p.1,.dat I p.2.1,.dat M p.2.2.1,.dat (.sl M) p.2.2.2,a]
def uU (n:Net) (p:Plan) (k:Nat) (xs:List Int):Mem:=[(2,.var (wHd n p (.buf 3 k))),(3,.buf 3 I xs [])]
def zH (t:Ty):AV→Option t.den
 | .dat t' x=>if h:t'=t then some (h ▸ x) else none
 | _=>none
def aUd:List AV→Option (Net×Plan×AV)
 | [a1,a2,a3,a4,a5,a6,a7,a8,a9,a10,a]=>match zH (.sl C) a1,zH (.sl S) a2,zH (.sl S) a3,zH (.sl Of) a4,zH (.sl Ln) a5,zH (.sl Kl) a6,zH I a7,zH I a8,zH M a9,zH (.sl M) a10 with
  | some cs,some ns,some os,some fs,some ls,some ks,some p1,some p2,some p3,some p4=>some ((cs,ns,os,fs,ls,ks),(p1,p2,p3,p4),a)
  | _,_,_,_,_,_,_,_,_,_=>none
 | _=>none
def asW (m:Mem):Option (Net×Plan×Nat×List Int):=match m with
 | [(2,.var cells),(3,.buf el tx xs [])]=>match aUd cells,zH R (.dat (.sl tx) xs) with
  | some (n,p,.buf 3 k),some ys=>if el=3 then some (n,p,k,ys) else none
  | _,_=>none
 | _=>none
def aT7 (a b:List AV→Mem→Option pF):List AV→Mem→Option pF:=fun args m=>match a args m with
 | some c=>some c
 | none=>b args m
def wK (l:List AK) (pre:AKs l→Net→Plan→Nat→List Int→Prop) (ret:AKs l→Net→Plan→AV) (add:AKs l→Net→Plan→List Int) (args:List AV) (m:Mem):Option pF:=match asW m,ofK l args with
 | some (n,p,k,xs),some x=>some ⟨pre x n p k xs,ret x n p,uU n p (D.fE k (D.len (add x n p))) (D.app xs (add x n p))⟩
 | _,_=>none
def wR (l:List AK) (pre:AKs l→Net→Plan→Nat→List Int→Prop) (ret:AKs l→Net→Plan→AV) (args:List AV) (m:Mem):Option pF:=match asW m,ofK l args with
 | some (n,p,k,xs),some x=>some ⟨pre x n p k xs,ret x n p,[]⟩
 | _,_=>none
def wP (l:List AK) (q:AKs l→Net→Plan→Nat→List Int→aC1) (args:List AV) (m:Mem):Option aC1:=match asW m,ofK l args with
 | some (n,p,k,xs),some x=>some (q x n p k xs)
 | _,_=>none
def asI:AV→Option (Net×Plan)
 | .ips cells=>match aUd cells with
  | some (n,p,.top)=>some (n,p)
  | _=>none
 | _=>none
def wI (l:List AK) (pre:AKs l→Net→Plan→Prop) (ret:AKs l→Net→Plan→AV) (args:List AV) (m:Mem):Option pF:=match m,args with
 | [],a :: ar=>match asI a,ofK l ar with
  | some (n,p),some x=>some ⟨pre x n p,ret x n p,[]⟩
  | _,_=>none
 | _,_=>none
theorem aSk (k:Nat) (xs ys:List Int) (n:Net) (p:Plan) (hvc :
 let c1:=D.len (D.app xs ys);
 let c2:=D.fE k (D.len ys);
 let c3:=n.fst;
 let c4:=n.snd;
 let c5:=c4.fst;
 let c6:=c4.snd;
 let c7:=c6.fst;
 let c8:=c6.snd;
 let c9:=c8.fst;
 let c10:=c8.snd;
 let c11:=c10.fst;
 let c12:=c10.snd;
 let c13:=p.fst;
 let c14:=p.snd;
 let c15:=c14.fst;
 let c16:=c14.snd;
 let c17:=c16.fst;
 let c18:=c16.snd;true=true∧(aRF xs k∧aHX xs ys→1=1∧D.nle (D.len xs) c1∧1=1∧1=1∧1=1∧0=0∧D.len xs=k∧D.nle (D.nI c2 (8))
 (140737488355328)∧D.nle c2 (9223372036854775807)∧1=1∧1=1∧1=1∧0=0∧c1=c2∧c3=c3∧c5=c5∧c7=c7∧c9=c9∧c11=c11∧c12=c12 ∧
 c13=c13∧c15=c15∧c17=c17∧c18=c18∧c2=c2∧D.app xs ys=D.app xs ys∧1=1∧D.len xs=D.len xs∧True)) :
  evF (mkc KR2) bF 52 [.ptr 2 1 0 0,.dat R ys] (uU n p k xs) ⟨aRF xs k∧aHX xs ys,.tup [],uU n p (D.fE k (D.len ys)) (D.app xs ys)⟩:=@of_eq _ _ (by kernel_rfl) hvc
def KW1:Kt:=kOr 52 (wK [.mp 2,.val R] (fun (_,ys,_) _ _ k xs=>aRF xs k∧aHX xs ys) (fun _ _ _=>.tup []) fun (_,ys,_) _ _=>ys) KR2
def rsA (b:Int) (l xs:List Int) (n:Net) (p:Plan):Ann:=⟨fun id s=>match id with
 | 1=>some { α:=Int,inv:=fun j=>upTo l j,st:=fun j=>{ put (flat s) [(10,.dat I j)] with mem:=uU n p (D.fE (D.len xs) (D.len (upR l b j))) (D.app xs (upR l b j)) },μ:=fun j=>D.nat (D.sub (D.ilen l) j) }
 | _=>none,fun _ _=>none,fun _ _=>none⟩
theorem aJs (b:Int) (k:Nat) (l xs:List Int) (n:Net) (p:Plan) (hvc :
 let c1:=upR l b (D.ilen l);
 let c2:=D.app xs c1;
 let c3:=n.fst;
 let c4:=n.snd;
 let c5:=c4.fst;
 let c6:=c4.snd;
 let c7:=c6.fst;
 let c8:=c6.snd;
 let c9:=c8.fst;
 let c10:=c8.snd;
 let c11:=c10.fst;
 let c12:=c10.snd;
 let c13:=p.fst;
 let c14:=p.snd;
 let c15:=c14.fst;
 let c16:=c14.snd;
 let c17:=c16.fst;
 let c18:=c16.snd;true=true∧(rsP b l xs k→1=1∧D.nle (D.len xs) (D.len c2)∧(∃ x,upTo l x∧1=1∧0=0∧0=0∧b=b∧l=l∧D.ilen l =
 D.ilen l∧(0:Int)=x∧c3=c3∧c5=c5∧c7=c7∧c9=c9∧c11=c11∧c12=c12∧c13=c13∧c15=c15∧c17=c17∧c18=c18∧k=D.fE (D.len
 xs) (D.len (upR l b x))∧xs=D.app xs (upR l b x)∧1=1∧D.len xs=D.len xs∧True)∧∀ (x:Int),
 let c19:=D.lt x (D.ilen l);
 let c20:=D.add (D.get l (D.nat x) (0:Int)) b;
 let c21:=D.app xs (upR l b x);
 let c22:=D.fE (D.len xs) (D.len (upR l b x));
 let c23:=[c20];
 let c24:=D.app c21 c23;
 let c25:=D.add x (1:Int);upTo l x→(c19=true→D.ile (0:Int) x∧D.ilt x (D.ilen l)∧inR IntKind.i64 c20∧(aRF c21 c22∧aHX c21 c23)∧1=1 ∧
 D.nle (D.len c21) (D.len c24)∧inR IntKind.i64 c25∧∃ y,upTo l y∧(1=1∧0=0∧0=0∧b=b∧l=l∧D.ilen l=D.ilen l∧c25=y∧c3=c3∧c5 =
 c5∧c7=c7∧c9=c9∧c11=c11∧c12=c12∧c13=c13∧c15=c15∧c17=c17∧c18=c18∧D.fE c22 (D.len c23)=D.fE (D.len xs) (D.len (upR l b y))
 ∧ c24=D.app xs (upR l b y)∧1=1∧D.len xs=D.len xs∧True)∧D.nlt (D.nat (D.sub (D.ilen l) y)) (D.nat (D.sub (D.ilen l) x)))∧(c19=false→c3=c3
 ∧ c5=c5∧c7=c7∧c9=c9∧c11=c11∧c12=c12∧c13=c13∧c15=c15∧c17=c17∧c18=c18∧c22=D.fE k (D.len c1)∧c21=c2∧1=1∧D.len xs
 = D.len xs∧True))) :
  evF (mkc KW1) (lvA [(1,[0,1,7,8,9,10])] (rsA b l xs n p)) 53 [.ptr 2 1 0 0,.dat I b,.dat R l] (uU n p k xs) ⟨rsP b l xs k,.tup [],uU n p (D.fE k (D.len (upR l b (D.ilen l)))) (D.app xs (upR l b (D.ilen l)))⟩:=@of_eq _ _ (by kernel_rfl) hvc
def KW2:Kt:=kOr 53 (wK [.mp 2,.val I,.val R] (fun (_,b,l,_) _ _ k xs=>rsP b l xs k) (fun _ _ _=>.tup []) fun (_,b,l,_) _ _=>upR l b (D.ilen l)) KW1
theorem aPy (o:Int) (k:Nat) (xs:List Int) (n:Net) (p:Plan) (hvc :
 let c1:=n.snd;
 let c2:=c1.snd;
 let c3:=c2.snd;
 let c4:=c3.fst;
 let c5:=(D.get c4 (D.nat o) (ByteArray.mk (D.nil UInt8).toArray,(0:Int),(0:Int),(0:Int),(0:Int),(0:Int),D.nil ByteArray)).snd.snd.fst;
 let c6:=n.fst;
 let c7:=D.get c6 (D.nat c5) ((0:Int),D.nil Bool,D.nil Int);
 let c8:=c7.snd;
 let c9:=(bK n o).snd;
 let c10:=c1.fst;
 let c11:=c2.fst;
 let c12:=c3.snd;
 let c13:=c12.fst;
 let c14:=c12.snd;
 let c15:=p.fst;
 let c16:=p.snd;
 let c17:=c16.fst;
 let c18:=c16.snd;
 let c19:=c18.fst;
 let c20:=c18.snd;true=true∧(aCe n o→1=1∧1=1∧1=1∧1=1∧0=0∧1=1∧1=1∧1=1∧1=1∧0=0∧D.ile (0:Int) o∧D.ilt o
 (D.ilen c4)∧D.ile (0:Int) c5∧D.ilt c5 (D.ilen c6)∧1=1∧0=0∧1=1∧0=0∧c7.fst=(bK n o).fst∧c8.fst=c9.fst∧c8.snd=c9.snd∧c6 =
 c6∧c10=c10∧c11=c11∧c4=c4∧c13=c13∧c14=c14∧c15=c15∧c17=c17∧c19=c19∧c20=c20∧k=k∧xs=xs∧1=1∧D.len xs=D.len xs ∧
 True)) :
  evF (mkc KR2) bF 88 [.ptr 2 1 0 0,.dat I o] (uU n p k xs) ⟨aCe n o,cal (bK n o).1 (bK n o).2.1 (bK n o).2.2,[]⟩:=@of_eq _ _ (by kernel_rfl) hvc
theorem aMg (o:Int) (n:Net) (p:Plan) (hvc :
 let c1:=n.snd.snd.snd.fst;
 let c2:=(D.get c1 (D.nat o) (ByteArray.mk (D.nil UInt8).toArray,(0:Int),(0:Int),(0:Int),(0:Int),(0:Int),D.nil ByteArray)).snd.snd.fst;
 let c3:=n.fst;
 let c4:=D.get c3 (D.nat c2) ((0:Int),D.nil Bool,D.nil Int);
 let c5:=c4.snd;
 let c6:=(bK n o).snd;true=true∧(aCe n o→D.ile (0:Int) o∧D.ilt o (D.ilen c1)∧D.ile (0:Int) c2∧D.ilt c2 (D.ilen c3)∧1=1∧0=0∧1=1
 ∧ 0=0∧c4.fst=(bK n o).fst∧c5.fst=c6.fst∧c5.snd=c6.snd∧True)) :
  evF (mkc KR2) bF 88 [.ips (wHd n p .top),.dat I o] [] ⟨aCe n o,cal (bK n o).1 (bK n o).2.1 (bK n o).2.2,[]⟩:=@of_eq _ _ (by kernel_rfl) hvc
theorem aPw (o t:Int) (k:Nat) (xs:List Int) (n:Net) (p:Plan) (hvc :
 let c1:=n.snd;
 let c2:=c1.snd;
 let c3:=c2.snd;
 let c4:=c3.fst;
 let c5:=(D.get c4 (D.nat o) (ByteArray.mk (D.nil UInt8).toArray,(0:Int),(0:Int),(0:Int),(0:Int),(0:Int),D.nil ByteArray)).snd.snd.snd.snd;
 let c6:=D.mul c5.fst c5.snd.fst;
 let c7:=D.add t c6;
 let c8:=n.fst;
 let c9:=c1.fst;
 let c10:=c2.fst;
 let c11:=c3.snd;
 let c12:=c11.fst;
 let c13:=c11.snd;
 let c14:=p.fst;
 let c15:=p.snd;
 let c16:=c15.fst;
 let c17:=c15.snd;
 let c18:=c17.fst;
 let c19:=c17.snd;true=true∧(vF n o t→1=1∧1=1∧1=1∧1=1∧0=0∧D.ile (0:Int) o∧D.ilt o (D.ilen c4)∧1=1∧1=1∧1=1∧1 =
 1∧0=0∧D.ile (0:Int) o∧D.ilt o (D.ilen c4)∧inR IntKind.i64 c6∧inR IntKind.i64 c7∧c7=aK n o t∧c8=c8∧c9=c9∧c10=c10∧c4=c4 ∧
 c12=c12∧c13=c13∧c14=c14∧c16=c16∧c18=c18∧c19=c19∧k=k∧xs=xs∧1=1∧D.len xs=D.len xs∧True)) :
  evF (mkc KR2) bF 91 [.ptr 2 1 0 0,.dat I o,.dat I t] (uU n p k xs) ⟨vF n o t,.dat I (aK n o t),[]⟩:=@of_eq _ _ (by kernel_rfl) hvc
theorem aJo (z m t:Int) (w:List Bool) (h:List Int) (hvc :
 let c1:=(z,w,h);
 let c2:=D.lt m (aLU z t);
 let c3:=D.add (nT z t) (1:Int);
 let c4:=mX w h c3;
 let c5:=D.ne c4 (0:Int);
 let c6:=nS c1 m t;
 let c7:=zB c1 m t;
 let c8:=mM w h c3;
 let c9:=mX w h (nT z t);
 let c10:=D.ne c9 (0:Int);
 let c11:=mM w h (nT z t);true=true∧(aLX c1 m t→rX z w h t∧(c2=true→inR IntKind.i64 c3∧aRr z w h c3∧(c5=true→(0:Int)=c6 ∧
 c4=c7∧True)∧(c5=false→aBm z w h c8 m∧wE z c8 m=c6∧(0:Int)=c7∧True))∧(c2=false→aRr z w h (nT z t)∧(c10=true→(0:Int)
 = c6∧c9=c7∧True)∧(c10=false→aBm z w h c11 m∧wE z c11 m=c6∧(0:Int)=c7∧True)))) :
  evF (mkc KR2) bF 90 [cal z w h,.dat I m,.dat I t] [] ⟨aLX (z,w,h) m t,.tup [.dat I (nS (z,w,h) m t),.dat I (zB (z,w,h) m t)],[]⟩:=@of_eq _ _ (by kernel_rfl) hvc
theorem aMa (v e:Int) (hvc :
 let c1:=D.ne e (0:Int);
 let c2:=chainOf (Value.iface (39) (Value.int IntKind.i64 e));true=true∧(True→(c1=true→(true=true→True∧(false=false→isZero e=false ∧
 true=true∧c2=c2))∧True)∧(c1=false→isZero e=true∧v=v∧True))) :
  evC (mkc KR2) bF 89 [.dat I v,.dat I e] (.dat I v) ⟨True,isZero e,aN4 39 e⟩:=@of_eq _ _ (by kernel_rfl) hvc
theorem aMf (e:Int) (hvc :
 true=true∧(True→(true=true→e=e∧True)∧(true=false→(1:Int)=e∧True))) :
  evF (mkc KR2) bF 49 [.ifc 39 (.dat I e)] [] ⟨True,.dat I e,[]⟩:=@of_eq _ _ (by kernel_rfl) hvc
theorem aHY (i l:Int) (hvc :
 let c1:=D.ge i (0:Int);true=true∧(True→(c1=true→c1=true→c1=true)∧(c1=true→c1=true→c1=true)∧(D.and true c1=true→c1=true)
 ∧ D.cnd c1 (D.lt i l) false=mW i l∧True)) :
  evF (mkc KR2) bF 123 [.dat I i,.dat I l] [] ⟨True,.dat .bool (mW i l),[]⟩:=@of_eq _ _ (by kernel_rfl) hvc
theorem aPx (c o:Int) (k:Nat) (xs:List Int) (n:Net) (p:Plan) (hvc :
 let c1:=n.fst;
 let c2:=n.snd;
 let c3:=c2.fst;
 let c4:=c2.snd;
 let c5:=c4.fst;
 let c6:=c4.snd;
 let c7:=c6.fst;
 let c8:=c6.snd;
 let c9:=c8.fst;
 let c10:=c8.snd;
 let c11:=p.fst;
 let c12:=p.snd;
 let c13:=c12.fst;
 let c14:=c12.snd;
 let c15:=c14.fst;
 let c16:=c14.snd;true=true∧(True→1=1∧0=0∧0=0∧o=o∧c=c∧c1=c1∧c3=c3∧c5=c5∧c7=c7∧c9=c9∧c10=c10∧c11=c11∧c13
 = c13∧c15=c15∧c16=c16∧k=k∧xs=xs∧1=1∧D.len xs=D.len xs∧True)) :
  evF (mkc KR2) bF 86 [.ptr 2 1 0 0,.dat I c,.dat I o] (uU n p k xs) ⟨True,.fn 124 [.ipv (.ptr 2 1 0 0),.ip I o,.ip I c],[]⟩:=@of_eq _ _ (by kernel_rfl) hvc
def KW3:Kt:=kOr 88 (aT7 (wR [.mp 2,.val I] (fun (_,o,_) n _ _ _=>aCe n o) fun (_,o,_) n _=>cal (bK n o).1 (bK n o).2.1 (bK n o).2.2) (wI [.val I] (fun (o,_) n _=>aCe n o) fun (o,_) n _=>cal (bK n o).1 (bK n o).2.1 (bK n o).2.2)) <|
 kOr 91 (wR [.mp 2,.val I,.val I] (fun (_,o,t,_) n _ _ _=>vF n o t) fun (_,o,t,_) n _=>.dat I (aK n o t)) <|
 kOr 90 (bD [.row C,.val I,.val I] (fun (c,m,t,_)=>aLX c m t) fun (c,m,t,_)=>.tup [.dat I (nS c m t),.dat I (zB c m t)]) <|
 kOr 89 (bD [.val I,.val I] (fun (_,e,_)=>True∧isZero e=true) fun (v,_,_)=>.dat I v) <|
 kOr 123 (bD [.val I,.val I] (fun _=>True) fun (i,l,_)=>.dat .bool (mW i l)) <|
 kOr 86 (wR [.mp 2,.val I,.val I] (fun _ _ _ _ _=>True) fun (_,c,o,_) _ _=>.fn 124 [.ipv (.ptr 2 1 0 0),.ip I o,.ip I c]) KW2
def aVM:KPt:=pOr 89 (aIN [.val I,.val I] fun (_,e,_)=>⟨True,isZero e,aN4 39 e⟩) Go.Eng.noP
theorem aKJ {P:Program} {G:List (Nat×AV)} {f:FuncId} {a b:List AV→Mem→Option pF} (ha:∀ args m c,a args m=some c→aC P G f args m c) (hb:∀ args m c,b args m=some c→aC P G f args m c):∀ args m c,aT7 a b args m=some c→aC P G f args m c:=by
 intro args m c h
 unfold aT7 at h
 split at h
 ·rename_i h1;cases h;exact ha _ _ _ h1
 ·exact hb _ _ _ h
theorem kS {t:Ty} {a:AV} {x:t.den} (h:zH t a=some x):a=.dat t x:=by
 unfold zH at h
 split at h
 ·split at h
  ·rename_i e;subst e;cases h;rfl
  ·cases h
 ·cases h
theorem aLy {l:List AV} {n:Net} {p:Plan} {a:AV} (h:aUd l=some (n,p,a)):l=wHd n p a:=by
 unfold aUd at h
 split at h
 ·split at h
  ·rename_i h1 h2 h3 h4 h5 h6 h7 h8 h9 h10
   cases h
   rw [kS h1,kS h2,kS h3,kS h4,kS h5,kS h6,kS h7,kS h8,kS h9,kS h10]
   rfl
  ·cases h
 ·cases h
theorem aLw {m:Mem} {n:Net} {p:Plan} {k:Nat} {xs:List Int} (h:asW m=some (n,p,k,xs)):m=uU n p k xs:=by
 unfold asW at h
 split at h
 ·split at h
  ·rename_i h1 h2
   split at h
   ·rename_i e
    cases h
    rw [aLy h1,e]
    have:=kS h2
    cases this
    rfl
   ·cases h
  ·cases h
 ·cases h
theorem aPh {a:AV} {n:Net} {p:Plan} (h:asI a=some (n,p)):a=.ips (wHd n p .top):=by
 unfold asI at h
 split at h
 ·split at h
  ·rename_i h1
   cases h
   rw [aLy h1]
  ·cases h
 ·cases h
theorem aL5 {P:Program} {G:List (Nat×AV)} {f:FuncId} {l:List AK} {pre:AKs l→Net→Plan→Nat→List Int→Prop} {ret:AKs l→Net→Plan→AV} {add:AKs l→Net→Plan→List Int}
  (h:∀ x n p k xs,aC P G f (avK l x) (uU n p k xs) ⟨pre x n p k xs,ret x n p,uU n p (D.fE k (D.len (add x n p))) (D.app xs (add x n p))⟩):∀ args m c,wK l pre ret add args m=some c→aC P G f args m c:=by
 intro args m c hc
 unfold wK at hc
 split at hc
 ·rename_i n p k xs x h1 h2
  cases hc
  rw [aLw h1]
  exact (h x n p k xs).args fun C us _ hu=>lJ h2 hu
 ·cases hc
theorem aPu {P:Program} {G:List (Nat×AV)} {f:FuncId} {l:List AK} {pre:AKs l→Net→Plan→Nat→List Int→Prop} {ret:AKs l→Net→Plan→AV}
  (h:∀ x n p k xs,aC P G f (avK l x) (uU n p k xs) ⟨pre x n p k xs,ret x n p,[]⟩):∀ args m c,wR l pre ret args m=some c→aC P G f args m c:=by
 intro args m c hc
 unfold wR at hc
 split at hc
 ·rename_i n p k xs x h1 h2
  cases hc
  rw [aLw h1]
  exact (h x n p k xs).args fun C us _ hu=>lJ h2 hu
 ·cases hc
theorem aRX {P:Program} {G:List (Nat×AV)} {f:FuncId} {l:List AK} {q:AKs l→Net→Plan→Nat→List Int→aC1} (h:∀ x n p k xs,jM P G f (avK l x) (uU n p k xs) (q x n p k xs)):∀ args m r,wP l q args m=some r→jM P G f args m r:=by
 intro args m r hc
 unfold wP at hc
 split at hc
 ·rename_i n p k xs x h1 h2
  cases hc
  rw [aLw h1]
  exact fun hp hk w D E us hD hG hu hH=>h x n p k xs hp hk w D E us hD hG (lJ h2 hu) hH
 ·cases hc
theorem aUp {P:Program} {G:List (Nat×AV)} {f:FuncId} {l:List AK} {pre:AKs l→Net→Plan→Prop} {ret:AKs l→Net→Plan→AV}
  (h:∀ x n p,aC P G f (.ips (wHd n p .top) :: avK l x) [] ⟨pre x n p,ret x n p,[]⟩):∀ args m c,wI l pre ret args m=some c→aC P G f args m c:=by
 intro args m c hc
 unfold wI at hc
 split at hc
 ·split at hc
  ·rename_i n p x h1 h2
   cases hc
   rw [aPh h1]
   refine (h x n p).args fun C us _ hu=>?_
   obtain ⟨u,us',e,g1,g2⟩:=hu
   exact ⟨u,us',e,g1,lJ h2 g2⟩
  ·cases hc
 ·cases hc
theorem aUR (k:Nat) (xs ys:List Int) (n:Net) (p:Plan):aC Tryz.prog G0 52 [.ptr 2 1 0 0,.dat R ys] (uU n p k xs) ⟨aRF xs k∧aHX xs ys,.tup [],uU n p (D.fE k (D.len ys)) (D.app xs ys)⟩:=by
 refine aA (c:=mkc KR2) aL0 cO hm (aSk k xs ys n p ⟨rfl,fun ⟨hk,hr⟩=>?_⟩)
 have hk:xs.length=k:=hk
 have hr:xs.length + ys.length≤1000000000000:=hr
 simp only [eq_self,true_and,and_true,D.nle,D.len,D.fE,D.nI,D.app,List.length_append]
 exact ⟨by omega,hk,by omega,by omega,by omega⟩
theorem aV1:aQ Tryz.prog G0 KW1:=aJ (aL5 fun (_,ys,_) n p k xs=>aUR k xs ys n p) aL0
theorem aJC {l:List Int} {b k:Int} (h:upTo l k):(upR l b k).length=k.toNat:=by
 unfold upR
 rw [List.length_map,List.length_take]
 have:=h.1;have:=h.2;omega
theorem aMJ {l:List Int} {b k:Int} (h0:0≤k) (h1:k < l.length):upR l b (k + 1)=upR l b k ++ [l.getD k.toNat 0 + b]:=by
 unfold upR
 rw [show (k + 1).toNat=k.toNat + 1 by omega,List.take_add_one,List.getD_eq_getElem?_getD,List.getElem?_eq_getElem (show k.toNat < l.length by omega),List.map_append]
 rfl
theorem aMT (b:Int) (k:Nat) (l xs:List Int) (n:Net) (p:Plan):aC Tryz.prog G0 53 [.ptr 2 1 0 0,.dat I b,.dat R l] (uU n p k xs) ⟨rsP b l xs k,.tup [],uU n p (D.fE k (D.len (upR l b (D.ilen l)))) (D.app xs (upR l b (D.ilen l)))⟩:=by
 refine aA (c:=mkc KW1) aV1 cO hm (aJs b k l xs n p ⟨rfl,fun hp=>?_⟩)
 simp only [eq_self,true_and,and_true,D.lt,D.ilen,D.ile,D.ilt,D.nle,D.nlt,D.sub,D.add,D.nat,D.len,D.fE,D.get,D.app,decide_eq_true_eq,decide_eq_false_iff_not,List.length_append]
 obtain ⟨⟨hk,hr⟩,b0,b1,hl⟩:=hp
 have eN:upTo l l.length:=⟨Int.natCast_nonneg _,Int.le_refl _⟩
 refine ⟨by omega,⟨0,⟨Int.le_refl _,Int.natCast_nonneg _⟩,rfl,by show k=xs.length + 0;omega,(List.append_nil _).symm⟩,fun x hx=>⟨fun hlt=>?_,fun hge=>?_⟩⟩
 ·have h0:=hx.1
  have e1:=aJC (b:=b) hx
  have e2:=aMJ (b:=b) h0 hlt
  have hv:=hl _ (getD_mem (l:=l) (i:=x.toNat) (d:=0) (by omega))
  refine ⟨h0,hlt,jI (by omega),⟨by show (xs ++ upR l b x).length=_;rw [List.length_append],by show (xs ++ upR l b x).length + _≤1000000000000;rw [List.length_append,List.length_singleton];omega⟩,by omega,jI (by omega),x + 1,⟨by omega,by omega⟩,⟨rfl,by rw [e2,List.length_append];rfl,by rw [e2,List.append_assoc]⟩,by omega⟩
 ·have hx1:=hx.2
  have:x=l.length:=by omega
  rw [this,aJC eN]
  exact ⟨by omega,rfl⟩
theorem aWp:aQ Tryz.prog G0 KW2:=aJ (aL5 fun (_,b,l,_) n p k xs=>aMT b k l xs n p) aV1
theorem aSK (o:Int) (k:Nat) (xs:List Int) (n:Net) (p:Plan):aC Tryz.prog G0 88 [.ptr 2 1 0 0,.dat I o] (uU n p k xs) ⟨aCe n o,cal (bK n o).1 (bK n o).2.1 (bK n o).2.2,[]⟩:=by
 refine aA (c:=mkc KR2) aL0 cO hm (aPy o k xs n p ⟨rfl,fun hp=>?_⟩)
 obtain ⟨cs,ns,os,fs,ls,ks⟩:=n
 obtain ⟨g1,g2,_⟩:=oG cs ns os fs ls ks hp
 simp only [eq_self,true_and,and_true,D.nil,D.ilen,D.ile,D.ilt,D.nat,D.len,D.get]
 exact ⟨hp.2.1,hp.2.2,g1,g2,rfl,rfl,rfl⟩
theorem aP3 (o:Int) (n:Net) (p:Plan):aC Tryz.prog G0 88 [.ips (wHd n p .top),.dat I o] [] ⟨aCe n o,cal (bK n o).1 (bK n o).2.1 (bK n o).2.2,[]⟩:=by
 refine aA (c:=mkc KR2) aL0 cO hm (aMg o n p ⟨rfl,fun hp=>?_⟩)
 obtain ⟨cs,ns,os,fs,ls,ks⟩:=n
 obtain ⟨g1,g2,_⟩:=oG cs ns os fs ls ks hp
 simp only [eq_self,true_and,and_true,D.nil,D.ilen,D.ile,D.ilt,D.nat,D.get]
 exact ⟨hp.2.1,hp.2.2,g1,g2,rfl,rfl,rfl⟩
theorem yN (cs:LC) (ns os:LB) (fs:List Off) (ls:List Line) (ks:List Cla) {o t:Int} (hp:vF (cs,ns,os,fs,ls,ks) o t):inR .i64 ((kX (cs,ns,os,fs,ls,ks) o).2.2.2.2.1 * (kX (cs,ns,os,fs,ls,ks) o).2.2.2.2.2.1)∧inR .i64 (aK (cs,ns,os,fs,ls,ks) o t)∧t≤aK (cs,ns,os,fs,ls,ks) o t∧aK (cs,ns,os,fs,ls,ks) o t≤t + 960:=by
 obtain ⟨ho,b1,b2⟩:=hp
 obtain ⟨_,_,_,g1,g2,g3,g4⟩:=oG cs ns os fs ls ks ho
 unfold aK
 generalize (kX (cs,ns,os,fs,ls,ks) o).2.2.2.2.1=x at *
 generalize (kX (cs,ns,os,fs,ls,ks) o).2.2.2.2.2.1=y at *
 have m1:0≤x * y:=Int.mul_nonneg (by omega) (by omega)
 have m2:x * y≤4 * 240:=Int.mul_le_mul g2 g4 (by omega) (by omega)
 exact ⟨jI (by omega),jI (by omega),by omega,by omega⟩
theorem aSI (o t:Int) (k:Nat) (xs:List Int) (n:Net) (p:Plan):aC Tryz.prog G0 91 [.ptr 2 1 0 0,.dat I o,.dat I t] (uU n p k xs) ⟨vF n o t,.dat I (aK n o t),[]⟩:=by
 refine aA (c:=mkc KR2) aL0 cO hm (aPw o t k xs n p ⟨rfl,fun hp=>?_⟩)
 obtain ⟨cs,ns,os,fs,ls,ks⟩:=n
 obtain ⟨r1,r2,_⟩:=yN cs ns os fs ls ks hp
 simp only [eq_self,true_and,and_true,D.nil,D.ilen,D.ile,D.ilt,D.add,D.mul,D.nat,D.len,D.get]
 exact ⟨hp.1.2.1,hp.1.2.2,hp.1.2.1,hp.1.2.2,r1,r2,rfl⟩
theorem aMR (m t:Int) (c:C.den):aC Tryz.prog G0 90 [cal c.1 c.2.1 c.2.2,.dat I m,.dat I t] [] ⟨aLX c m t,.tup [.dat I (nS c m t),.dat I (zB c m t)],[]⟩:=by
 obtain ⟨z,w,h⟩:=c
 refine aA (c:=mkc KR2) aL0 cO hm (aJo z m t w h ⟨rfl,fun hp=>?_⟩)
 obtain ⟨b1,b2⟩:=aTA hp
 obtain ⟨hv,h1,h2,h3,h4⟩:=id hp
 simp only [and_true,D.ne,D.lt,D.add,decide_eq_true_eq,decide_eq_false_iff_not,bne_iff_ne,bne_eq_false_iff_eq]
 have key:∀ d,d=d0F (z,w,h) m t→aRr z w h d∧(¬ mX w h d=0→(0:Int)=nS (z,w,h) m t∧mX w h d=zB (z,w,h) m t)∧(mX w h d=0→aBm z w h (mM w h d) m∧wE z (mM w h d) m=nS (z,w,h) m t∧(0:Int)=zB (z,w,h) m t):=by
  rintro d rfl
  refine ⟨⟨hv,aBL (by omega) (by omega)⟩,fun h0=>⟨(if_neg h0).symm,rfl⟩,fun h0=>?_⟩
  obtain ⟨q1,q2,q3⟩:=wY h0
  exact ⟨⟨hv,aBL (by omega) (by omega),h1,h2⟩,(if_pos h0).symm,h0.symm⟩
 refine ⟨⟨hv,by omega,by omega⟩,fun hlt=>?_,fun hge=>?_⟩
 ·have e:nT z t + 1=d0F (z,w,h) m t:=(if_pos hlt).symm
  obtain ⟨q1,q2,q3⟩:=key _ e
  exact ⟨by unfold inR;simp only;omega,q1,q2,q3⟩
 ·have e:nT z t=d0F (z,w,h) m t:=(if_neg hge).symm
  exact key _ e
theorem aJL (v e:Int):aC Tryz.prog G0 89 [.dat I v,.dat I e] [] ⟨True∧isZero e=true,.dat I v,[]⟩∧jM Tryz.prog G0 89 [.dat I v,.dat I e] [] ⟨True,isZero e,aN4 39 e⟩:=by
 refine rJ (c:=mkc KR2) aL0 cO hm aER (aMa v e ⟨rfl,fun _=>⟨fun h=>⟨fun _=>⟨trivial,fun _=>⟨?_,rfl,rfl⟩⟩,trivial⟩,fun h=>⟨?_,rfl,trivial⟩⟩⟩)
 ·unfold isZero;simpa [D.ne] using h
 ·unfold isZero;simpa [D.ne] using h
theorem aP2 (e:Int):aC Tryz.prog G0 49 [.ifc 39 (.dat I e)] [] ⟨True,.dat I e,[]⟩ :=
 aA (c:=mkc KR2) aL0 cO hm (aMf e ⟨rfl,fun _=>⟨fun _=>⟨rfl,trivial⟩,fun h=>by cases h⟩⟩)
theorem aJN (i l:Int):aC Tryz.prog G0 123 [.dat I i,.dat I l] [] ⟨True,.dat .bool (mW i l),[]⟩:=by
 refine aA (c:=mkc KR2) aL0 cO hm (aHY i l ⟨rfl,fun _=>⟨fun h _=>h,fun h _=>h,fun h=>by simpa [D.and] using h,?_,trivial⟩⟩)
 unfold mW
 simp only [D.cnd,D.ge,D.lt,ge_iff_le]
 by_cases h:0≤i <;> simp [h]
theorem aSJ (c o:Int) (k:Nat) (xs:List Int) (n:Net) (p:Plan):aC Tryz.prog G0 86 [.ptr 2 1 0 0,.dat I c,.dat I o] (uU n p k xs) ⟨True,.fn 124 [.ipv (.ptr 2 1 0 0),.ip I o,.ip I c],[]⟩:=by
 refine aA (c:=mkc KR2) aL0 cO hm (aPx c o k xs n p ⟨rfl,fun _=>?_⟩)
 simp only [eq_self,and_true,D.len]
theorem aRO:aQ Tryz.prog G0 KW3:=aJ (aKJ (aPu fun (_,o,_) n p k xs=>aSK o k xs n p) (aUp fun (o,_) n p=>aP3 o n p)) <|
 aJ (aPu fun (_,o,t,_) n p k xs=>aSI o t k xs n p) <| aJ (aG fun (c,m,t,_)=>aMR m t c) <| aJ (aG fun (v,e,_)=>(aJL v e).1) <|
 aJ (aG fun (i,l,_)=>aJN i l) <| aJ (aPu fun (_,c,o,_) n p k xs=>aSJ c o k xs n p) aWp
theorem aLL:fB Tryz.prog G0 aVM:=rW (aAN fun (v,e,_)=>(aJL v e).2) aER
end Go.Eng.Sv
