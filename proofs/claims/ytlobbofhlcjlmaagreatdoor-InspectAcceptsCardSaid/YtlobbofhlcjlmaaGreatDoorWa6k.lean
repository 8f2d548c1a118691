/- PeWa6k -/
import Derived.Test.YtlobbofhlcjlmaaGreatDoorH22
import Derived.Test.YtlobbofhlcjlmaaGreatDoorIn2k
import Derived.Test.YtlobbofhlcjlmaaGreatDoorWa5k
set_option linter.unusedSimpArgs false
set_option linter.unusedVariables false
set_option maxRecDepth 100000
noncomputable section
namespace Go.Eng.Sv
open Go.Proofs
def up1 (r:List Int):List Int:=upR r 1 (r.length:Int)
def h4N (n:Net) (p:Plan):List Int:=[p.1,p.2.1,n.2.2.2.1.length,n.2.2.2.2.2.length]
def h1N (n:Net) (p:Plan) (j:Int):List Int:=h4N n p ++ (p.2.2.1.take j.toNat).flatMap up1
def h2N (n:Net) (p:Plan) (i:Int):List Int:=h1N n p p.2.2.1.length ++ (p.2.2.2.take i.toNat).flatMap fun t=>t.flatMap up1
def h3N (n:Net) (p:Plan) (i j:Int):List Int:=h2N n p i ++ ((p.2.2.2.getD i.toNat []).take j.toNat).flatMap up1
def hdN (n:Net) (p:Plan):List Int:=h2N n p p.2.2.2.length
def aAC (n:Net) (p:Plan) (c o d:Int):List Int:=if qV p c o d=-1 then [] else keepA n p c o d
def aOR (n:Net) (p:Plan) (c o:Int) (k:Nat):List Int:=(List.range k).flatMap fun d:Nat=>aAC n p c o (d:Int)
def aOI (n:Net) (p:Plan) (c:Int) (k:Nat):List Int:=(List.range k).flatMap fun o:Nat=>aOR n p c (o:Int) ((p.2.2.2.getD c.toNat []).getD o []).length
def aJl (n:Net) (p:Plan) (k:Nat):List Int:=(List.range k).flatMap fun c:Nat=>aOI n p (c:Int) (p.2.2.2.getD c []).length
def aAD (n:Net) (p:Plan) (c o d:Int):Int:=if qV p c o d=-1 then 0 else mZ n p c o d
def aOS (n:Net) (p:Plan) (c o:Int) (k:Nat):Int:=aIJ ((List.range k).map fun d:Nat=>aAD n p c o (d:Int))
def aMQ (n:Net) (p:Plan) (c:Int) (k:Nat):Int:=aIJ ((List.range k).map fun o:Nat=>aOS n p c (o:Int) ((p.2.2.2.getD c.toNat []).getD o []).length)
def aHS (n:Net) (p:Plan) (k:Nat):Int:=aIJ ((List.range k).map fun c:Nat=>aMQ n p (c:Int) (p.2.2.2.getD c []).length)
def pW (n:Net) (p:Plan):List Int:=hdN n p ++ aJl n p p.2.2.2.length
def k1N (n:Net) (p:Plan) (c:Int):List Int:=hdN n p ++ aJl n p c.toNat
def k2N (n:Net) (p:Plan) (c o:Int):List Int:=k1N n p c ++ aOI n p c o.toNat
def k3N (n:Net) (p:Plan) (c o d:Int):List Int:=k2N n p c o ++ aOR n p c o d.toNat
def wrE (n:Net) (p:Plan):Int:=if zW n=true∧sH n p=true then if aHS n p p.2.2.2.length≠0 then aHS n p p.2.2.2.length else if (pW n p).length > 40000 then 2 else 0 else 1
def wrN (n:Net) (p:Plan):List Int:=if wrE n p=0 then pW n p else []
def wrS (n:Net) (p:Plan):Int:=if wrE n p=0 then Go.Eng.In.bZ (pW n p) else 0
def tA (n:Net) (p:Plan) (k:Int):Prop:=qX n p∧0≤k∧k≤p.2.2.1.length
def tB (n:Net) (p:Plan) (i:Int):Prop:=qX n p∧0≤i∧i≤p.2.2.2.length
def tC (n:Net) (p:Plan) (i j:Int):Prop:=(qX n p∧0≤i∧i < p.2.2.2.length)∧0≤j∧j≤(p.2.2.2.getD i.toNat []).length
def t1 (n:Net) (p:Plan) (c:Int):Prop:=tB n p c∧aHS n p c.toNat=0
def t2 (n:Net) (p:Plan) (c o:Int):Prop:=tC n p c o∧aHS n p c.toNat=0∧aMQ n p c o.toNat=0
def t3 (n:Net) (p:Plan) (c o d:Int):Prop:=((tC n p c o∧o < (p.2.2.2.getD c.toNat []).length)∧0≤d∧d≤((p.2.2.2.getD c.toNat []).getD o.toNat []).length)∧aHS n p c.toNat=0∧aMQ n p c o.toNat=0∧aOS n p c o d.toNat=0
def aTi (l:List Nat) (s:St):St:={ s with tm:=(List.range s.tm.length).map fun i=>if l.contains i then aSF (s.tm.getD i .top) else .top }
def aRI (s:St) (l:List Nat) (n:Net) (p:Plan) (sl:List (Tmp×AV)) (xs:List Int):St:=aAd (aAd (put (aTi ([2,3,4,5,6] ++ l) s) sl) 2 (.var (wHd n p (.buf 3 (D.len xs))))) 3 (.buf 3 I xs [])
def wrA (n:Net) (p:Plan):Ann:=⟨fun id s=>match id with
 | 7=>some { α:=Int,inv:=fun j=>tA n p j,st:=fun j=>aRI s [53,54] n p [(55,.dat I j)] (h1N n p j),μ:=fun j=>D.nat (D.sub (D.ilen p.2.2.1) j) }
 | 12=>some { α:=Int,inv:=fun j=>tB n p j,st:=fun j=>aRI s [64,65] n p [(66,.dat I j)] (h2N n p j),μ:=fun j=>D.nat (D.sub (D.ilen p.2.2.2) j) }
 | 15=>match s.sig.T 66,s.sig.T 70 with
  | .dat (.int .i64) i,.dat (.sl (.sl (.int .i64))) t=>some { α:=Int,inv:=fun j=>tC n p i j,st:=fun j=>aRI s [64,65,66,70,71] n p [(72,.dat I j)] (h3N n p i j),μ:=fun j=>D.nat (D.sub (D.ilen t) j) }
  | _,_=>none
 | 21=>some { α:=Int,inv:=fun j=>t1 n p j,st:=fun j=>aRI s [82,83] n p [(84,.dat I j)] (k1N n p j),μ:=fun j=>D.nat (D.sub (D.ilen p.2.2.2) j) }
 | 24=>match s.sig.T 84,s.sig.T 89 with
  | .dat (.int .i64) c,.dat (.sl (.sl (.int .i64))) t=>some { α:=Int,inv:=fun j=>t2 n p c j,st:=fun j=>aRI s [82,83,84,13,89,90] n p [(91,.dat I j)] (k2N n p c j),μ:=fun j=>D.nat (D.sub (D.ilen t) j) }
  | _,_=>none
 | 27=>match s.sig.T 84,s.sig.T 91,s.sig.T 96 with
  | .dat (.int .i64) c,.dat (.int .i64) o,.dat (.sl (.int .i64)) t=>some { α:=Int,inv:=fun j=>t3 n p c o j,st:=fun j=>aRI s [82,83,84,13,89,90,91,15,96,97] n p [(98,.dat I j)] (k3N n p c o j),μ:=fun j=>D.nat (D.sub (D.ilen t) j) }
  | _,_,_=>none
 | _=>none,fun id s=>match id with
 | 5=>some (aAd (aAd (aTi [2,3,4,5,6] s) 2 (.var (wHd n p (.buf 3 0)))) 3 (.buf 3 I [] []))
 | 36=>some (frz [3] s)
 | _=>none,fun _ _=>none⟩
def KW7:Kt:=kOr 54 (wK [.mp 2,.val I,.val I,.val I] (fun (_,c,o,d,_) n p k xs=>vI n p c o d k xs∧isZero (mZ n p c o d)=true) (fun _ _ _=>.tup []) fun (_,c,o,d,_) n p=>keepA n p c o d) <|
 kOr 51 (bD [.ptr N,.ptr Pl] (fun (_,p,_)=>aBV p) fun (n,p,_)=>.dat .bool (sH n p)) <|
 kOr 49 aRj <|
 kOr 19 (bD [.val R] (fun (l,_)=>Go.Eng.In.qA l) fun (l,_)=>.dat I (Go.Eng.In.bZ l)) KW5
def aV5:KPt:=pOr 54 (wP [.mp 2,.val I,.val I,.val I] fun (_,c,o,d,_) n p k xs=>⟨vI n p c o d k xs,isZero (mZ n p c o d),aN4 39 (mZ n p c o d)⟩) aVL
def cWr:Cfg:=mkp KW7 (fun t=>t == 32) aV5 (fun f=>f == 54)
set_option maxHeartbeats 4000000 in
theorem aL7 (cs:LC) (ns os:LB) (fs:List Off) (ls:List Line) (ks:List Cla) (p1 p2:Int) (nx:List (List Int)) (dy:List (List (List Int))) (hvc :
 let c1:=(p1,p2,nx,dy);
 let c2:=(cs,ns,os,fs,ls,ks);
 let c3:=D.gt (D.ilen (oO c2)) (0:Int);
 let c4:=D.not c3;
 let c5:=D.cnd c3 true (D.not (sH c2 c1));
 let c6:=wrN c2 c1;
 let c7:=wrS c2 c1;
 let c8:=wrE c2 c1;
 let c9:=[p1,p2,D.ilen fs,D.ilen ks];
 let c10:=D.app (D.nil Int) c9;
 let c11:=D.ilen dy;(false=false∧true=true)∧(aBV c1→true=true∧True∧(c4=true→aBV c1)∧(c4=true→c4=true→c4=true)∧(D.and
 true c4=true→c4=true)∧(c5=true→(true=true→True∧(false=false→true=true∧true=true∧(D.not false=true→True∧1=1∧0=0∧1 =
 1∧0=0∧1=1∧0=0∧1=1∧0=0∧c6=D.nil Int∧(0:Int)=c7∧(1:Int)=c8∧True)∧(D.not false=false→1=1∧0=0∧1=1∧0=0 ∧
 c6=D.nil Int∧(0:Int)=c7∧(0:Int)=c8∧True)))∧True)∧(c5=false→c2=c2∧c1=c1∧1=1∧0=0∧0=0∧1=1∧0=0∧0=0∧1=1 ∧
 0=0∧0=0∧Value.slice none (0) (0)=Value.slice none (0) (0)∧(0:Int)=(0:Int)∧(0:Int)=(0:Int)∧cs=cs∧ns=ns∧os=os∧fs=fs ∧
 ls=ls∧ks=ks∧p1=p1∧p2=p2∧nx=nx∧dy=dy∧0=0∧D.nil Int=D.nil Int∧D.nil Int=D.nil Int∧1=1∧0=0∧0=0∧1=1∧0=0∧0 =
 0∧1=1∧1=1∧1=1∧1=1∧0=0∧1=1∧1=1∧1=1∧1=1∧0=0∧(aRF (D.nil Int) (0)∧aHX (D.nil Int) c9)∧1=1∧D.nle (D.len (D.nil
 Int)) (D.len c10)∧(∃ x,tA c2 c1 x∧c2=c2∧c1=c1∧1=1∧0=0∧0=0∧1=1∧0=0∧0=0∧1=1∧0=0∧0=0∧nx=nx∧D.ilen nx=D.ilen
 nx∧(0:Int)=x∧Value.slice none (0) (0)=Value.slice none (0) (0)∧(0:Int)=(0:Int)∧(0:Int)=(0:Int)∧cs=cs∧ns=ns∧os=os∧fs =
 fs∧ls=ls∧ks=ks∧p1=p1∧p2=p2∧nx=nx∧dy=dy∧D.fE (0) (D.len c9)=D.len (h1N c2 c1 x)∧c10=h1N c2 c1 x∧1=1∧0=0∧0=0∧1 =
 1∧0=0∧0=0∧True)∧∀ (x:Int),
 let c12:=D.lt x (D.ilen nx);
 let c13:=D.get nx (D.nat x) (D.nil Int);
 let c14:=D.len (h1N c2 c1 x);
 let c15:=upR c13 (1:Int) (D.ilen c13);
 let c16:=D.app (h1N c2 c1 x) c15;
 let c17:=D.add x (1:Int);tA c2 c1 x→(c12=true→D.ile (0:Int) x∧D.ilt x (D.ilen nx)∧rsP (1:Int) c13 (h1N c2 c1 x) c14∧1=1∧D.nle c14
 (D.len c16)∧inR IntKind.i64 c17∧∃ y,tA c2 c1 y∧(c2=c2∧c1=c1∧1=1∧0=0∧0=0∧1=1∧0=0∧0=0∧1=1∧0=0∧0=0∧nx=nx ∧
 D.ilen nx=D.ilen nx∧c17=y∧Value.slice none (0) (0)=Value.slice none (0) (0)∧(0:Int)=(0:Int)∧(0:Int)=(0:Int)∧cs=cs∧ns=ns∧os
 = os∧fs=fs∧ls=ls∧ks=ks∧p1=p1∧p2=p2∧nx=nx∧dy=dy∧D.fE c14 (D.len c15)=D.len (h1N c2 c1 y)∧c16=h1N c2 c1 y∧1=1∧0=0 ∧
 0=0∧1=1∧0=0∧0=0∧True)∧D.nlt (D.nat (D.sub (D.ilen nx) y)) (D.nat (D.sub (D.ilen nx) x)))∧(c12=false→(∃ x_3,tB c2 c1 x_3∧c2=c2∧c1
 = c1∧1=1∧0=0∧0=0∧1=1∧0=0∧0=0∧1=1∧0=0∧0=0∧dy=dy∧c11=c11∧(0:Int)=x_3∧Value.slice none (0) (0)=Value.slice
 none (0) (0)∧(0:Int)=(0:Int)∧(0:Int)=(0:Int)∧cs=cs∧ns=ns∧os=os∧fs=fs∧ls=ls∧ks=ks∧p1=p1∧p2=p2∧nx=nx∧dy =
 dy∧c14=D.len (h2N c2 c1 x_3)∧h1N c2 c1 x=h2N c2 c1 x_3∧1=1∧0=0∧0=0∧1=1∧0=0∧0=0∧True)∧∀ (x:Int),
 let c18:=D.get dy (D.nat x) (D.nil (List Int));
 let c19:=D.ilen c18;
 let c20:=D.len (h2N c2 c1 x);
 let c21:=D.add x (1:Int);tB c2 c1 x→(D.lt x c11=true→D.ile (0:Int) x∧D.ilt x c11∧(∃ x_5,
 let c22:=h3N c2 c1 x x_5;tC c2 c1 x x_5∧c2=c2∧c1=c1∧1=1∧0=0∧0=0∧1=1∧0=0∧0=0∧1=1∧0=0∧0=0∧dy=dy∧c11=c11∧x
 = x∧c18=c18∧c19=c19∧(0:Int)=x_5∧Value.slice none (0) (0)=Value.slice none (0) (0)∧(0:Int)=(0:Int)∧(0:Int)=(0:Int)∧cs=cs ∧
 ns=ns∧os=os∧fs=fs∧ls=ls∧ks=ks∧p1=p1∧p2=p2∧nx=nx∧dy=dy∧c20=D.len c22∧h2N c2 c1 x=c22∧1=1∧0=0∧0=0∧1=1 ∧
 0=0∧0=0∧True)∧∀ (x_5:Int),
 let c23:=D.get c18 (D.nat x_5) (D.nil Int);
 let c24:=h3N c2 c1 x x_5;
 let c25:=D.len c24;
 let c26:=upR c23 (1:Int) (D.ilen c23);
 let c27:=D.app c24 c26;
 let c28:=D.add x_5 (1:Int);tC c2 c1 x x_5→(D.lt x_5 c19=true→D.ile (0:Int) x_5∧D.ilt x_5 c19∧rsP (1:Int) c23 c24 c25∧1=1∧D.nle c25
 (D.len c27)∧inR IntKind.i64 c28∧∃ y,
 let c29:=h3N c2 c1 x y;tC c2 c1 x y∧(c2=c2∧c1=c1∧1=1∧0=0∧0=0∧1=1∧0=0∧0=0∧1=1∧0=0∧0=0∧dy=dy∧c11=c11∧x =
 x∧c18=c18∧c19=c19∧c28=y∧Value.slice none (0) (0)=Value.slice none (0) (0)∧(0:Int)=(0:Int)∧(0:Int)=(0:Int)∧cs=cs∧ns=ns ∧
 os=os∧fs=fs∧ls=ls∧ks=ks∧p1=p1∧p2=p2∧nx=nx∧dy=dy∧D.fE c25 (D.len c26)=D.len c29∧c27=c29∧1=1∧0=0∧0=0∧1=1
 ∧ 0=0∧0=0∧True)∧D.nlt (D.nat (D.sub c19 y)) (D.nat (D.sub c19 x_5)))∧(D.lt x_5 c19=false→inR IntKind.i64 c21∧∃ y,tB c2 c1 y∧(c2=c2∧c1
 = c1∧1=1∧0=0∧0=0∧1=1∧0=0∧0=0∧1=1∧0=0∧0=0∧dy=dy∧c11=c11∧c21=y∧Value.slice none (0) (0)=Value.slice none (0)
 (0)∧(0:Int)=(0:Int)∧(0:Int)=(0:Int)∧cs=cs∧ns=ns∧os=os∧fs=fs∧ls=ls∧ks=ks∧p1=p1∧p2=p2∧nx=nx∧dy=dy∧c25 =
 D.len (h2N c2 c1 y)∧c24=h2N c2 c1 y∧1=1∧0=0∧0=0∧1=1∧0=0∧0=0∧True)∧D.nlt (D.nat (D.sub c11 y)) (D.nat (D.sub c11 x))))∧(D.lt x
 c11=false→(∃ x_5,t1 c2 c1 x_5∧c2=c2∧c1=c1∧1=1∧0=0∧0=0∧1=1∧0=0∧0=0∧1=1∧0=0∧0=0∧dy=dy∧c11=c11∧(0 :
 Int)=x_5∧Value.slice none (0) (0)=Value.slice none (0) (0)∧(0:Int)=(0:Int)∧(0:Int)=(0:Int)∧cs=cs∧ns=ns∧os=os∧fs=fs∧ls =
 ls∧ks=ks∧p1=p1∧p2=p2∧nx=nx∧dy=dy∧c20=D.len (k1N c2 c1 x_5)∧h2N c2 c1 x=k1N c2 c1 x_5∧1=1∧0=0∧0=0∧1=1∧0=0∧0 =
 0∧True)∧∀ (x:Int),
 let c30:=D.get dy (D.nat x) (D.nil (List Int));
 let c31:=D.ilen c30;
 let c32:=D.len (k1N c2 c1 x);
 let c33:=D.add x (1:Int);
 let c34:=Int.ofNat c32;
 let c35:=D.gt c34 (40000:Int);t1 c2 c1 x→(D.lt x c11=true→D.ile (0:Int) x∧D.ilt x c11∧(∃ x_7,
 let c36:=k2N c2 c1 x x_7;t2 c2 c1 x x_7∧c2=c2∧c1=c1∧1=1∧0=0∧0=0∧1=1∧0=0∧0=0∧1=1∧0=0∧0=0∧x=x∧dy=dy∧c11 =
 c11∧x=x∧c30=c30∧c31=c31∧(0:Int)=x_7∧Value.slice none (0) (0)=Value.slice none (0) (0)∧(0:Int)=(0:Int)∧(0:Int)=(0:Int) ∧
 cs=cs∧ns=ns∧os=os∧fs=fs∧ls=ls∧ks=ks∧p1=p1∧p2=p2∧nx=nx∧dy=dy∧c32=D.len c36∧k1N c2 c1 x=c36∧1=1∧0=0∧0=0
 ∧ 1=1∧0=0∧0=0∧True)∧∀ (x_7:Int),
 let c37:=D.get c30 (D.nat x_7) (D.nil Int);
 let c38:=D.ilen c37;
 let c39:=k2N c2 c1 x x_7;
 let c40:=D.len c39;
 let c41:=D.add x_7 (1:Int);t2 c2 c1 x x_7→(D.lt x_7 c31=true→D.ile (0:Int) x_7∧D.ilt x_7 c31∧(∃ x_10,
 let c42:=k3N c2 c1 x x_7 x_10;t3 c2 c1 x x_7 x_10∧c2=c2∧c1=c1∧1=1∧0=0∧0=0∧1=1∧0=0∧0=0∧1=1∧0=0∧0=0∧x=x∧x_7 =
 x_7∧dy=dy∧c11=c11∧x=x∧c30=c30∧c31=c31∧x_7=x_7∧c37=c37∧c38=c38∧(0:Int)=x_10∧Value.slice none (0) (0)=Value.slice none
 (0) (0)∧(0:Int)=(0:Int)∧(0:Int)=(0:Int)∧cs=cs∧ns=ns∧os=os∧fs=fs∧ls=ls∧ks=ks∧p1=p1∧p2=p2∧nx=nx∧dy=dy ∧
 c40=D.len c42∧c39=c42∧1=1∧0=0∧0=0∧1=1∧0=0∧0=0∧True)∧∀ (x_10:Int),
 let c43:=D.ne (D.get c37 (D.nat x_10) (0:Int)) (-1:Int);
 let c44:=k3N c2 c1 x x_7 x_10;
 let c45:=D.len c44;
 let c46:=mZ c2 c1 x x_7 x_10;
 let c47:=isZero c46;
 let c48:=keepA c2 c1 x x_7 x_10;
 let c49:=D.app c44 c48;
 let c50:=D.add x_10 (1:Int);t3 c2 c1 x x_7 x_10→(D.lt x_10 c38=true→D.ile (0:Int) x_10∧D.ilt x_10 c38∧(c43=true→(true=true→vI c2 c1
 x x_7 x_10 c45 c44∧(c47=false→true=true∧true=true∧(D.not false=true→True∧1=1∧0=0∧1=1∧0=0∧1=1∧0=0∧1=1∧0=0∧c6
 = D.nil Int∧(0:Int)=c7∧c46=c8∧True)∧(D.not false=false→1=1∧0=0∧1=1∧0=0∧c6=D.nil Int∧(0:Int)=c7∧(0:Int)=c8 ∧
 True)))∧((true=true→c47=true)→(vI c2 c1 x x_7 x_10 c45 c44∧c47=true)∧1=1∧D.nle c45 (D.len c49)∧inR IntKind.i64 c50∧∃ y,
 let c51:=k3N c2 c1 x x_7 y;t3 c2 c1 x x_7 y∧(c2=c2∧c1=c1∧1=1∧0=0∧0=0∧1=1∧0=0∧0=0∧1=1∧0=0∧0=0∧x=x∧x_7=x_7
 ∧ dy=dy∧c11=c11∧x=x∧c30=c30∧c31=c31∧x_7=x_7∧c37=c37∧c38=c38∧c50=y∧Value.slice none (0) (0)=Value.slice none (0) (0)∧(0
 : Int)=(0:Int)∧(0:Int)=(0:Int)∧cs=cs∧ns=ns∧os=os∧fs=fs∧ls=ls∧ks=ks∧p1=p1∧p2=p2∧nx=nx∧dy=dy∧D.fE c45
 (D.len c48)=D.len c51∧c49=c51∧1=1∧0=0∧0=0∧1=1∧0=0∧0=0∧True)∧D.nlt (D.nat (D.sub c38 y)) (D.nat (D.sub c38 x_10))))∧(c43 =
 false→inR IntKind.i64 c50∧∃ y,
 let c52:=k3N c2 c1 x x_7 y;t3 c2 c1 x x_7 y∧(c2=c2∧c1=c1∧1=1∧0=0∧0=0∧1=1∧0=0∧0=0∧1=1∧0=0∧0=0∧x=x∧x_7=x_7
 ∧ dy=dy∧c11=c11∧x=x∧c30=c30∧c31=c31∧x_7=x_7∧c37=c37∧c38=c38∧c50=y∧Value.slice none (0) (0)=Value.slice none (0) (0)∧(0
 : Int)=(0:Int)∧(0:Int)=(0:Int)∧cs=cs∧ns=ns∧os=os∧fs=fs∧ls=ls∧ks=ks∧p1=p1∧p2=p2∧nx=nx∧dy=dy∧c45=D.len
 c52∧c44=c52∧1=1∧0=0∧0=0∧1=1∧0=0∧0=0∧True)∧D.nlt (D.nat (D.sub c38 y)) (D.nat (D.sub c38 x_10))))∧(D.lt x_10 c38=false→inR
 IntKind.i64 c41∧∃ y,
 let c53:=k2N c2 c1 x y;t2 c2 c1 x y∧(c2=c2∧c1=c1∧1=1∧0=0∧0=0∧1=1∧0=0∧0=0∧1=1∧0=0∧0=0∧x=x∧dy=dy∧c11 =
 c11∧x=x∧c30=c30∧c31=c31∧c41=y∧Value.slice none (0) (0)=Value.slice none (0) (0)∧(0:Int)=(0:Int)∧(0:Int)=(0:Int)∧cs=cs ∧
 ns=ns∧os=os∧fs=fs∧ls=ls∧ks=ks∧p1=p1∧p2=p2∧nx=nx∧dy=dy∧c45=D.len c53∧c44=c53∧1=1∧0=0∧0=0∧1=1∧0=0 ∧
 0=0∧True)∧D.nlt (D.nat (D.sub c31 y)) (D.nat (D.sub c31 x_7))))∧(D.lt x_7 c31=false→inR IntKind.i64 c33∧∃ y,t1 c2 c1 y∧(c2=c2∧c1=c1∧1
 = 1∧0=0∧0=0∧1=1∧0=0∧0=0∧1=1∧0=0∧0=0∧dy=dy∧c11=c11∧c33=y∧Value.slice none (0) (0)=Value.slice none (0) (0)∧(0
 : Int)=(0:Int)∧(0:Int)=(0:Int)∧cs=cs∧ns=ns∧os=os∧fs=fs∧ls=ls∧ks=ks∧p1=p1∧p2=p2∧nx=nx∧dy=dy∧c40=D.len
 (k1N c2 c1 y)∧c39=k1N c2 c1 y∧1=1∧0=0∧0=0∧1=1∧0=0∧0=0∧True)∧D.nlt (D.nat (D.sub c11 y)) (D.nat (D.sub c11 x))))∧(D.lt x c11 =
 false→1=1∧1=1∧1=1∧0=0∧c32=c32∧(c35=true→(true=true→True∧(false=false→true=true∧true=true∧(D.not false=true→True
 ∧ 1=1∧0=0∧1=1∧0=0∧1=1∧0=0∧1=1∧0=0∧c6=D.nil Int∧(0:Int)=c7∧(2:Int)=c8∧True)∧(D.not false=false→1=1∧0 =
 0∧1=1∧0=0∧c6=D.nil Int∧(0:Int)=c7∧(0:Int)=c8∧True)))∧True)∧(c35=false→c2=c2∧c1=c1∧1=1∧0=0∧0=0∧1=1∧0 =
 0∧0=0∧1=1∧0=0∧0=0∧dy=dy∧c11=c11∧x=x∧D.lt x c11=D.lt x c11∧1=1∧0=0∧0=0∧1=1∧0=0∧0=0∧1=1∧0=0∧10
 = 10∧c32=c32∧k1N c2 c1 x=k1N c2 c1 x∧c34=c34∧c35=c35∧Value.slice none (0) (0)=Value.slice none (0) (0)∧(0:Int)=(0:Int)∧(0:Int)
 = (0:Int)∧cs=cs∧ns=ns∧os=os∧fs=fs∧ls=ls∧ks=ks∧p1=p1∧p2=p2∧nx=nx∧dy=dy∧c32=c32∧k1N c2 c1 x=k1N c2 c1 x∧1=1
 ∧ 0=0∧0=0∧1=1∧0=0∧0=0∧1=1∧1=1∧1=1∧0=0∧1=1∧1=1∧1=1∧0=0∧In.qA (k1N c2 c1 x)∧1=1∧0=0∧1=1∧0=0
 ∧ true=true∧true=true∧(D.not true=true→False)∧(D.not true=false→1=1∧0=0∧1=1∧0=0∧k1N c2 c1 x=c6∧In.bZ (k1N c2 c1 x) =
 c7∧(0:Int)=c8∧True)))))))) :
  evG cWr (wrA (cs,ns,os,fs,ls,ks) (p1,p2,nx,dy)) bF 16 [net cs ns os fs ls ks,.agg [.dat I p1,.dat I p2,.dat M nx,.dat (.sl M) dy]] ⟨aBV (p1,p2,nx,dy),.tup [.agg [.dat R (wrN (cs,ns,os,fs,ls,ks) (p1,p2,nx,dy)),.dat I (wrS (cs,ns,os,fs,ls,ks) (p1,p2,nx,dy))],.dat I (wrE (cs,ns,os,fs,ls,ks) (p1,p2,nx,dy))],[]⟩:=@of_eq _ _ (by kernel_rfl) hvc
theorem aLk:∀ args m c,aRj args m=some c→aC Tryz.prog G0 49 args m c:=by
 intro args m c h
 unfold aRj at h
 split at h
 ·split at h
  ·rename_i e;subst e;cases h;exact aP2 _
  ·cases h
 ·cases h
theorem aQ6 {P:Program} {G:List (Nat×AV)} {f:FuncId} {args:List AV} {m:Mem} {c:pF} (h:aC P [] f args m c):aC P G f args m c :=
 fun hp w D E us hD _ ha hH=>h hp w D E us hD (fun p hp=>by cases hp) ha hH
theorem aWn:aQ Tryz.prog G0 KW7:=aJ (aL5 fun (_,c,o,d,_) n p k xs=>(aJM c o d k xs n p).1) <| aJ (aG fun (n,p,_)=>aPZ n p) <| aJ aLk <| aJ (aG fun (l,_)=>aQ6 (Go.Eng.In.aJK l)) aVZ
theorem aRx:fB Tryz.prog G0 aV5:=rW (aRX fun (_,c,o,d,_) n p k xs=>(aJM c o d k xs n p).2) aLK
theorem aAV {α:Type} {l:List α} {f:α→List Int} {x:Int} (d:α) (h0:0≤x) (h1:x < l.length):(l.take (x + 1).toNat).flatMap f=(l.take x.toNat).flatMap f ++ f (l.getD x.toNat d):=by
 rw [show (x + 1).toNat=x.toNat + 1 by omega,List.take_add_one,List.flatMap_append,List.getD_eq_getElem?_getD,List.getElem?_eq_getElem (show x.toNat < l.length by omega)]
 simp
theorem yO {f:Nat→List Int} {x:Int} (h0:0≤x):(List.range (x + 1).toNat).flatMap f=(List.range x.toNat).flatMap f ++ f x.toNat:=by
 rw [show (x + 1).toNat=x.toNat + 1 by omega,List.range_succ,List.flatMap_append]
 simp
theorem aBP {f:Nat→Int} {x:Int} (h0:0≤x) (h:aIJ ((List.range x.toNat).map f)=0) (h1:f x.toNat=0):aIJ ((List.range (x + 1).toNat).map f)=0:=by
 refine aFe fun i hi=>?_
 rw [List.length_map,List.length_range] at hi
 rw [List.getD_eq_getElem?_getD,List.getElem?_map,List.getElem?_range hi]
 show f i=0
 by_cases e:i < x.toNat
 ·exact jP h _ (List.mem_map.2 ⟨i,List.mem_range.2 e,rfl⟩)
 ·have:i=x.toNat:=by omega
  rw [this];exact h1
theorem aDF {f:Nat→Int} {k N:Nat} (hk:k < N) (h:aIJ ((List.range k).map f)=0) (h1:f k≠0):aIJ ((List.range N).map f)=f k:=by
 have eg:∀ i,i < N→((List.range N).map f).getD i 0=f i:=fun i hi=>by
  rw [List.getD_eq_getElem?_getD,List.getElem?_map,List.getElem?_range hi];rfl
 rw [aGA (j:=k) (by simpa using hk) (fun i hi=>by rw [eg i (by omega)];exact jP h _ (List.mem_map.2 ⟨i,List.mem_range.2 hi,rfl⟩)) (by rw [eg k hk];exact h1),eg k hk]
theorem uP {α:Type} {f:α→List Int} {B:Nat}:∀ {l:List α},(∀ x ∈ l,(f x).length≤B)→(l.flatMap f).length≤l.length * B
 | [],_=>by simp
 | a :: l,h=>by
  have:=uP (l:=l) fun x hx=>h x (List.mem_cons_of_mem _ hx)
  have:=h a (List.mem_cons_self ..)
  rw [List.flatMap_cons,List.length_append,List.length_cons,Nat.succ_mul]
  omega
theorem aAT (r:List Int):(up1 r).length=r.length:=by unfold up1 upR;simp
structure aUg (n:Net) (p:Plan):Prop where
 m:n.2.2.2.1.length≤12
 q:n.2.2.2.2.2.length≤4
 nl:p.2.2.1.length=n.2.2.2.1.length
 nr:∀ r ∈ p.2.2.1,r.length=n.2.2.2.1.length∧∀ x ∈ r,-1≤x∧x≤40
 dl:p.2.2.2.length=n.2.2.2.2.2.length
 dr:∀ t ∈ p.2.2.2,t.length=n.2.2.2.1.length∧∀ r ∈ t,r.length=n.2.2.2.1.length∧∀ x ∈ r,-1≤x∧x≤65518
theorem aBh {n:Net} {p:Plan} (h:qX n p):aUg n p:=by
 obtain ⟨hs,hf⟩:=h
 obtain ⟨_,hT,hD⟩:=jC hf
 have hno:noF n=true:=kG n.1 n.2.1 n.2.2.1 n.2.2.2.1 n.2.2.2.2.1 n.2.2.2.2.2 hs
 have o12:(n.2.2.2.1.length:Int)≤12:=(aDn n.1 n.2.1 n.2.2.1 n.2.2.2.1 n.2.2.2.2.1 n.2.2.2.2.2 hno).1
 have l40:(n.2.2.2.2.1.length:Int)≤40:=(aBq n.1 n.2.1 n.2.2.1 n.2.2.2.1 n.2.2.2.2.1 n.2.2.2.2.2 hno).1
 have c4:(n.2.2.2.2.2.length:Int)≤4:=((qB (by decide) (fun l:Cla=>l.1) lM n.2.2.2.2.2).1 (pX n.1 n.2.1 n.2.2.1 n.2.2.2.1 n.2.2.2.2.1 n.2.2.2.2.2 hno).2.2.2.2.2).1
 have hl:(p.2.2.1.length:Int)=n.2.2.2.1.length:=by
  unfold aLQ at hT;simp only [Bool.and_eq_true,decide_eq_true_eq] at hT;exact hT.1
 unfold aFm at hD
 simp only [Bool.and_eq_true,decide_eq_true_eq,List.all_eq_true] at hD
 refine ⟨by omega,by omega,by omega,fun r hr=>?_,by omega,fun t ht=>?_⟩
 ·obtain ⟨i,hi,rfl⟩:=List.mem_iff_getElem.1 hr
  have h1:=(aFT (n:=n) hl).1 hT i (by omega)
  rw [List.getD_eq_getElem?_getD,List.getElem?_eq_getElem hi,Option.getD_some] at h1
  unfold rowOk at h1
  simp only [Bool.and_eq_true,decide_eq_true_eq,List.all_eq_true] at h1
  refine ⟨by omega,fun x hx=>?_⟩
  have h2:=h1.2 x hx
  unfold gX mW at h2
  simp only [Bool.or_eq_true,Bool.and_eq_true,decide_eq_true_eq] at h2
  omega
 ·have h1:=hD.2 t ht
  have h2:(t.length:Int)=n.2.2.2.1.length:=by
   unfold sgF at h1;simp only [Bool.and_eq_true,decide_eq_true_eq] at h1;exact h1.1
  refine ⟨by omega,fun r hr=>?_⟩
  obtain ⟨i,hi,rfl⟩:=List.mem_iff_getElem.1 hr
  have h3:=(aEq h2).1 h1 i (by omega)
  rw [List.getD_eq_getElem?_getD,List.getElem?_eq_getElem hi,Option.getD_some] at h3
  unfold sgR at h3
  simp only [Bool.and_eq_true,decide_eq_true_eq,List.all_eq_true] at h3
  refine ⟨by omega,fun x hx=>?_⟩
  have h4:=h3.2 x hx
  unfold yH aDP at h4
  rw [decide_eq_true_eq] at h4
  exact h4
theorem aDf {m:Nat} (hm:m≤12) {l:List (List Int)} (hl:l.length≤12) (h:∀ r ∈ l,r.length=m):(l.flatMap up1).length≤144:=by
 have h1:=uP (l:=l) (f:=up1) (B:=12) fun r hr=>by rw [aAT,h r hr];exact hm
 have:=Nat.mul_le_mul_right 12 hl
 omega
theorem aO8 {n:Net} {p:Plan} (h:aUg n p) (j:Int):(h1N n p j).length≤148:=by
 have:=aDf h.m (l:=p.2.2.1.take j.toNat) (by rw [List.length_take,h.nl];have:=h.m;omega) fun r hr=>(h.nr r (List.mem_of_mem_take hr)).1
 unfold h1N h4N
 rw [List.length_append]
 simp only [List.length_cons,List.length_nil]
 omega
theorem aO7 {n:Net} {p:Plan} (h:aUg n p) (i:Int):(h2N n p i).length≤724:=by
 have h0:=aO8 h p.2.2.1.length
 have h1:=uP (l:=p.2.2.2.take i.toNat) (f:=fun t:List (List Int)=>t.flatMap up1) (B:=144) fun t ht=>by
  obtain ⟨q1,q2⟩:=h.dr t (List.mem_of_mem_take ht)
  exact aDf h.m (by rw [q1];exact h.m) fun r hr=>(q2 r hr).1
 have h2:(p.2.2.2.take i.toNat).length≤4:=by rw [List.length_take,h.dl];have:=h.q;omega
 have:=Nat.mul_le_mul_right 144 h2
 unfold h2N
 rw [List.length_append]
 omega
theorem aTt {n:Net} {p:Plan} (h:aUg n p) {i:Int} (j:Int) (h0:0≤i) (h1:i < p.2.2.2.length):(h3N n p i j).length≤868:=by
 have h2:=aO7 h i
 obtain ⟨q1,q2⟩:=h.dr _ (getD_mem (l:=p.2.2.2) (i:=i.toNat) (d:=[]) (by omega))
 have:=aDf h.m (l:=(p.2.2.2.getD i.toNat []).take j.toNat) (by rw [List.length_take,q1];have:=h.m;omega) fun r hr=>(q2 r (List.mem_of_mem_take hr)).1
 unfold h3N
 rw [List.length_append]
 omega
theorem aBE {n:Net} {p:Plan} {c o d:Int} (h:mZ n p c o d=0):∀ x ∈ oZ n p c o,aFq n p c o d x=0:=fun x hx=>jP h _ (List.mem_map.2 ⟨x,hx,rfl⟩)
theorem aOm {n:Net} {p:Plan} {c o d:Int} (hp:qX n p) (hc:aJj n c) (ho:0≤o∧o < n.2.2.2.1.length) (hd:0≤d∧d < n.2.2.2.1.length) (h:aAD n p c o d=0):(aAC n p c o d).length≤1641619:=by
 unfold aAD at h
 unfold aAC
 split
 ·exact Nat.zero_le _
 ·rename_i hne
  rw [if_neg hne] at h
  have hno:noF n=true:=kG n.1 n.2.1 n.2.2.1 n.2.2.2.1 n.2.2.2.2.1 n.2.2.2.2.2 hp.1
  have hcp:sN n p c o:=⟨⟨hno,ho⟩,hc,(jC hp.2).1⟩
  have:=aBF (n:=n) (p:=p) (c:=c) (o:=o) (d:=d) (k:=0) (xs:=[]) (j:=(oZ n p c o).length) ⟨⟨⟨hp,hc,⟨hno,ho⟩,⟨hno,hd⟩⟩,rfl,Nat.zero_le _⟩,Nat.le_refl _,fun i hi=>aBE h _ (getD_mem hi)⟩
  have h2:=aLg hcp
  unfold keepA
  omega
theorem aKh {n:Net} {p:Plan} {c o:Int} {k:Nat} (hp:qX n p) (hc:aJj n c) (ho:0≤o∧o < n.2.2.2.1.length) (hk:k≤n.2.2.2.1.length) (h:aOS n p c o k=0):(aOR n p c o k).length≤19699428:=by
 have hs:=(aBh hp).m
 have h1:=uP (l:=List.range k) (f:=fun d:Nat=>aAC n p c o (d:Int)) (B:=1641619) fun d hd=>by
  have hd:=List.mem_range.1 hd
  exact aOm hp hc ho ⟨by omega,by omega⟩ (jP h _ (List.mem_map.2 ⟨d,List.mem_range.2 hd,rfl⟩))
 rw [List.length_range] at h1
 have:=Nat.mul_le_mul_right 1641619 (show k≤12 by omega)
 unfold aOR
 omega
theorem aUw {n:Net} {p:Plan} (hp:qX n p) {c o:Int} (hc:aJj n c) (ho:0≤o∧o < n.2.2.2.1.length):(p.2.2.2.getD c.toNat []).length=n.2.2.2.1.length∧((p.2.2.2.getD c.toNat []).getD o.toNat []).length=n.2.2.2.1.length:=by
 have hs:=aBh hp
 obtain ⟨c0,c1⟩:=hc
 have dl:=hs.dl
 obtain ⟨q1,q2⟩:=hs.dr _ (getD_mem (l:=p.2.2.2) (i:=c.toNat) (d:=[]) (by omega))
 exact ⟨q1,(q2 _ (getD_mem (by omega))).1⟩
theorem aJH {n:Net} {p:Plan} {c:Int} {k:Nat} (hp:qX n p) (hc:aJj n c) (hk:k≤n.2.2.2.1.length) (h:aMQ n p c k=0):(aOI n p c k).length≤236393136:=by
 have hs:=(aBh hp).m
 have h1:=uP (l:=List.range k) (f:=fun o:Nat=>aOR n p c (o:Int) ((p.2.2.2.getD c.toNat []).getD o []).length) (B:=19699428) fun o ho=>by
  have ho:=List.mem_range.1 ho
  have e:=(aUw hp hc (o:=(o:Int)) ⟨by omega,by omega⟩).2
  rw [Int.toNat_natCast] at e
  exact aKh hp hc ⟨by omega,by omega⟩ (by omega) (jP h _ (List.mem_map.2 ⟨o,List.mem_range.2 ho,rfl⟩))
 rw [List.length_range] at h1
 have:=Nat.mul_le_mul_right 19699428 (show k≤12 by omega)
 unfold aOI
 omega
theorem aLC {n:Net} {p:Plan} {k:Nat} (hp:qX n p) (hk:k≤n.2.2.2.2.2.length) (h:aHS n p k=0):(aJl n p k).length≤945572544:=by
 have hs:=(aBh hp).q
 have h1:=uP (l:=List.range k) (f:=fun c:Nat=>aOI n p (c:Int) (p.2.2.2.getD c []).length) (B:=236393136) fun c hc=>by
  have hc:=List.mem_range.1 hc
  have hcl:aJj n (c:Int):=⟨by omega,by omega⟩
  have dl:=(aBh hp).dl
  have q1:=((aBh hp).dr _ (getD_mem (l:=p.2.2.2) (i:=c) (d:=[]) (by omega))).1
  exact aJH hp hcl (by omega) (jP h _ (List.mem_map.2 ⟨c,List.mem_range.2 hc,rfl⟩))
 rw [List.length_range] at h1
 have:=Nat.mul_le_mul_right 236393136 (show k≤4 by omega)
 unfold aJl
 omega
theorem aPX (cs:LC) (ns os:LB) (fs:List Off) (ls:List Line) (ks:List Cla) (p1 p2:Int) (nx:List (List Int)) (dy:List (List (List Int))):aC Tryz.prog G0 16 [net cs ns os fs ls ks,.agg [.dat I p1,.dat I p2,.dat M nx,.dat (.sl M) dy]] [] ⟨aBV (p1,p2,nx,dy),.tup [.agg [.dat R (wrN (cs,ns,os,fs,ls,ks) (p1,p2,nx,dy)),.dat I (wrS (cs,ns,os,fs,ls,ks) (p1,p2,nx,dy))],.dat I (wrE (cs,ns,os,fs,ls,ks) (p1,p2,nx,dy))],[]⟩:=by
 refine zV (c:=cWr) aWn cO hm aRx (aL7 cs ns os fs ls ks p1 p2 nx dy ⟨⟨rfl,rfl⟩,fun hp=>?_⟩)
 simp only [oN,D.and,D.not,Bool.true_and,eq_self,true_and,and_true,imp_self,implies_true,Bool.not_eq_true',Bool.or_eq_true,Bool.or_eq_false_iff,Bool.not_eq_false',forall_const,Nat.zero_add,Int.ofNat_eq_natCast,D.nil,D.ne,D.lt,D.gt,D.ilen,D.ile,D.ilt,D.nle,D.nlt,D.sub,D.add,D.nat,D.len,D.fE,D.get,D.app,decide_eq_true_eq,decide_eq_false_iff_not,bne_iff_ne,bne_eq_false_iff_eq,Bool.not_false,Bool.not_true,Bool.false_eq_true,Bool.true_eq_false,false_imp_iff,List.nil_append,forall_const]
 obtain ⟨n,hn⟩:∃ n:Net,n=(cs,ns,os,fs,ls,ks):=⟨_,rfl⟩
 obtain ⟨p,hpe⟩:∃ p:Plan,p=(p1,p2,nx,dy):=⟨_,rfl⟩
 have e1:fs=n.2.2.2.1:=by rw [hn]
 have e2:ks=n.2.2.2.2.2:=by rw [hn]
 have e3:nx=p.2.2.1:=by rw [hpe]
 have e4:dy=p.2.2.2:=by rw [hpe]
 have e5:p1=p.1:=by rw [hpe]
 have e6:p2=p.2.1:=by rw [hpe]
 rw [← hn,← hpe] at *
 clear hn hpe
 subst e1 e2 e3 e4 e5 e6
 have eS:zW n=decide (((oO n).length:Int)=0):=aH8
 have hbad:¬ (zW n=true∧sH n p=true)→wrE n p=1:=fun h=>if_neg h
 have hne:wrE n p≠0→wrN n p=[]∧(0:Int)=wrS n p:=fun h=>⟨if_neg h,(if_neg h).symm⟩
 refine ⟨fun _=>hp,fun h=>?_,fun ⟨h1,h2⟩=>?_⟩
 ·have:wrE n p=1:=hbad fun ⟨g1,g2⟩=>by
   rw [eS,decide_eq_true_eq] at g1
   rcases h with h | h
   ·omega
   ·rw [h] at g2;cases g2
  obtain ⟨q1,q2⟩:=hne (by rw [this];decide)
  exact ⟨q1,q2,this.symm⟩
 have hpl:qX n p:=⟨by rw [eS,decide_eq_true_eq];omega,h2⟩
 have hsh:=aBh hpl
 have hW:wrE n p=if aHS n p p.2.2.2.length≠0 then aHS n p p.2.2.2.length else if (pW n p).length > 40000 then 2 else 0:=if_pos hpl
 have hno:noF n=true:=kG n.1 n.2.1 n.2.2.1 n.2.2.2.1 n.2.2.2.2.1 n.2.2.2.2.2 hpl.1
 have rs:∀ (r:List Int) (xs:List Int),(∀ x ∈ r,-1≤x∧x≤65518)→r.length≤12→xs.length≤10000→rsP 1 r xs xs.length:=fun r xs q1 q2 q3=>⟨⟨rfl,by omega⟩,by decide,by decide,fun x hx=>by have:=q1 x hx;omega⟩
 have m12:=hsh.m
 have q04:=hsh.q
 have nl:=hsh.nl
 have dl:=hsh.dl
 refine ⟨⟨rfl,by show 0 + 4≤1000000000000;decide⟩,by simp,⟨0,⟨hpl,Int.le_refl _,by omega⟩,rfl,rfl,rfl⟩,fun x ⟨_,x0,x1⟩=>⟨fun hx=>?_,fun hx=>⟨⟨0,⟨hpl,Int.le_refl _,by omega⟩,rfl,?_,?_⟩,?_⟩⟩⟩
 ·obtain ⟨q1,q2⟩:=hsh.nr _ (getD_mem (l:=p.2.2.1) (i:=x.toNat) (d:=[]) (by omega))
  have e:h1N n p (x + 1)=h1N n p x ++ up1 (p.2.2.1.getD x.toNat []):=by unfold h1N;rw [aAV [] x0 hx,List.append_assoc]
  refine ⟨x0,hx,rs _ _ (fun y hy=>by have:=q2 y hy;omega) (by omega) (by have:=aO8 hsh x;omega),by rw [List.length_append];omega,jI (by omega),x + 1,⟨hpl,by omega,by omega⟩,⟨rfl,by rw [e,List.length_append];rfl,e.symm⟩,by omega⟩
 ·have:x=p.2.2.1.length:=by omega
  rw [this];simp [h2N]
 ·have:x=p.2.2.1.length:=by omega
  rw [this];simp [h2N]
 rintro x ⟨_,x0,x1⟩
 refine ⟨fun hx=>⟨x0,hx,⟨0,⟨⟨hpl,x0,hx⟩,Int.le_refl _,by omega⟩,rfl,by simp [h3N],by simp [h3N]⟩,fun y ⟨_,y0,y1⟩=>⟨fun hy=>?_,fun hy=>?_⟩⟩,fun hx=>⟨⟨0,⟨⟨hpl,Int.le_refl _,by omega⟩,rfl⟩,rfl,?_,?_⟩,?_⟩⟩
 ·obtain ⟨q1,q2⟩:=hsh.dr _ (getD_mem (l:=p.2.2.2) (i:=x.toNat) (d:=[]) (by omega))
  obtain ⟨q3,q4⟩:=q2 _ (getD_mem (l:=p.2.2.2.getD x.toNat []) (i:=y.toNat) (d:=[]) (by omega))
  have e:h3N n p x (y + 1)=h3N n p x y ++ up1 ((p.2.2.2.getD x.toNat []).getD y.toNat []):=by unfold h3N;rw [aAV [] y0 hy,List.append_assoc]
  refine ⟨y0,hy,rs _ _ q4 (by omega) (by have:=aTt hsh y x0 hx;omega),by rw [List.length_append];omega,jI (by omega),y + 1,⟨⟨hpl,x0,hx⟩,by omega,by omega⟩,⟨rfl,by rw [e,List.length_append];rfl,e.symm⟩,by omega⟩
 ·have ey:y=(p.2.2.2.getD x.toNat []).length:=by omega
  have e:h2N n p (x + 1)=h3N n p x y:=by
   unfold h3N
   rw [ey,Int.toNat_natCast,List.take_length]
   unfold h2N
   rw [aAV [] x0 hx,List.append_assoc]
  exact ⟨jI (by omega),x + 1,⟨hpl,by omega,by omega⟩,⟨rfl,by rw [e],e.symm⟩,by omega⟩
 ·have:x=p.2.2.2.length:=by omega
  rw [this];simp [k1N,hdN,aJl]
 ·have:x=p.2.2.2.length:=by omega
  rw [this];simp [k1N,hdN,aJl]
 rintro x ⟨⟨_,x0,x1⟩,xa⟩
 have hd2:=aO7 hsh p.2.2.2.length
 refine ⟨fun hx=>?_,fun hx=>?_⟩
 ·have hcl:aJj n x:=⟨x0,by omega⟩
  have xt:((x.toNat:Nat):Int)=x:=by omega
  have tl:=(aUw hpl hcl (o:=0))
  obtain ⟨tr1,_⟩:=hsh.dr _ (getD_mem (l:=p.2.2.2) (i:=x.toNat) (d:=[]) (by omega))
  refine ⟨x0,hx,⟨0,⟨⟨⟨hpl,x0,hx⟩,Int.le_refl _,by omega⟩,xa,rfl⟩,rfl,by simp [k2N,aOI],by simp [k2N,aOI]⟩,fun y ⟨⟨_,y0,y1⟩,_,ya⟩=>⟨fun hy=>?_,fun hy=>?_⟩⟩
  ·have yt:((y.toNat:Nat):Int)=y:=by omega
   obtain ⟨_,tr2⟩:=aUw hpl hcl (o:=y) ⟨y0,by omega⟩
   refine ⟨y0,hy,⟨0,⟨⟨⟨⟨⟨hpl,x0,hx⟩,y0,by omega⟩,hy⟩,Int.le_refl _,by omega⟩,xa,ya,rfl⟩,rfl,by simp [k3N,aOR],by simp [k3N,aOR]⟩,fun z ⟨⟨_,z0,z1⟩,_,_,za⟩=>⟨fun hz=>?_,fun hz=>?_⟩⟩
   ·have zt:((z.toNat:Nat):Int)=z:=by omega
    have eD:((p.2.2.2.getD x.toNat []).getD y.toNat []).getD z.toNat 0=qV p x y z:=rfl
    rw [eD]
    have hkl:(k3N n p x y z).length≤900000000000:=by
     have l1:=aLC hpl (k:=x.toNat) (by omega) xa
     have l2:=aJH hpl hcl (k:=y.toNat) (by omega) ya
     have l3:=aKh hpl hcl (o:=y) (k:=z.toNat) ⟨y0,by omega⟩ (by omega) za
     unfold k3N k2N k1N hdN
     simp only [List.length_append]
     omega
    have hK:vI n p x y z (k3N n p x y z).length (k3N n p x y z):=⟨⟨hpl,hcl,⟨hno,y0,by omega⟩,⟨hno,z0,by omega⟩⟩,rfl,hkl⟩
    have step:aAD n p x y z=0→(∃ w,t3 n p x y w∧(z + 1=w∧(k3N n p x y z).length + (aAC n p x y z).length=(k3N n p x y w).length∧k3N n p x y z ++ aAC n p x y z=k3N n p x y w)∧(((p.2.2.2.getD x.toNat []).getD y.toNat []).length - w).toNat < (((p.2.2.2.getD x.toNat []).getD y.toNat []).length - z).toNat):=fun h0=>by
     have e:k3N n p x y (z + 1)=k3N n p x y z ++ aAC n p x y z:=by
      unfold k3N aOR
      rw [yO z0,zt,List.append_assoc]
     exact ⟨z + 1,⟨⟨⟨⟨⟨hpl,x0,hx⟩,y0,by omega⟩,hy⟩,by omega,by omega⟩,xa,ya,aBP z0 za (by rw [zt];exact h0)⟩,⟨rfl,by rw [e,List.length_append],e.symm⟩,by omega⟩
    refine ⟨z0,hz,fun hne1=>⟨⟨hK,fun hz0=>?_⟩,fun hz0=>⟨⟨hK,hz0⟩,by rw [List.length_append];omega,jI (by omega),?_⟩⟩,fun h1=>⟨jI (by omega),?_⟩⟩
    ·have hz1:=uM.1 hz0
     have c1:aAD n p x y z=mZ n p x y z:=if_neg hne1
     have r1:aOS n p x y ((p.2.2.2.getD x.toNat []).getD y.toNat []).length=mZ n p x y z:=by
      unfold aOS
      rw [aDF (k:=z.toNat) (by omega) za (by rw [zt,c1];exact hz1),zt,c1]
     have r2:aMQ n p x (p.2.2.2.getD x.toNat []).length=mZ n p x y z:=by
      unfold aMQ
      rw [aDF (k:=y.toNat) (by omega) ya (by rw [yt,r1];exact hz1),yt,r1]
     have r3:aHS n p p.2.2.2.length=mZ n p x y z:=by
      unfold aHS
      rw [aDF (k:=x.toNat) (by omega) xa (by rw [xt,r2];exact hz1),xt,r2]
     have r4:wrE n p=mZ n p x y z:=by rw [hW,r3,if_pos hz1]
     obtain ⟨q1,q2⟩:=hne (by rw [r4];exact hz1)
     exact ⟨q1,q2,r4.symm⟩
    ·have c1:aAD n p x y z=mZ n p x y z:=if_neg hne1
     have c2:aAC n p x y z=keepA n p x y z:=if_neg hne1
     have:=step (by rw [c1];exact oJ.1 hz0)
     rw [c2] at this
     exact this
    ·have c1:aAD n p x y z=0:=if_pos h1
     have c2:aAC n p x y z=[]:=if_pos h1
     have:=step c1
     rw [c2] at this
     simpa using this
   ·have ez:z=((p.2.2.2.getD x.toNat []).getD y.toNat []).length:=by omega
    have e:k2N n p x (y + 1)=k3N n p x y z:=by
     unfold k3N
     rw [ez,Int.toNat_natCast]
     unfold k2N aOI
     rw [yO y0,yt,List.append_assoc]
    have za':aOS n p x y ((p.2.2.2.getD x.toNat []).getD y.toNat []).length=0:=by rw [ez,Int.toNat_natCast] at za;exact za
    exact ⟨jI (by omega),y + 1,⟨⟨⟨hpl,x0,hx⟩,by omega,by omega⟩,xa,aBP y0 ya (by rw [yt];exact za')⟩,⟨rfl,by rw [e],e.symm⟩,by omega⟩
  ·have ey:y=(p.2.2.2.getD x.toNat []).length:=by omega
   have e:k1N n p (x + 1)=k2N n p x y:=by
    unfold k2N
    rw [ey,Int.toNat_natCast]
    unfold k1N aJl
    rw [yO x0,xt,List.append_assoc]
   have ya':aMQ n p x (p.2.2.2.getD x.toNat []).length=0:=by rw [ey,Int.toNat_natCast] at ya;exact ya
   exact ⟨jI (by omega),x + 1,⟨⟨hpl,by omega,by omega⟩,aBP x0 xa (by rw [xt];exact ya')⟩,⟨rfl,by rw [e],e.symm⟩,by omega⟩
 ·have ex:x=p.2.2.2.length:=by omega
  have eN:k1N n p x=pW n p:=by unfold k1N pW;rw [ex,Int.toNat_natCast]
  rw [ex,Int.toNat_natCast] at xa
  have hl:=aLC hpl (k:=p.2.2.2.length) (by omega) xa
  rw [eN]
  rw [xa,if_neg (fun g=>g rfl)] at hW
  refine ⟨fun hgt=>?_,fun hle=>?_⟩
  ·rw [if_pos (by omega)] at hW
   obtain ⟨q1,q2⟩:=hne (by rw [hW];decide)
   exact ⟨q1,q2,hW.symm⟩
  ·rw [if_neg (by omega)] at hW
   refine ⟨?_,(if_pos hW).symm,(if_pos hW).symm,hW.symm⟩
   show (pW n p).length≤9223372036854775807
   omega
end Go.Eng.Sv
