/- ClIp -/
import Derived.Test.YtecnnbcfgijddaaGreatDoorETBrkE
import Derived.Test.YtecnnbcfgijddaaGreatDoorETBrkY
import Derived.Test.YtecnnbcfgijddaaGreatDoorETBrkZA
set_option linter.unusedSimpArgs false
set_option linter.unusedVariables false
set_option maxRecDepth 100000
noncomputable section
namespace Go.Eng.Sv
open Go.Proofs
open Go.RowKit
def wHd(n:Net)(p:Plan)(a:AV):List AV:=[.dat (.sl C) n.1,.dat (.sl S) n.2.1,.dat (.sl S) n.2.2.1,.dat (.sl (.pair S (.pair I (.pair I (.pair I (.pair I (.pair I (.sl S)))))))) n.2.2.2.1,.dat (.sl (.pair S (.pair I (.pair I (.pair I (.pair I I)))))) n.2.2.2.2.1,.dat (.sl (.pair S (.pair I I))) n.2.2.2.2.2,.dat I p.1,.dat I p.2.1,.dat M p.2.2.1,.dat (.sl M) p.2.2.2,a]
def tw(t:Ty):AV->Option t.den|.dat f x=>if h:f=t then some (h▸x)else none|_=>none
def aFA:List AV->Option (Net×Plan×AV)
 |[a1,a2,a3,a4,a5,a6,X,L,G,f,a]=>match tw (.sl C) a1,tw (.sl S) a2,tw (.sl S) a3,tw (.sl Of) a4,tw (.sl Ln) a5,tw (.sl Kl) a6,tw I X,tw I L,tw M G,tw (.sl M) f with
  |some A,some j,some h,some z,some u,some y,some p1,some p2,some p3,some p4=>some ((A,j,h,z,u,y),(p1,p2,p3,p4),a)|_,_,_,_,_,_,_,_,_,_=>none
 |_=>none
def asI:AV->Option (Net×Plan)
 |.ips cells=>match aFA cells with
  |some (n,p,.top)=>some (n,p)|_=>none
 |_=>none
def wI(l:List AK)(pre:AKs l->Net->Plan->Prop)(ret:AKs l->Net->Plan->AV)(args:List AV)(m:Mem):Option lI:=match m,args with
 |[],a::ar=>match asI a,ofK l ar with
  |some (n,p),some x=>some ⟨pre x n p,ret x n p,[]⟩|_,_=>none
 |_,_=>none
theorem gW{t:Ty}{a:AV}{x:t.den}(h:tw t a=some x):a=.dat t x:=by
 unfold tw at h;split at h;split at h;rename_i e;subst e;cases h;rfl;cases h;cases h
theorem aAW{l:List AV}{n:Net}{p:Plan}{a:AV}(h:aFA l=some (n,p,a)):l=wHd n p a:=by
 unfold aFA at h;split at h;split at h;rename_i h1 X L G A z y u j f;cases h;rw[gW h1,gW X,gW L,gW G,gW A,gW z,gW y,gW u,gW j,gW f];rfl;cases h;cases h
theorem Y0{a:AV}{n:Net}{p:Plan}(h:asI a=some (n,p)):a=.ips (wHd n p .top):=by
 unfold asI at h;split at h;split at h;rename_i f;cases h;rw[aAW f];cases h;cases h
theorem aEc{P:Program}{G:List (Nat×AV)}{f:FuncId}{l:List AK}{pre:AKs l->Net->Plan->Prop}{ret:AKs l->Net->Plan->AV}
  (h:∀x n p,aj P G f (.ips (wHd n p .top)::avK l x) [] ⟨pre x n p,ret x n p,[]⟩):∀args m c,wI l pre ret args m=some c->aj P G f args m c:=by
 intro args m c j;unfold wI at j;split at j;split at j;rename_i n p x L A;cases j;rw[Y0 L];refine(h x n p).args λC us _ z=>?_;obtain⟨u,y,e,g1,X⟩:=z;exact⟨u,y,e,g1,iW A X⟩;cases j;cases j
abbrev Ax:=wI [.val I] (λ(o,_) n _=>tO n o) λ(o,_) n _=>cal (aN n o).1 (aN n o).2.1 (aN n o).2.2
theorem Zu:eO 242 Ax:=aEc λ((o:Int),_) (n:Net) (p:Plan)=>by
 refine zE (A:=aG) (p:=let j:=(Dw n.2.2.2.1 (Dc o) (ByteArray.mk #[],(0:Int),(0:Int),(0:Int),(0:Int),(0:Int),Du ByteArray)).2.2.1;let h:=Dw n.1 (Dc j) ((0:Int),Du Bool,Du Int);let f:=(aN n o).2;(tO n o->0<=o/\o<Di n.2.2.2.1/\0<=j/\j<Di n.1/\T4 1 0 1 0 (h.1=(aN n o).1/\h.2.1=f.1/\h.2.2=f.2/\True))) Pn λf=>?_;obtain⟨cs,y,u,fs,z,G⟩:=n;obtain⟨X,L,_⟩:=jS cs y u fs z G f;refine Z9 ?_;exact⟨f.2.1,f.2.2,X,L,rfl,rfl,rfl⟩
abbrev vD:=aA [.row C,.val I,.val I] (λ(c,m,t,_)=>MV c m t) λ(c,m,t,_)=>.tup [.dat I (gu c m t),.dat I (nV c m t)]
theorem UX:eO 244 vD:=af λ((c:C.den),(m:Int),(t:Int),_)=>by
 obtain⟨z,w,h⟩:=c;refine zE (A:=aG) (p:=let c1:=(z,w,h);let c2:=Dn m (Oh z t);let G:=jD z t+1;let c4:=ie w h G;let c5:=Ea c4 0;let f:=gu c1 m t;let j:=nV c1 m t;let c8:=fS w h G;let A:=ie w h (jD z t);let y:=Ea A 0;let u:=fS w h (jD z t);(MV c1 m t->ri z w h t/\(c2->inR .i64 G/\Y6 z w h G/\(c5->0=f/\c4=j/\True)/\(c5=false->nT z w h c8 m/\ij z c8 m=f/\0=j/\True))/\(c2=false->Y6 z w h (jD z t)/\(y->0=f/\A=j/\True)/\(y=false->nT z w h u m/\ij z u m=f/\0=j/\True)))) Pn λhp=>?_;obtain⟨b1,b2⟩:=YT hp;obtain⟨L,h1,h2,h3,h4⟩:=id hp;refine Z9 ?_;have f:∀d,d=d0F (z,w,h) m t->Y6 z w h d/\(¬ie w h d=0->(0:Int)=gu (z,w,h) m t/\ie w h d=nV (z,w,h) m t)/\(ie w h d=0->nT z w h (fS w h d) m/\ij z (fS w h d) m=gu (z,w,h) m t/\(0:Int)=nV (z,w,h) m t):=by
  rintro d rfl;refine⟨⟨L,jZ Z Z⟩,λj=>⟨(if_neg j).symm,rfl⟩,λj=>?_⟩;obtain⟨q1,q2,q3⟩:=mo j;exact⟨⟨L,jZ Z Z,h1,h2⟩,(if_pos j).symm,j.symm⟩
 refine⟨⟨L,Z,Z⟩,λX=>?_,λhge=>?_⟩;have e:jD z t+1=d0F (z,w,h) m t:=(if_pos X).symm;obtain⟨q1,q2,q3⟩:=f _ e;exact⟨by unfold inR;simp only;omega,q1,q2,q3⟩;have e:jD z t=d0F (z,w,h) m t:=(if_neg hge).symm;exact f _ e
def aCk(p:Plan):Bool:=decide (0<=p.1/\p.1<p.2.1/\p.2.1<=600/\p.2.1-p.1<=60)
def KWs:Kt:=kOr 242 Ax <|
 kOr 244 vD KR2
theorem aGI:ay Tryz.prog G0 KWs:=ai Zu<|ai UX Pn
def aBn(c:Int×List Bool×Li)(m h:Int):Nat->Int->Li|0,_=>[]|f+1,t=>if nV c m t=0 then if gu c m t<h then gu c m t::aBn c m h f (gu c m t+1)else[]else[]
def aAG(p:Plan):Nat:=(1440*(p.2.1-p.1)).toNat+1
def aDS(n:Net)(p:Plan)(c o:Int)(f:Nat)(t:Int):Li:=aBn (aN n o) (cX n c).2.1 (1440*p.2.1) f t
def UF(n:Net)(p:Plan)(c o:Int):Li:=aDS n p c o (aAG p) (1440*p.1)
abbrev aAH(n:Net)(p:Plan)(c o:Int):Prop:=tO n o/\aDV n c/\aCk p=true
def A5(n:Net)(p:Plan)(c o:Int)(x:Nat×Int):Prop:=(1440*p.1+x.1<=x.2/\x.2<=1440*p.2.1)/\x.1<=(UF n p c o).length/\(UF n p c o).drop x.1=aDS n p c o (aAG p-x.1) x.2
def aFe:AV->AV|.pin u a=>.pin u a|.yld l=>.yld l|_=>.top
def aD8(n:Net)(p:Plan)(c o:Int):IW:=⟨λf y=>match f with
 |1=>some {α:=Nat×Int,inv:=λx=>A5 n p c o x,st:=λx=>⟨put {y.s with tm:=y.s.tm.map aFe} [(5,.dat I x.2)],x.1,true⟩,μ:=λx=>Dc (Dk (Dt (Ej 1440 p.2.1) 1) x.2)}
 |_=>none,λ_ _=>none,λf=>f==2⟩
theorem Zt (c o : Int) (n : Net) (p : Plan) : IU Tryz.prog G0 281 [.ipv (.ips (wHd n p .top)), .ip I o, .ip I c] ⟨aAH n p c o, I, UF n p c o⟩ := by
  refine zL (c := mkc KWs) (A := aD8 n p c o) aGI tC hm (p :=
 let c1 := p.fst;
 let c2 := Ej (1440 : Int) c1;
 let c3 := n.fst;
 let c4 := n.snd;
 let c5 := c4.fst;
 let c6 := c4.snd;
 let c7 := c6.fst;
 let c8 := c6.snd;
 let c9 := c8.fst;
 let c10 := c8.snd;
 let c11 := c10.fst;
 let c12 := c10.snd;
 let c13 := p.snd;
 let c14 := c13.fst;
 let c15 := c13.snd;
 let c16 := c15.fst;
 let c17 := c15.snd;
 let c18 := (c3, c5, c7, c9, c11, c12);
 let c19 := aN c18 o;
 let c20 := c19.snd;
 let c21 := (c19.fst, c20.fst, c20.snd);
 let c22 := (Dw c12 (Dc c) (ByteArray.mk (Du UInt8).toArray, (0 : Int), (0 : Int))).snd.fst;
 let c23 := Ej (1440 : Int) c14;
 let c24 := UF n p c o;
 let c25 := Dl c24;
 let c26 := Dt c23 (1 : Int); true = true ∧ true = true ∧ false = false ∧ ∀ (l : Nat) (u : Nat → Value), aAH n p c o → inR .i64 c2 ∧ (∃ (x : Nat ×
  Int), A5 n p c o x ∧ (l = l ∧ u (0) = u (0) ∧ c3 = c3 ∧ c5 = c5 ∧ c7 = c7 ∧ c9 = c9 ∧ c11 = c11 ∧ c12 = c12 ∧ c1 = c1 ∧ c14 = c14 ∧ c16 = c16 ∧ c17 = c17 ∧
  u (1) = u (1) ∧ o = o ∧ u (2) = u (2) ∧ c = c ∧ c2 = x.snd ∧ True) ∧ 0 = x.fst ∧ true = true) ∧ ∀ (x : Nat × Int),
 let c27 := Ea (nV c21 c22 x.snd) (0 : Int);
 let c28 := Dj c27;
 let c29 := gu c21 c22 x.snd;
 let c30 := Dy c27 true (Eb c29 c23);
 let c31 := Dj c30;
 let c32 := Dy c30 true (Dj true);
 let c33 := Eh x.fst (1);
 let c34 := Dt c29 (1 : Int);
 let c35 := Dy c30 true (Dj false); A5 n p c o x → tO c18 o ∧ Dp (0 : Int) c ∧ Dq c (Di c12) ∧ MV c21 c22 x.snd ∧ (c28 = true → c28 =
  true → c28 = true) ∧ (c28 = true → c28 = true → c28 = true) ∧ (c28 = true → c28 = true → c28 = true) ∧ (c28 = true → c28 = true → c28 = true) ∧ (c28 = true →
  c28 = true → c28 = true) ∧ (c28 = true → inR .i64 c23) ∧ (c28 = true → c28 = true → c28 = true) ∧ (c28 = true → c28 = true → c28 = true) ∧ (Dh true
  c28 = true → c28 = true) ∧ (c31 = true → (c31 = true → c31 = true) ∧ (c31 = true → c31 = true) ∧ u (0) = u (0) ∧ u (1) = u (1) ∧ u (2) = u (2) ∧ l = l ∧ true =
  true ∧ oL c24 x.fst c29 ∧ ((Dh true c31 = true → c31 = true) ∧ (c32 = true → true = true → c33 = c25) ∧ (c32 = false → inR .i64 c34 ∧ ∃ (y : Nat ×
  Int), A5 n p c o y ∧ ((l = l ∧ u (0) = u (0) ∧ c3 = c3 ∧ c5 = c5 ∧ c7 = c7 ∧ c9 = c9 ∧ c11 = c11 ∧ c12 = c12 ∧ c1 = c1 ∧ c14 = c14 ∧ c16 = c16 ∧ c17 = c17
  ∧ u (1) = u (1) ∧ o = o ∧ u (2) = u (2) ∧ c = c ∧ c34 = y.snd ∧ True) ∧ c33 = y.fst ∧ true = true) ∧ Dx (Dc (Dk c26 y.snd)) (Dc (Dk c26
  x.snd)))) ∧ (Dh true c31 = true → c31 = true) ∧ (c35 = true → false = true → c33 = c25) ∧ (c35 = false → inR .i64 c34 ∧ ∃ (y : Nat × Int), A5 n p
  c o y ∧ (False ∧ c33 = y.fst ∧ false = true) ∧ Dx (Dc (Dk c26 y.snd)) (Dc (Dk c26 x.snd)))) ∧ (c31 = false → (c31 = true → c31 = true → c31 =
  true) ∧ (Dh true c31 = true → c31 = true) ∧ (c35 = true → true = true → x.fst = c25) ∧ (c35 = false → inR .i64 c34 ∧ ∃ (y : Nat × Int), A5 n p c
  o y ∧ ((l = l ∧ u (0) = u (0) ∧ c3 = c3 ∧ c5 = c5 ∧ c7 = c7 ∧ c9 = c9 ∧ c11 = c11 ∧ c12 = c12 ∧ c1 = c1 ∧ c14 = c14 ∧ c16 = c16 ∧ c17 = c17 ∧ u (1) = u (1) ∧ o
  = o ∧ u (2) = u (2) ∧ c = c ∧ c34 = y.snd ∧ True) ∧ x.fst = y.fst ∧ true = true) ∧ Dx (Dc (Dk c26 y.snd)) (Dc (Dk c26 x.snd))))) ⟨rfl, rfl, rfl, fun l u ⟨hoff, hcl, hR⟩ => ?_⟩
  have eN : (n.1, n.2.1, n.2.2.1, n.2.2.2.1, n.2.2.2.2.1, n.2.2.2.2.2) = n := rfl
  have eC : ∀ c : Int × List Bool × Li, (c.1, c.2.1, c.2.2) = c := fun _ => rfl
  have eK : n.2.2.2.2.2.getD c.toNat (⟨#[]⟩, 0, 0) = cX n c := rfl
  have hR' : 0 ≤ p.1 ∧ p.1 < p.2.1 ∧ p.2.1 ≤ 600 ∧ p.2.1 - p.1 ≤ 60 := vO hR
  have hv : aW (aN n o).1 (aN n o).2.1 (aN n o).2.2 = true := (jS n.1 n.2.1 n.2.2.1 n.2.2.2.1 n.2.2.2.2.1 n.2.2.2.2.2 hoff).2.2.1
  obtain ⟨⟨m0, m1⟩, _⟩ := Iw n.1 n.2.1 n.2.2.1 n.2.2.2.1 n.2.2.2.2.1 n.2.2.2.2.2 hoff.1 hcl
  have m0 : 0 ≤ (cX n c).2.1 := m0
  have m1 : (cX n c).2.1 ≤ 1439 := m1
  simp only [qc, Dh, Et, Dj, qd, Du, Ed, Ea, Dn, Ee, Ef, Eb, Ew, Di, Ei, Dp, Dq, Es, Dz, Dx, Dk, Dt, Ej, Fp, Dc, Ec, Dl, Eh, Em, Dw, Eu, Fg, Ep, En, Fe, Fb, Ez, Ey, Eo, Fj, Fh, eN, eC, eK, yV, xH, wF, gJ, false_and, and_false, exists_false, imp_false, qDg, reduceCtorEq]
  obtain ⟨q, hq⟩ : ∃ q, q = 1440 * p.1 := ⟨_, rfl⟩
  obtain ⟨r, hr⟩ : ∃ r, r = 1440 * p.2.1 := ⟨_, rfl⟩
  refine ⟨qj (by omega), ⟨(0, 1440 * p.1), ⟨⟨by simp only; omega, by simp only; omega⟩, wK _, rfl⟩, rfl, rfl⟩, ?_⟩
  rintro ⟨k, t⟩ ⟨⟨t0, t1⟩, k1, hk⟩
  simp only at t0 t1 k1 hk ⊢
  have hU : aAG p - k = (aAG p - (k + 1)) + 1 := by unfold aAG; omega
  have hst : aDS n p c o (aAG p - k) t = if nV (aN n o) (cX n c).2.1 t = 0 then if gu (aN n o) (cX n c).2.1 t < 1440 * p.2.1 then gu (aN n o) (cX n c).2.1 t :: aDS n p c o (aAG p - (k + 1)) (gu (aN n o) (cX n c).2.1 t + 1) else [] else [] := by rw [hU]; rfl
  rw [hst] at hk
  have hlen : ∀ {l : Li}, (UF n p c o).drop k = l → (UF n p c o).length = k + l.length := fun h => by
    have := yF List.length h; rw [vZ] at this; omega
  refine ⟨hoff, hcl.1, hcl.2, ⟨hv, m0, by omega, by omega, by omega⟩, fun _ => qj (by omega), fun ⟨h1, h2⟩ => ?_, fun h _ => ?_⟩
  · have h2' : gu (aN n o) (cX n c).2.1 t < 1440 * p.2.1 := by omega
    obtain ⟨b1, b2⟩ := w8 hv h1 m0 m1
    rw [if_pos h1, if_pos h2'] at hk
    have hl := hlen hk
    rw [wR] at hl
    refine ⟨?_, fun h => absurd h (by omega), fun _ => ⟨qj (by omega), (k + 1, gu (aN n o) (cX n c).2.1 t + 1), ⟨⟨by simp only; omega, by simp only; omega⟩, by simp only; omega, ?_⟩, ⟨rfl, rfl⟩, by simp only; omega⟩⟩
    · show (UF n p c o)[k]? = some _
      have := yF (fun l => l[0]?) hk
      simpa [vF] using this
    · show (UF n p c o).drop (k + 1) = _
      have := yF (List.drop 1) hk
      rwa [yU] at this
  · have : (UF n p c o).drop k = [] := by
      rw [hk]
      by_cases h1 : nV (aN n o) (cX n c).2.1 t = 0
      · rw [if_pos h1, if_neg (by omega)]
      · rw [if_neg h1]
    have hl := hlen this
    rw [yZ] at hl
    omega
def KIW:FuncId->List AV->Option iD:=λf h=>if f=281+yq then match h with
  |[.ipv x,.ip (.int .i64) o,.ip (.int .i64) c]=>match asI x with
   |some (n,p)=>some ⟨aAH n p c o,I,UF n p c o⟩|none=>none
  |_=>none
 else none
theorem aA7{P:Program}{G:List (Nat×AV)}{g N:Nat}{f:List AV}{j:iD}(h:IU P G g f j):if g+N<N then lS P G (g+N) f j else IU P G (g+N-N) f j:=by
 rw[if_neg Z,qBe];exact h
theorem aDo:aR Tryz.prog G0 KIW:=by
 unfold aR KIW;generalize yq=N;intro f j z h;split at h;case isFalse=>cases h
 rename_i y;split at h;case h_2=>cases h
 rename_i x o c;split at h;case h_2=>cases h
 rename_i n p u;cases h;subst y;rw[Y0 u];exact aA7 (Zt c o n p)
def UE(n:Net)(k o a b:Int):Li:=aBn (aN n o) (cX n k).2.1 b ((b-a).toNat+1) a
abbrev aAF(n:Net)(k o a b:Int):Prop:=tO n o/\aDV n k/\0<=a/\a<b/\b<=1000000
def Is(n:Net)(k o a b:Int)(x:Nat×Int):Prop:=(a+x.1<=x.2/\x.2<=b)/\x.1<=(UE n k o a b).length/\(UE n k o a b).drop x.1=aBn (aN n o) (cX n k).2.1 b ((b-a).toNat+1-x.1) x.2
def aE3(n:Net)(k o a b:Int):IW:=⟨λf y=>match f with
 |1=>some {α:=Nat×Int,inv:=λx=>Is n k o a b x,st:=λx=>⟨put y.s [(7,.dat I x.2)],x.1,true⟩,μ:=λx=>Dc (Dk (Dt b 1) x.2)}|_=>none,λ_ _=>none,λf=>f==2⟩
def KIC:FuncId->List AV->Option iD:=λf h=>if f=278 then match ofK [.ptr I,.bp N,.ptr I,.ptr I,.ptr I] h with
 |some (a,n,o,k,b,_)=>some ⟨aAF n k o a b,I,UE n k o a b⟩|none=>none
 else none
theorem ZC(k o a b:Int)(n:Net):lS Tryz.prog G0 278 [.ip I a,.ipv (.ip N n),.ip I o,.ip I k,.ip I b] ⟨aAF n k o a b,I,UE n k o a b⟩:=by
 refine zI (c:=mkc KR3) (A:=aE3 n k o a b) aD3 tC hm (p:=let c2:=(aN n o).2;let c3:=((aN n o).1,c2.1,c2.2);let c4:=(Dw n.2.2.2.2.2 (Dc k) (ByteArray.mk #[],(0:Int),(0:Int))).2.1;let c5:=UE n k o a b;let z:=Dl c5;let h:=b+1;true/\true/\true/\false=false/\∀(l:Nat),aAF n k o a b->(∃(x:Nat×Int),Is n k o a b x/\(w6 l a n o k b (a=x.2/\T5 a))/\0=x.1/\true)/\∀(x:Nat×Int),let c8:=Ea (nV c3 c4 x.2) 0;let u:=Dj c8;let X:=gu c3 c4 x.2;let L:=Dy c8 true (Eb X b);let f:=Dj L;let c1:=Dh true f->f;let A:=x.1+1;let j:=X+1;let G:=Dy L true (Dj false);Is n k o a b x->tO n o/\0<=k/\k<Di n.2.2.2.2.2/\MV c3 c4 x.2/\Q2 u ((Dh true u->u)/\(f->(f->f)/\(f->f)/\l=l/\true/\oL c5 x.1 X/\∀(b_1:Bool),let c16:=Dy L true (Dj b_1);c1/\(c16->b_1->A=z)/\(c16=false->inR .i64 j/\∃(y:Nat×Int),Is n k o a b y/\((w6 l a n o k b (j=y.2/\T5 a))/\A=y.1/\b_1)/\Dc (h-y.2)<Dc (h-x.2)))/\(f=false->L5 f (c1/\(G->true->x.1=z)/\(G=false->inR .i64 j/\∃(y:Nat×Int),Is n k o a b y/\((w6 l a n o k b (j=y.2/\T5 a))/\x.1=y.1/\true)/\Dc (h-y.2)<Dc (h-x.2)))))) ⟨rfl,rfl,rfl,rfl,λl ⟨f,G,a0,hab,b1⟩=>?_⟩;have eN:(n.1,n.2.1,n.2.2.1,n.2.2.2.1,n.2.2.2.2.1,n.2.2.2.2.2)=n:=rfl;have eC:∀c:Int×List Bool×Li,(c.1,c.2.1,c.2.2)=c:=λ_=>rfl
 have eK:n.2.2.2.2.2.getD k.toNat (⟨#[]⟩,0,0)=cX n k:=rfl;have hv:aW (aN n o).1 (aN n o).2.1 (aN n o).2.2=true:=(jS n.1 n.2.1 n.2.2.1 n.2.2.2.1 n.2.2.2.2.1 n.2.2.2.2.2 f).2.2.1;obtain⟨⟨m0,m1⟩,_⟩:=Iw n.1 n.2.1 n.2.2.1 n.2.2.2.1 n.2.2.2.2.1 n.2.2.2.2.2 f.1 G;have m0:0<=(cX n k).2.1:=m0;have m1:(cX n k).2.1<=1439:=m1;refine Z9 ?_;simp only[qc,eN,eC,eK,yV,xH,wF,gJ,false_and,and_false,exists_false,imp_false,qDg,reduceCtorEq];refine⟨⟨(0,a),⟨⟨by simp only;omega,by simp only;omega⟩,wK _,rfl⟩,rfl,rfl⟩,?_⟩;rintro⟨j,t⟩ ⟨⟨t0,t1⟩,k1,z⟩;simp only at t0 t1 k1 z ⊢;have hU:(b-a).toNat+1-j=((b-a).toNat+1-(j+1))+1:=Z;have hst:aBn (aN n o) (cX n k).2.1 b ((b-a).toNat+1-j) t=if nV (aN n o) (cX n k).2.1 t=0 then if gu (aN n o) (cX n k).2.1 t<b then gu (aN n o) (cX n k).2.1 t::aBn (aN n o) (cX n k).2.1 b ((b-a).toNat+1-(j+1)) (gu (aN n o) (cX n k).2.1 t+1)else[]else[]:=by rw[hU];rfl
 rw[hst]at z;have u:∀{l:Li},(UE n k o a b).drop j=l->(UE n k o a b).length=j+l.length:=λh=>by
  have:=yF List.length h;rw[vZ]at this;omega
 refine⟨f,G.1,G.2,⟨hv,m0,Z,Z,Z⟩,λ⟨h1,h2⟩=>?_,λh=>?_⟩;have h2':gu (aN n o) (cX n k).2.1 t<b:=by omega
 obtain⟨b1,b2⟩:=w8 hv h1 m0 m1;rw[if_pos h1,if_pos h2']at z;have hl:=u z;rw[wR]at hl;refine⟨?_,λbb=>⟨λh hb=>?_,λ⟨_,hb⟩=>⟨qj Z,(j+1,gu (aN n o) (cX n k).2.1 t+1),⟨⟨by simp only;omega,by simp only;omega⟩,by simp only;omega,?_⟩,⟨rfl,rfl,hb⟩,by simp only;omega⟩⟩⟩;show(UE n k o a b)[j]?=some _;have:=yF (λl=>l[0]?) z;simpa[vF]using this;rcases h with(h|h)|h;exact absurd h1 h;omega;rw[h]at hb;cases hb;show(UE n k o a b).drop (j+1)=_;have:=yF (List.drop 1) z;rwa [yU]at this;have:(UE n k o a b).drop j=[]:=by
  rw[z];by_cases h1:nV (aN n o) (cX n k).2.1 t=0;rw[if_pos h1,if_neg Z];rw[if_neg h1]
 have hl:=u this;rw[yZ]at hl;omega
theorem aDr:aR Tryz.prog G0 KIC:=by
 intro f j it h;unfold KIC at h;split at h;case isFalse=>cases h
 rename_i G;subst G;split at h;case h_2=>cases h
 rename_i a n o k b _ y;cases h;exact λA l J JX JP w D u X L z=>ZC k o a b n A l J JX JP w D u X L (iW y z)
def JB(n:Net):List (Int×Off):=(List.range n.2.2.2.1.length).map λi:Nat=>((i:Int),di n i)
def GR(n:Net)(k:Int):Prop:=0<=k/\k<=n.2.2.2.1.length
abbrev KW(n:Net):Prop:=(n.2.2.2.1.length:Int)<=1000000
def iH(p:Plan)(o:Int):Li:=p.2.2.1.getD o.toNat []
def aBx(p:Plan)(o:Int):Li:=((List.range (iH p o).length).filter λd:Nat=>decide ((d:Int)≠o)).map λd=>(iH p o).getD d 0
def wfR(l:Li):Prop:=∀j:Nat,-1<=l.getD j 0/\l.getD j 0<=1000000
def aEd(p:Plan)(o:Int):Prop:=0<=o/\o<p.2.2.1.length/\((iH p o).length:Int)<=1000000/\wfR (iH p o)
def Xa(x:Int):Li->Li|[]=>[x]|a::l=>if x<a then x::a::l else if x=a then a::l else a::Xa x l
def Xf(p:Plan)(o:Int):Li:=((aBx p o).filter λl=>decide (l≠-1)).foldr Xa []
def aE9(n:Net):IW:=⟨λf y=>match f with
 |1=>some {α:=Int,inv:=λk=>GR n k,st:=λk=>⟨put y.s [(8,.dat I k)],Dc k,true⟩,μ:=λk=>Dc (Dk (Di n.2.2.2.1) k)}|_=>none,λf s=>match f,s.sig.T 8 with
 |3,.dat (.int .i64) k=>some (put {s with mem:=[]} [(4,.ip Of (di n k))])
 |_,_=>none,λf=>f==3⟩
def KIM:FuncId->List AV->Option iD:=λf h=>if f=172 then match ofK [.ptr N] h with
 |some (n,_)=>some ⟨KW n,.pair I Of,JB n⟩|none=>none
 else none
theorem tS{n:Net}{x:Int}(h:0<=x)(f:x<n.2.2.2.1.length):oL (JB n) x.toNat (x,di n x):=by
 show((List.range n.2.2.2.1.length).map λi:Nat=>((i:Int),di n i))[x.toNat]?=_;have e:((x.toNat:Nat):Int)=x:=Z;rw[qQ,zH Z,zZ,e]
theorem WN(n:Net):(JB n).length=n.2.2.2.1.length:=by unfold JB;simp
theorem ZG(n:Net):lS Tryz.prog G0 172 [.ip N n] ⟨KW n,.pair I Of,JB n⟩:=by
 refine zI (c:=mkc KR2) (A:=aE9 n) Pn tC hm (p:=let u:=n.2.2.2;let j:=Di u.1;let X:=Dl (JB n);true/\true/\true/\false=false/\∀(l:Nat),KW n->(∃x,GR n x/\(T6 l n u u.1 j (0=x/\True))/\0=Dc x/\true)/\∀(x:Int),let z:=Dw u.1 (Dc x) (ByteArray.mk #[],(0:Int),(0:Int),(0:Int),(0:Int),(0:Int),Du ByteArray);let f:=(di n x).2;let G:=x+1;GR n x->(Dn x j->0<=x/\x<j/\T7 1 0 l n x 1 0 (z=di n x/\L4 u u.1 j x (Dn x j) x z z.1 z.2.1 (T6 z.2.2.1 z.2.2.2.1 z.2.2.2.2.1 z.2.2.2.2.2.1 z.2.2.2.2.2.2 ((true->l=l/\true/\oL (JB n) (Dc x) (x,(di n x).1,f.1,f.2.1,f.2.2.1,f.2.2.2.1,f.2.2.2.2.1,f.2.2.2.2.2)/\∀(b:Bool),(Dj b->b->Dc x+1=X)/\(Dj b=false->inR .i64 G/\∃y,GR n y/\((T6 l n u u.1 j (G=y/\True))/\Dc x+1=Dc y/\b)/\Dc (j-y)<Dc (j-x)))/\(true=false->(true->true)/\(Dj false->true->Dc x=X)/\(Dj false=false->inR .i64 G/\∃y,GR n y/\((T6 l n u u.1 j (G=y/\True))/\Dc x=Dc y/\true)/\Dc (j-y)<Dc (j-x)))))))/\(Dn x j=false->true->Dc x=X)) ⟨rfl,rfl,rfl,rfl,λl hs=>?_⟩;have eO:∀x:Int,n.2.2.2.1.getD x.toNat (⟨#[]⟩,0,0,0,0,0,[])=di n x:=λ_=>rfl;have eP:∀q:Off,(q.1,q.2.1,q.2.2.1,q.2.2.2.1,q.2.2.2.2.1,q.2.2.2.2.2.1,q.2.2.2.2.2.2)=q:=λ_=>rfl;refine Z9 ?_;simp only[qc,WN];unfold KW at hs;refine⟨⟨0,⟨Z,Z⟩,rfl,rfl⟩,λx ⟨x0,x1⟩=>⟨λL=>⟨x0,L,rfl,⟨tS x0 L,λb=>⟨λh1 h2=>(by rw[h1]at h2;cases h2),λhb=>⟨qj Z,x+1,⟨Z,Z⟩,⟨rfl,Z,hb⟩,Z⟩⟩⟩,λh=>(by cases h)⟩,λhge=>Z⟩⟩
def wD:Prop:=∀(p:Plan) (o:Int),aj Tryz.prog G0 122 [.agg [.dat I p.1,.dat I p.2.1,.dat M p.2.2.1,.dat (.sl M) p.2.2.2],.dat I o] [] ⟨aEd p o,.dat R (Xf p o),[]⟩
theorem aDq:aR Tryz.prog G0 KIM:=by
 intro f j it h;unfold KIM at h;split at h;case isFalse=>cases h
 rename_i G;subst G;split at h;case h_2=>cases h
 rename_i n _ y;cases h;exact λA l J JX JP w D u X L z=>ZG n A l J JX JP w D u X L (iW y z)
theorem JQ{x y:Int}:∀{l:Li},y∈Xa x l↔y=x\/y∈l
 |[]=>by simp[Xa]|a::l=>by
  unfold Xa;split;simp;split;rename_i h;subst h;simp;rw[zK,JQ (l:=l),zK];constructor;rintro(h|h|h);exact .inr (.inl h);exact .inl h;exact .inr (.inr h);rintro(h|h|h);exact .inr (.inl h);exact .inl h;exact .inr (.inr h)
theorem AX{x:Int}:∀{l:Li},l.Pairwise (· < ·)->(Xa x l).Pairwise (· < ·)
 |[],_=>qBk _ _|a::l,h=>by
  obtain⟨j,y⟩:=kC.1 h;unfold Xa;split;rename_i u;refine kC.2 ⟨λb f=>?_,h⟩;rcases zK.1 f with rfl|f;exact u;have:=j b f;omega;split;exact h;refine kC.2 ⟨λb f=>?_,AX y⟩;rcases JQ.1 f with rfl|f;omega;exact j b f
theorem MY{y:Int}:∀{l:Li},y∈l.foldr Xa []↔y∈l|[]=>by simp|a::l=>by rw[List.foldr_cons,JQ,MY,zK]
theorem xa:∀(l:Li),(l.foldr Xa []).Pairwise (· < ·)|[]=>xC|_::l=>AX (xa l)
theorem Bn{x:Int}(h:-1<=x/\x<=1000000):(Lit.int .i64 x).wf=true:=by
 have j:IntKind.min .i64=-9223372036854775808:=by decide
 have f:IntKind.max .i64=9223372036854775807:=by decide
 simp only[Lit.wf,j,f,qE,qF];omega
theorem Ol:wD:=by
 rintro p o ⟨o0,o1,o2,o3⟩ w D E us hD hG hargs hH;obtain⟨u1,us,rfl,⟨ps,rfl,hps⟩,u2,us,rfl,h2,rfl⟩:=hargs;obtain⟨v1,_,rfl,_,v2,_,rfl,_,v3,_,rfl,h3,v4,_,rfl,_,rfl⟩:=hps;have h2:[u2]=[Value.int .i64 o]:=h2;cases h2;obtain⟨ao,z,e3,_,_,hsp,A⟩:=h3;cases e3;have at_:(p.2.2.1)[o.toNat]?=some (iH p o):=by
  unfold iH;rw[qA,qB Z,vJ]
 obtain⟨a,ue,rfl,ha,hca,bo,cp2,rfl,_,_,hsp2,hin⟩:=A o.toNat (iH p o) at_;have sp:=hsp a rfl Z;have hw:∀j:Nat,(Lit.int .i64 ((iH p o)[j]?.getD 0)).wf=true:=λj=>by
  have:=o3 j;rw[qA]at this;exact Bn this
 have eo:((o.toNat:Nat):Int)=o:=Z;have mem:∀y,y∈Xf p o↔y≠-1/\y∈(og (iH p o) hw o.toNat (iH p o).length).map Subtype.val:=λy=>by
  unfold Xf aBx og;rw[MY,yY,qF,and_comm,qBx];have e:((List.range (iH p o).length).filter λd:Nat=>decide ((d:Int)≠o))=(List.range (iH p o).length).filter λd=>decide (d≠o.toNat):=by
   congr 1;funext d;rw[qAu];omega
  rw[e];have f:(λd:Nat=>(iH p o).getD d 0)=Subtype.val∘aCY (iH p o) hw:=by
   funext d;exact qA
  rw[f]
 have hc:=XL #[v1,v2,.slice (some a) p.2.2.1.length z,v4] o.toNat (iH p o) hw Z (Xf p o) (xa _) mem w λw1 G=>by
  have hB:Go.RowKit.Below w.heap.size w w1:=by rw[G];exact((Go.RowKit.Below.refl _ w).alloc (qL _) _).alloc (by simp) _
  have s1:w1.heap.size=w.heap.size+1+1:=by rw[G];simp
  have c1:w1.heap[w.heap.size]?=some (.cells #[v1,v2,.slice (some a) p.2.2.1.length z,v4] 43 (0,0)):=by
   rw[G];exact(Go.RowKit.Below.heap_alloc _ _ _ (by simp)).trans (World.alloc_heap_new w _)
  have c2:w1.heap[w.heap.size+1]?=some (.cells #[.int .i64 o] 3 (0,0)):=by
   have:=World.alloc_heap_new (w.alloc (.cells #[v1,v2,.slice (some a) p.2.2.1.length z,v4] 43)) (.cells #[.int .i64 ((o.toNat:Nat):Int)] 3);rw[qH,eo]at this;rw[G,eo];exact this
  refine⟨Z,Z,by rw[eo];simp[World.cell?,c2],a.block,a.off,p.2.2.1.length,z,bo,cp2,?_,Z,by have:=hD _ ha;omega,?_,?_⟩;obtain⟨b,f,s⟩:=a;have sp:s=none:=sp;subst sp;simp[World.cell?,c1];have:=hca 0 _ rfl;exact(hB.cell (p:=⟨a.block,a.off+o.toNat*1+0,none⟩) (hD _ ha)).trans this |> λh=>by
   rw[show a.off+o.toNat*1+0=a.off+o.toNat by omega]at h;exact h
  by_cases hz:(iH p o).length=0;exact .inl hz;have at0:(iH p o)[0]?=some ((iH p o).getD 0 0):=by
   rw[qA,qB Z,vJ]
  obtain⟨L,_,e2,hb2,_⟩:=hin 0 _ at0;subst e2;have X:=hsp2 L rfl Z;refine .inr ⟨L.block,L.off,?_,by have:=hD _ hb2;omega,λj hj=>?_⟩;obtain⟨b,f,s⟩:=L;have X:s=none:=X;subst X;rfl;have atj:(iH p o)[j]?=some ((iH p o)[j]?.getD 0):=by
   rw[qB hj,vJ]
  obtain⟨a3,ue3,e3,hb3,hc3,hr3⟩:=hin j _ atj;cases e3;have hr3:ue3=[Value.int .i64 ((iH p o)[j]?.getD 0)]:=hr3;subst hr3;have:=hc3 0 _ rfl;have h:=(hB.cell (p:=⟨L.block,L.off+j*1+0,none⟩) (hD _ hb3)).trans this;rw[show L.off+j*1+0=L.off+j by omega]at h;exact h
 rw[eo]at hc;refine hc.mono ?_;rintro e w' ⟨v,rfl,A,hnil,hB⟩;refine⟨v,λb=>D b\/gv w w' b,E,rfl,⟨(Chg.refl _ _).below hB,λ_ h=>.inl h,λb h=>h.imp id λh=>.inl h.1,λb h=>h.elim (λh=>qK (hD b h) hB.size) λh=>h.2,Held.none _ _ _ _,λnm b b' g=>(by cases g),λnm b b' g=>(by cases g),λnm b _ g=>(by cases g),λnm i b g=>(iU g).elim⟩,?_⟩;show ∃(ao:Option Addr) (z:Nat),[v]=[.slice ao (Xf p o).length z]/\_;obtain⟨_,⟨rfl,h0⟩|⟨g,z,cur,rfl,hg,hb,hcap,_,hsz,htk⟩⟩:=A;have h0:Xf p o=[]:=vK h0;rw[h0];exact⟨none,0,rfl,qL _,λ_=>rfl,λ_ h=>(by cases h),λi y h=>(by cases h)⟩;refine⟨_,z,rfl,hcap,λh=>(by cases h),λa h _=>(by cases h;rfl),λi y hy=>⟨_,[Value.int .i64 y],rfl,.inr ⟨hg,(qJ.1 hb).1⟩,λj u hj=>?_,rfl⟩⟩;cases j with
 |succ j=>cases hj
 |zero=>
  have hj:some (Value.int .i64 y)=some u:=hj;cases hj;show w'.cell? ⟨g,0+i*1+0,none⟩=_;have hi:i<(Xf p o).length:=(qC.1 hy).1;have e:(cur.toList.take ((Xf p o).length*1))[i]?=some (Value.int .i64 y):=by
   rw[htk,qQ,hy];rfl
  rw[List.getElem?_take_of_lt Z,yB]at e;have hi2:0+i*1+0<cur.size:=Z;rw[show 0+i*1+0=i by omega]at hi2 ⊢;simp[World.cell?,hb,e]
end Go.Eng.Sv
set_option maxHeartbeats 4000000
namespace Go.Eng.Sv
open Go.Proofs
abbrev De:Ty:=.pair I (.pair I (.pair Po (.pair S (.pair S I))))
abbrev Tk:Ty:=.pair Po (.pair (.sl Stp) (.pair .bool (.pair R (.pair (.sl S) (.sl S)))))
abbrev Post:=ByteArray×Int×Int×Int×Int
abbrev bZ:=Int×Int×Post×ByteArray×ByteArray×Int
abbrev Trk:=Post×List Stop×Bool×Li×List ByteArray×List ByteArray
abbrev U8:Ty:=.int .u8
def YU(b:Int):Bool:=decide (65<=b/\b<=90)
def WW(b:Int):Bool:=YU b||decide (48<=b/\b<=57)||decide (b=46)
def fh(s:ByteArray):Bool:=decide (1<=s.size/\s.size<=20)&&s.data.toList.all λb=>WW (b.toNat:Int)
def pX(s:ByteArray)(k:Int):Prop:=0<=k/\k<=s.size/\(s.data.toList.take k.toNat).all (λb=>WW (b.toNat:Int))=true
def dfD:bZ:=(0,0,(⟨#[]⟩,0,0,0,0),⟨#[]⟩,⟨#[]⟩,0)
def isPost(lb:ByteArray)(d:bZ):Bool:=decide (d.1=1)&&(d.2.2.1.1.toList==lb.toList)
def N6(ds:List bZ)(lb:ByteArray):Int:=match ds.findIdx? (isPost lb)with|some i=>Int.ofNat i|none=>-1
def FZ(ds:List bZ)(lb:ByteArray)(k:Int):Prop:=0<=k/\k<=ds.length/\(ds.take k.toNat).any (isPost lb)=false
def hasB(ds:List bZ)(lb:ByteArray):Bool:=ds.any (isPost lb)
def aCp(n:Net)(pre:List bZ)(d:bZ):Bool:=fh d.2.2.1.1&&!hasB pre d.2.2.1.1&&cA d.2.2.1.2.1 n.2.2.2.1.length&&cA d.2.2.1.2.2.1 n.2.2.2.1.length&&cA d.2.2.1.2.2.2.1 n.2.2.2.2.2.length&&decide (d.2.2.1.2.2.2.2=d.2.1)
def oz(n:Net)(pre:List bZ)(d:bZ):Bool:=if d.1=1 then aCp n pre d else if d.1=2 then hasB pre d.2.2.2.1 else if d.1=3 then hasB pre d.2.2.2.1 else if d.1=4 then hasB pre d.2.2.2.1&&hasB pre d.2.2.2.2.1&&!(d.2.2.2.1.toList==d.2.2.2.2.1.toList)else if d.1=5 then cA d.2.2.2.2.2 n.2.2.2.2.1.length else false
def C4(n:Net)(ds:List bZ)(i:Nat):Bool:=decide (0<=(ds.getD i dfD).2.1/\(ds.getD i dfD).2.1<=1000000)&&(decide (i=0)||decide ((ds.getD (i-1) dfD).2.1<=(ds.getD i dfD).2.1))&&oz n (ds.take i) (ds.getD i dfD)
def pcF(ds:List bZ):Int:=(ds.filter λd=>decide (d.1=1)).length
def r7(ds:List bZ)(k:Int):Int:=pcF (ds.take k.toNat)
def fk(n:Net)(ds:List bZ):Bool:=(List.range ds.length).all (C4 n ds)&&decide (ds.length<=120)&&decide (pcF ds<=60)
def M7(n:Net)(ds:List bZ)(k:Int):Prop:=0<=k/\k<=ds.length/\∀i:Nat,(i:Int)<k->C4 n ds i=true
abbrev nH(ds:List bZ):Prop:=ds.length<=9223372036854775807/\∀d∈ds,yg d.2.2.1.1
def aCg(n:Net)(nx:Lj):Bool:=aZ n&&nP n nx
def Ig(n:Net)(nx:Lj)(ds:List bZ):Bool:=Go.Eng.In.smF n nx&&decide ((ds.length:Int)<=16)
def iZ(l:List Stop):Stop:=l.getD (l.length-1) (0,0,0,0)
def I0(n:Net)(t:Trk):Bool:=decide (0<t.2.1.length)&&aZ n&&!t.2.2.1&&decide ((iZ t.2.1).1=t.1.2.2.1)&&decide ((iZ t.2.1).2.2.1=-1)&&decide (0<t.2.2.2.2.1.length)&&((t.2.2.2.2.1.getD (t.2.2.2.2.1.length-1) ⟨#[]⟩).toList==t.1.1.toList)&&decide (Ky n t.1.2.2.2.1 (iZ t.2.1).1 (iZ t.2.1).2.1=0)
abbrev dvP(a:List Stop)(b:List ByteArray):Prop:=a.length<=1000000/\b.length<=1000000
def dvD(n:Net)(t:Trk):Int:=if I0 n t=true then Ye n t.1.2.2.2.1 (iZ t.2.1).1 (iZ t.2.1).2.1 else 0
def aBt(n:Net)(nx:Lj):Ann:=⟨λf s=>match f with
 |4=>some {α:=Int,inv:=λk=>iz n nx k,st:=λk=>put s [(17,.dat I k)],μ:=λk=>Dc (Dk (Di nx) k)}|9=>match s.sig.T 5,s.sig.T 6 with
  |.dat (.int .i64) o,.dat (.sl (.int .i64)) row=>some {α:=Int,inv:=λk=>li n o row k,st:=λk=>put s [(30,.dat I k)],μ:=λk=>Dc (Dk (Di row) k)}|_,_=>none
 |_=>none,λ_ _=>none,λ_ _=>none⟩
def aF1(s:ByteArray)(sl:Nat):Ann:=Z8 2 Int (pX s) (λf k=>put f [(sl,.dat I k)]) λk=>Dc (Dk (Ei s) k)
noncomputable def mk0:Cfg:=⟨Tryz.prog,[],K0,λ_=>false,KI0,false,λ_ _ _=>none,λ_=>false⟩
abbrev sE:=aA [.val U8] (λ_=>True) λ(b,_)=>.dat .bool (YU b)
abbrev sk:=aA [.val I,.val I] (λ_=>True) λ(i,l,_)=>.dat .bool (cA i l)
def KX1:Kt:=kOr 159 sE <|
 kOr 158 sk KRD
def aCB(n:Net)(nx:Lj):Ann:=⟨λf s=>match f with
 |4=>some {α:=Int,inv:=λk=>iz n nx k,st:=λk=>put s [(5,.dat I k)],μ:=λk=>Dc (Dk (Di nx) k)}|9=>match s.sig.T 5 with
  |.dat (.int .i64) o=>some {α:=Int,inv:=λk=>li n o (Dw nx (Dc o) []) k,st:=λk=>put s [(6,.dat I k)],μ:=λk=>Dc (Dk (Di nx) k)}|_=>none
 |_=>none,λ_ _=>none,λ_ _=>none⟩
def aGs(ds:List bZ)(lb:ByteArray):Ann:=Z8 2 Int (FZ ds lb) (λf k=>put f [(5,.dat I k)]) λk=>Dc (Dk (Di ds) k)
abbrev vB:=aA [.row N,.val M] (λ(_,nx,_)=>jb nx) λ(n,nx,_)=>.dat .bool (nP n nx)
abbrev vR:=aA [.val S] (λ(s,_)=>yg s) λ(s,_)=>.dat .bool (fh s)
abbrev wa:=aA [.val (.sl De),.val S] (λ(f,_,_)=>nH f) λ(f,h,_)=>.dat I (N6 f h)
def KX2:Kt:=kOr 93 vB <|
 kOr 94 vR <|
 kOr 95 wa <|
 kOr 9 (aA [.row N] (λ(n,_)=>nY n=true) λ(n,_)=>.dat .bool (aZ n)) <|
 kOr 24 (aA [.row N,.val M] (λ_=>True) λ(n,nx,_)=>.dat .bool (Go.Eng.In.smF n nx)) <|
 kOr 37 (aA [.row N] (λ_=>True) λ(n,_)=>.dat .bool (aZ n)) <|
 kOr 43 MM KX1
def aCV(n:Net)(ds:List bZ):Ann:=Z8 3 Int (M7 n ds) (λf k=>put f [(5,.dat I (r7 ds k)),(6,.dat I k)]) λk=>Dc (Dk (Di ds) k)
theorem KQ(z:LC)(h f:LB)(y:Lo)(j:Ll)(u:Lk):aj Tryz.prog G0 37 [net z h f y j u] [] ⟨True,.dat .bool (aZ (z,h,f,y,j,u)),[]⟩:=
 zE (A:=aG) (p:=let G:=(z,h,f,y,j,u);(True->True/\Ed (Di (fm G)) 0=aZ G/\True)) Ya λ_=>⟨trivial,by rw[zo];rfl,trivial⟩
theorem zy{n:Net}{o y:Int}{row:Li}(h:li n o row y)(j:y<row.length)(f:km n o (row.getD y.toNat 0)=true):li n o row (y+1):=by
 have:=h.1;refine⟨Z,Z,h.2.2.1,λi u=>?_⟩;by_cases e:(i:Int)<y;exact h.2.2.2 i e;rw[show i=y.toNat by omega];exact f
theorem uE{n:Net}{nx:Lj}{x y:Int}(h:iz n nx x)(u:x<nx.length)(f:li n x (nx.getD x.toNat []) y)(G:¬y<(nx.getD x.toNat []).length):iz n nx (x+1):=by
 have:=h.1;refine⟨Z,Z,h.2.2.1,λi A=>?_⟩;by_cases e:(i:Int)<x;exact h.2.2.2 i e;rw[show i=x.toNat by omega,show((x.toNat:Nat):Int)=x by omega];exact(pG f.2.2.1).2 λj z=>f.2.2.2 j Z
theorem KN{n:Net}{nx:Lj}{x:Int}(h:iz n nx x)(u:x<nx.length)(j:rowOk n x (nx.getD x.toNat [])=false):false=nP n nx:=by
 refine(yS.2 λf=>?_).symm;have:=(ou h.2.2.1).1 f x.toNat (by have:=h.1;omega);rw[show((x.toNat:Nat):Int)=x by have:=h.1;omega,j]at this;cases this
theorem Yr{n:Net}{x y:Int}{row:Li}(f:li n x row y)(u:y<row.length)(j:km n x (row.getD y.toNat 0)=false):rowOk n x row=false:=by
 refine yS.2 λh=>?_;have:=(pG f.2.2.1).1 h y.toNat (by have:=f.1;omega);rw[j]at this;cases this
theorem FK{n:Net}{x:Int}{row:Li}(h:¬(row.length:Int)=n.2.2.2.1.length):rowOk n x row=false:=by
 unfold rowOk;rw[qY h];rfl
theorem EC{n:Net}{nx:Lj}(h:¬(nx.length:Int)=n.2.2.2.1.length):false=nP n nx:=by
 unfold nP;rw[qY h];rfl
theorem P4{n:Net}{nx:Lj}{x:Int}(h:iz n nx x)(f:¬x<nx.length):true=nP n nx:=((ou h.2.2.1).2 λi j=>h.2.2.2 i (by have:=h.1;omega)).symm
theorem M1{nx:Lj}(f:jb nx){x:Int}(j:0<=x)(h:x<nx.length):(nx.getD x.toNat []).length<=1000000:=f.2 _ (by
 rw[qA,qB Z,vJ];exact wS _)
theorem t7{n:Net}{o l:Int}:km n o l=true↔l=-1\/((0<=l/\l<n.2.2.2.2.1.length)/\cF n l=o):=by
 unfold km;rw[yM,qE,cE];simp
theorem TM{n:Net}{o l:Int}(y:l≠-1)(u:¬(0<=l/\l<n.2.2.2.2.1.length)\/cF n l≠o):km n o l=false:=by
 refine yS.2 λh=>?_;rcases t7.1 h with h|⟨j,f⟩;exact y h;exact u.elim (λg=>g j) λg=>g f
theorem Zr(nx:Lj)(cs:LC)(ns os:LB)(fs:Lo)(X:Ll)(ks:Lk):aj Tryz.prog G0 38 [net cs ns os fs X ks,.dat M nx] [] ⟨jb nx,.dat .bool (nP (cs,ns,os,fs,X,ks) nx),[]⟩:=by
 refine zE (A:=(lvA [(4,[2,4,5,6,8,15,16,17,28,29,30]),(9,[2,4,5,6,8,15,16,17,28,29,30])] (aBt (cs,ns,os,fs,X,ks) nx))) (p:=let c1:=Di fs;let c2:=Ea (Di nx) c1;let G:=(cs,ns,os,fs,X,ks);let c4:=nP G nx;let c5:=Di X;(jb nx->(c2->false=c4/\True)/\(c2=false->(∃x,iz G nx x/\Q4 G nx (Di nx) (0=x/\True))/\∀(x:Int),let A:=Dn x (Di nx);let h:=Dw nx (Dc x) [];let c8:=Di h;let c9:=Ea c8 c1;let c10:=x+1;iz G nx x->(A->0<=x/\x<Di nx/\(c9->false=c4/\True)/\(c9=false->(∃f,li G x h f/\z8 G x h nx (Di nx) x h c8 (0=f/\True))/\∀(f:Int),let L:=Dw h (Dc f) 0;let c12:=Ed L (-1);let u:=f+1;let c14:=Dn L 0;let z:=Dj c14;let c16:=Dy c14 true (Eb L c5);let j:=Dj c16;let c18:=Dy c16 true (Ea (Dw X (Dc L) (ByteArray.mk #[],(0:Int),(0:Int),(0:Int),(0:Int),(0:Int))).2.1 x);li G x h f->(Dn f c8->0<=f/\f<c8/\(c12->inR .i64 u/\∃y,li G x h y/\(z8 G x h nx (Di nx) x h c8 (u=y/\True))/\Dc (c8-y)<Dc (c8-f))/\(c12=false->L5 z (Q3 z ((Dh true z->z)/\Q3 j ((j->0<=L)/\(j->L<c5)/\L5 j (Q3 j ((Dh true j->j)/\(c18->false=c4/\True)/\(c18=false->inR .i64 u/\∃y,li G x h y/\(z8 G x h nx (Di nx) x h c8 (u=y/\True))/\Dc (c8-y)<Dc (c8-f)))))))))/\(Dn f c8=false->inR .i64 c10/\∃y,iz G nx y/\(Q4 G nx (Di nx) (c10=y/\True))/\Dc (Di nx-y)<Dc (Di nx-x))))/\(A=false->true=c4/\True)))) Ya λhf=>?_
 refine Z9 ?_;have hf1:=hf.1;have st:∀x y:Int,li (cs,ns,os,fs,X,ks) x (nx.getD x.toNat []) y->y<(nx.getD x.toNat []).length->(nx.getD x.toNat []).length<=1000000->km (cs,ns,os,fs,X,ks) x ((nx.getD x.toNat []).getD y.toNat 0)=true->inR .i64 (y+1)/\
   ∃z,li (cs,ns,os,fs,X,ks) x (nx.getD x.toNat []) z/\y+1=z/\(((nx.getD x.toNat []).length:Int)-z).toNat<(((nx.getD x.toNat []).length:Int)-y).toNat:=λx y h h1 h2 h3=>by
  have:=h.1;exact⟨by unfold inR;simp only;omega,y+1,zy h h1 h3,rfl,Z⟩
 refine⟨λh=>EC h,λhe=>⟨⟨qN _,Z,he,λi h=>Z⟩,λx hx=>⟨λu=>⟨hx.1,u,λhr=>KN hx u (FK hr),λhr=>⟨⟨qN _,Z,hr,λi h=>Z⟩,λy hy=>⟨λhly=>⟨hy.1,hly,λh1=>st x y hy hly (M1 hf hx.1 u) (t7.2 (.inl h1)),λh1=>⟨λh=>Z,λh=>Z,λh=>KN hx u (Yr hy hly (TM h1 (h.imp (λh=>by
  show ¬(_/\_<(X.length:Int));omega) id))),λh=>st x y hy hly (M1 hf hx.1 u) (t7.2 (.inr ⟨⟨Z,by show _<(X.length:Int);omega⟩,h.2⟩))⟩⟩,λhge=>?_⟩⟩⟩,λhge=>P4 hx hge⟩⟩⟩
 have:=hx.1;exact⟨by unfold inR;simp only;omega,x+1,uE hx u hy hge,rfl,Z⟩
theorem Ox{s:ByteArray}{x:Int}(h:pX s x)(u:x<s.size)(f:WW (Fz s x)=true):pX s (x+1):=by
 obtain⟨z,y,j⟩:=h;refine⟨Z,Z,?_⟩;rw[show(x+1).toNat=x.toNat+1 by omega];exact eQ (d:=0) j (by rw[iO];omega) (by rw[ki];exact f)
theorem YI{s:ByteArray}{x:Int}(h:pX s x)(j:x<s.size)(f:WW (Fz s x)=false):false=fh s:=by
 have:(s.data.toList.all λb=>WW (b.toNat:Int))=false:=lH (d:=0) (k:=x.toNat) (by rw[iO];have:=h.1;omega) (by rw[ki];exact f);unfold fh;rw[this,kZ]
theorem RS{s:ByteArray}{x:Int}(h:pX s x)(j:¬x<s.size):(decide ((s.size:Int)≥1)&&decide ((s.size:Int)<=20))=fh s:=by
 obtain⟨y,u,f⟩:=h;rw[qM (by rw[iO];omega)]at f;unfold fh;rw[f,kV,<- Bool.decide_and];congr 1;exact qCa Z
theorem Cf{b:Int}:WW b=true↔(65<=b/\b<=90)\/(48<=b/\b<=57)\/b=46:=by
 unfold WW YU;simp[or_assoc]
theorem RU{b:Int}(h:¬((65<=b/\b<=90)\/(48<=b/\b<=57)\/b=46)):WW b=false:=yS.2 λg=>h (Cf.1 g)
theorem Av(s:ByteArray):pX s 0:=⟨qN _,qU _,by simp⟩
theorem LQ{s:ByteArray}{x:Int}(h:pX s x)(f:x<s.size)(j:yg s)(u:WW (Fz s x)=true):inR .i64 (x+1)/\∃y,pX s y/\x+1=y/\((s.size:Int)-y).toNat<((s.size:Int)-x).toNat:=
 ⟨by have:=h.1;unfold yg at j;unfold inR;simp only;omega,x+1,Ox h f u,rfl,by have:=h.1;omega⟩
theorem Qo(s:ByteArray):aj Tryz.prog [] 99 [.dat S s] [] ⟨yg s,.dat .bool (fh s),[]⟩:=by
 refine zF (c:=mk0) (A:=(lvA [(2,[0,2,4,6,7,8])] (aF1 s 8))) (λ_ _ _ _ h=>by cases h) (λ_ _ _ h=>by cases h) hm (p:=let f:=Fv s;let X:=Eb (Ei s) 1;true/\(yg s->(∃x,pX s x/\Q4 s (Fv s) (Di f) (0=x/\True))/\∀(x:Int),let c2:=Dn x (Di f);let u:=Dw f (Dc x) 0;let c4:=Dn u 65;let c5:=Dj c4;let h:=Dy c4 true (Ee u 90);let j:=Dn u 48;let L:=Dy h (Dy j true (Ee u 57)) false;let A:=Dy L (Ea u 46) false;let z:=x+1;pX s x->(c2->0<=x/\x<Di f/\L5 c5 ((Dh true c5->c5)/\Q2 h (L5 (Dh h (Dj j)) (L5 h ((h->Dh h (Dj j)->Dh h (Dj j))/\(Dh true h->h)/\L5 L ((Dh true L->L)/\(A->false=fh s/\True)/\(A=false->inR IntKind.i64 z/\∃y,pX s y/\(Q4 s (Fv s) (Di f) (z=y/\True))/\Dc (Ei s-y)<Dc (Ei s-x))))))))/\(c2=false->Q2 X ((Dh true X->X)/\Dy X (Ef (Ei s) 20) false=fh s/\True)))) ⟨rfl,λhs=>?_⟩;refine Z9 ?_;simp only[qc,xw,mO];exact⟨Av s,λx G=>⟨λj=>⟨G.1,j,λh=>YI G j (RU Z),λh=>LQ G j hs (Cf.2 Z)⟩,RS G⟩⟩
theorem Qr:eO 159 sE:=af λ((b:Int),_)=>by
 refine zE (A:=aG) (p:=let f:=Eb b 65;(True->L5 f ((Dh true f->f)/\Dy f (Ef b 90) false=YU b/\True))) Ya λ_=>?_;refine Z9 ?_;unfold YU;rw[<- Bool.decide_and]
theorem P6:eO 158 sk:=af λ((i:Int),(l:Int),_)=>by
 refine zE (A:=aG) (p:=let f:=Eb i 0;(True->Q2 f ((Dh true f->f)/\Dy f (Dn i l) false=cA i l/\True))) Ya λ_=>?_;refine Z9 ?_;unfold cA;rw[<- Bool.decide_and]
theorem aD1:ay Tryz.prog G0 KX1:=ai Qr<|ai P6 Ya
theorem UW:eO 93 vB:=af λ(((cs,ns,os,fs,ls,ks):Net),(nx:Lj),_)=>by
 refine zE (A:=(lvA [(4,[1,2,4,5,6,7]),(9,[1,2,4,5,6,7])] (aCB (cs,ns,os,fs,ls,ks) nx))) (p:=let L:=Di nx;let c1:=Ea L (Di fs);let u:=(cs,ns,os,fs,ls,ks);let c3:=nP u nx;let c4:=Di ls;(jb nx->(c1->false=c3/\True)/\(c1=false->(∃x,iz u nx x/\L7 nx u (0=x/\True))/\∀(x:Int),let c5:=Dn x L;let j:=Dw nx (Dc x) [];let A:=Di j;let c8:=Ea A L;let X:=x+1;iz u nx x->(c5->0<=x/\x<Di nx/\(c8->false=c3/\True)/\(c8=false->(∃f,li u x j f/\Q4 nx u x (0=f/\True))/\∀(f:Int),let c10:=Dn f L;let G:=Dw j (Dc f) 0;let h:=Ea G (-1);let c13:=Dj (cA G c4);let z:=Dj c13;let c18:=Dh h z;let c14:=Dy h (Dy c13 true (Ea (Dw ls (Dc G) (ByteArray.mk #[],(0:Int),(0:Int),(0:Int),(0:Int),(0:Int))).2.1 x)) false;let c15:=f+1;li u x j f->(c10->0<=x/\x<Di nx/\0<=f/\f<A/\L5 h (Q3 h ((h->True)/\Q2 h (Q3 c18 ((Dh h z->0<=G)/\(Dh h z->G<c4)/\L5 c18 (Q3 c18 (L5 h ((h->Dh h z->Dh h z)/\(Dh true h->h)/\(c14->false=c3/\True)/\(c14=false->inR .i64 c15/\∃y,li u x j y/\(Q4 nx u x (c15=y/\True))/\Dc (Di nx-y)<Dc (Di nx-f))))))))))/\(c10=false->inR .i64 X/\∃y,iz u nx y/\(L7 nx u (X=y/\True))/\Dc (Di nx-y)<Dc (Di nx-x))))/\(c5=false->true=c3/\True)))) aD1 λhf=>?_;refine Z9 ?_;have hf1:=hf.1;refine⟨λh=>EC h,λhe=>⟨⟨qN _,Z,he,λi h=>Z⟩,λx X=>⟨λj=>⟨X.1,j,λhr=>KN X j (FK (by show ¬(_=(fs.length:Int));omega)),λhr=>⟨⟨qN _,Z,by show _=(fs.length:Int);omega,λi h=>Z⟩,λy hy=>⟨λhly=>⟨X.1,j,hy.1,Z,λh=>(cE.1 h.2).1,λh=>(cE.1 h.2).2,λh=>KN X j (Yr hy Z (TM h.1 (h.2.imp (λh=>by
  rw[<- cE];exact yS.1 h) id))),λh=>?_⟩,λhge=>?_⟩⟩⟩,λhge=>P4 X hge⟩⟩⟩
 have:=hy.1;refine⟨by unfold inR;simp only;omega,y+1,zy hy Z (t7.2 ?_),rfl,Z⟩;by_cases h1:(nx.getD x.toNat []).getD y.toNat 0=-1;exact .inl h1;exact .inr ⟨cE.1 (h h1).1,(h h1).2⟩;have:=X.1;exact⟨by unfold inR;simp only;omega,x+1,uE X j hy Z,rfl,Z⟩
theorem aAO{b:Int}:YU b=false↔b<65\/b>90:=by
 unfold YU;rw[wG];omega
theorem U4:eO 94 vR:=af λ((s:ByteArray),_)=>by
 refine zE (A:=(lvA [(2,[0,2,3])] (aF1 s 3))) (p:=let G:=Ei s;let L:=Eb G 1;(yg s->(∃x,pX s x/\s=s/\0=x/\True)/\∀(x:Int),let f:=Dj (YU (Fz s x));let c3:=Dn (Fz s x) 48;let h:=Dj c3;let z:=Dy f (Dy c3 true (Ee (Fz s x) 57)) false;let X:=Dy z (Ea (Fz s x) 46) false;let j:=x+1;pX s x->(Dn x G->0<=x/\x<Ei s/\True/\Q2 f ((f->0<=x)/\(f->x<Ei s)/\Q2 f (Q2 (Dh f h) ((Dh f h->0<=x)/\(Dh f h->x<Ei s)/\L5 (Dh f h) (L5 f ((f->Dh f h->Dh f h)/\(Dh true f->f)/\Q2 z ((z->0<=x)/\(z->x<Ei s)/\L5 z ((Dh true z->z)/\(X->false=fh s/\True)/\(X=false->inR .i64 j/\∃y,pX s y/\(s=s/\j=y/\True)/\Dc (Ei s-y)<Dc (Ei s-x))))))))))/\(Dn x G=false->Q2 L ((Dh true L->L)/\Dy L (Ef G 20) false=fh s/\True)))) aD1 λhs=>?_;refine Z9 ?_;simp only[qc,aAO];exact⟨Av s,λx u=>⟨λj=>⟨u.1,j,λ_=>u.1,λ_=>j,λ_=>u.1,λ_=>j,λ_=>u.1,λ_=>j,λh=>YI u j (RU Z),λh=>LQ u j hs (Cf.2 Z)⟩,RS u⟩⟩
theorem post_at{ds:List bZ}{lb:ByteArray}{x:Int}(h:FZ ds lb x)(y:x<ds.length)(u:isPost lb (ds.getD x.toNat dfD)=true):x=N6 ds lb:=by
 have e:ds.findIdx? (isPost lb)=some x.toNat:=by
  rw[List.findIdx?_eq_some_iff_getElem];have f:x.toNat<ds.length:=by have:=h.1;omega
  refine⟨f,by rw[qA,qB f]at u;exact u,λj z=>?_⟩;have:=qAq.1 h.2.2 (ds[j]'Z) (yG.2 ⟨j,by rw[qO];omega,by simp⟩);simpa using this
 unfold N6;rw[e];show x=((x.toNat:Nat):Int);have:=h.1;omega
theorem VX{ds:List bZ}{lb:ByteArray}{x:Int}(h:FZ ds lb x)(j:¬x<ds.length): -1=N6 ds lb:=by
 have e:ds.findIdx? (isPost lb)=none:=by
  rw[List.findIdx?_eq_none_iff];intro d hd;have f:=h.2.2;rw[qM Z]at f;simpa using qAq.1 f d hd
 unfold N6;rw[e]
theorem N5{ds:List bZ}{lb:ByteArray}{x:Int}(h:FZ ds lb x)(j:x<ds.length)(f:isPost lb (ds.getD x.toNat dfD)=false):FZ ds lb (x+1):=by
 have:=h.1;refine⟨Z,Z,?_⟩;rw[show(x+1).toNat=x.toNat+1 by omega];exact rJ h.2.2 Z f
theorem U7:eO 95 wa:=af λ((f:List bZ),(j:ByteArray),_)=>by
 refine zE (A:=(lvA [(2,[0,1,4,5])] (aGs f j))) (p:=let L:=Di f;(nH f->(∃x,FZ f j x/\L7 f j (0=x/\True))/\∀(x:Int),let c3:=Dw f (Dc x) ((0:Int),(0:Int),(ByteArray.mk #[],(0:Int),(0:Int),(0:Int),(0:Int)),ByteArray.mk #[],ByteArray.mk #[],(0:Int));let z:=Ed c3.1 1;let c5:=Dy z (Gf c3.2.2.1.1 j) false;let h:=x+1;FZ f j x->(Dn x L->0<=x/\x<L/\Q2 z ((z->0<=x)/\(z->x<L)/\Q2 z (Q3 z ((Dh true z->z)/\(c5->x=N6 f j/\True)/\(c5=false->inR .i64 h/\∃y,FZ f j y/\(L7 f j (h=y/\True))/\Dc (L-y)<Dc (L-x))))))/\(Dn x L=false->(-1:Int)=N6 f j/\True))) aD1 λhd=>?_;refine Z9 ?_;have hd1:=hd.1;refine⟨⟨qN _,qU _,by simp⟩,λx G=>⟨λu=>⟨G.1,u,λ_=>G.1,λ_=>u,λh=>post_at G u ?_,λh=>⟨by have:=G.1;unfold inR;simp only;omega,x+1,N5 G u ?_,rfl,by have:=G.1;omega⟩⟩,λX=>VX G X⟩⟩;unfold isPost dfD;rw[qE,qF,yX];exact h;unfold isPost dfD;refine yS.2 λg=>?_;rw[qE,qF,yX]at g;exact h g.1 g.2
theorem aBp:ay Tryz.prog G0 KX2:=ai UW<|ai U4<|ai U7<|ai (af λ((z,h,f,y,j,u),_)=>Qa z h f y j u)<|ai (af λ((z,h,f,y,j,u),nx,_)=>OG (Go.Eng.In.Qb nx z h f y j u))<|ai (af λ((z,h,f,y,j,u),_)=>KQ z h f y j u)<|ai aES aD1
abbrev AE:=aA [.row N,.row Pl] (λ(n,p,_)=>nY n=true/\jb p.2.2.1) λ(n,p,_)=>.dat .bool (aCg n p.2.2.1)
theorem Zy:eO 35 AE:=af λ(((X,y,u,L,z,G):Net),((p1,p2,nx,dy):Plan),_)=>by
 refine zE (A:=aG) (p:=let h:=(X,y,u,L,z,G);let f:=aZ h;(nY h/\jb nx->nY h/\Q3 f ((f->jb nx)/\(Dh true f->f)/\Dy f (nP h nx) false=aCg h nx/\True))) aBp λj=>?_;refine Z9 ?_;exact⟨j.1,λ_=>j.2,rfl⟩
theorem ZL(ds:List bZ)(p1 p2:Int)(nx:Lj)(X:List (Lj))(G:LC)(j h:LB)(z:Lo)(u:Ll)(y:Lk):aj Tryz.prog G0 17 [net G j h z u y,.agg [.dat I p1,.dat I p2,.dat M nx,.dat (.sl M) X],.dat (.sl De) ds] [] ⟨True,.dat .bool (Ig (G,j,h,z,u,y) nx ds),[]⟩:=by
 refine zE (A:=aG) (p:=let L:=(G,j,h,z,u,y);let f:=In.smF L nx;(True->True/\Q2 f ((Dh true f->f)/\Dy f (Ef (Di ds) 16) false=Ig L nx ds/\True))) aBp λ_=>?_;refine Z9 ?_;rfl
theorem aFp{n:Net}{t:Trk}(h:I0 n t=false):0=dvD n t/\false=I0 n t:=⟨by unfold dvD;rw[h];rfl,h.symm⟩
theorem YQ{n:Net}{t:Trk}:I0 n t=true↔0<t.2.1.length/\aZ n=true/\t.2.2.1=false/\(iZ t.2.1).1=t.1.2.2.1/\(iZ t.2.1).2.2.1=-1/\0<t.2.2.2.2.1.length/\(t.2.2.2.2.1.getD (t.2.2.2.2.1.length-1) ⟨#[]⟩).toList=t.1.1.toList/\Ky n t.1.2.2.2.1 (iZ t.2.1).1 (iZ t.2.1).2.1=0:=by
 unfold I0;simp only[qE,qF,zB,yX,qAt]
abbrev Ht:=aA [.row N,.row Tk] (λ(_,t,_)=>dvP t.2.1 t.2.2.2.2.1) λ(n,t,_)=>.tup [.dat I (dvD n t),.dat .bool (I0 n t)]
theorem aBT:eO 22 Ht:=af λ(((cs,ns,os,fs,ls,ks):Net),((G:Post),(z:List Stop),(lo:Bool),(si:Li),(j:List ByteArray),(se:List ByteArray)),_)=>by
 refine zE (A:=aG) (p:=let X:=Dj lo;let c1:=Di z;let c2:=Ed c1 0;let c3:=Dj c2;let c4:=(cs,ns,os,fs,ls,ks);let c5:=Dy c2 true (Dj (aZ c4));let c6:=(G,z,lo,si,j,se);let y:=dvD c4 c6;let c8:=I0 c4 c6;let A:=c1-1;let u:=Dw z (Dc A) ((0:Int),(0:Int),(0:Int),(0:Int));let c13:=Dy lo true (Ea u.1 G.2.2.1);let h:=Dj c13;let c16:=Dy c13 true (Ea u.2.2.1 (-1));let c17:=Ed (Di j) 0;let f:=Dj c17;let L:=Di j-1;let c20:=Dy c17 true (Dj (Gf (Dw j (Dc L) (ByteArray.mk #[])) G.1));let c23:=Ea (Ky c4 G.2.2.2.1 u.1 u.2.1) 0;(dvP z j->L5 c3 ((c3->True)/\L5 c3 ((Dh true c3->c3)/\(c5->0=y/\false=c8/\True)/\(c5=false->inR .i64 A/\0<=A/\A<c1/\L7 1 0 ((Dj lo->1=1)/\L5 X ((Dj lo->1=1)/\(Dj lo->0=0)/\L5 X (Q3 X ((Dh true X->Dj lo)/\(h->1=1)/\L5 h ((h->1=1)/\(h->0=0)/\L5 h ((Dh true h->h)/\(c16->0=y/\false=c8/\True)/\(c16=false->L5 f (Q3 f ((f->inR .i64 L)/\Q2 f ((f->0<=L)/\(f->L<Di j)/\Q2 f (Q3 f ((Dh true f->f)/\(c20->0=y/\false=c8/\True)/\(c20=false->w6 1 1 0 1 1 0 (True/\(c23->0=y/\false=c8/\True)/\(c23=false->Ye c4 G.2.2.2.1 u.1 u.2.1=y/\true=c8/\True)))))))))))))))))))) aBp λhs=>?_;refine Z9 ?_;have no:(I0 (cs,ns,os,fs,ls,ks) (G,z,lo,si,j,se)=true->False)->0=dvD (cs,ns,os,fs,ls,ks) (G,z,lo,si,j,se)/\false=I0 (cs,ns,os,fs,ls,ks) (G,z,lo,si,j,se):=λh=>aFp (yS.2 h)
 simp only[YQ]at no;have hs1:=hs.1;have hs2:=hs.2;have e1:(z.length-1:Nat)=((z.length:Int)-1).toNat:=Z;have e2:(j.length-1:Nat)=((j.length:Int)-1).toNat:=Z;unfold iZ at no;rw[e1,e2]at no;refine⟨λh=>no λg=>?_,λh=>⟨by unfold inR;simp only;omega,Z,Z,λy=>no λg=>?_,λy=>⟨λ_=>by unfold inR;simp only;omega,λ_=>Z,λ_=>Z,λh3=>no λg=>?_,λh3=>⟨λh4=>no λg=>h4 g.2.2.2.2.2.2.2,λh4=>?_⟩⟩⟩⟩;rcases h with h|h;have:=g.1;omega;rw[g.2.1]at h;cases h;rcases y with(y|y)|y;rw[g.2.2.1]at y;cases y;exact y g.2.2.2.1;exact y g.2.2.2.2.1;rcases h3 with h3|h3;have:=g.2.2.2.2.2.1;omega;exact h3 g.2.2.2.2.2.2.1;have hd:I0 (cs,ns,os,fs,ls,ks) (G,z,lo,si,j,se)=true:=by
  rw[YQ];unfold iZ;rw[e1,e2];exact⟨by show 0<z.length;omega,h.2,y.1.1,y.1.2,y.2,by show 0<j.length;omega,h3.2,h4⟩
 refine⟨?_,hd.symm⟩;unfold dvD iZ;rw[hd,e1];rfl
theorem YB{ds:List bZ}{lb:ByteArray}:N6 ds lb≥0↔hasB ds lb=true:=by
 unfold N6 hasB;cases e:ds.findIdx? (isPost lb)with
 |none=>
  have:ds.any (isPost lb)=false:=by
   rw[qAq];intro d hd;simpa using List.findIdx?_eq_none_iff.1 e d hd
  rw[this];simp
 |some i=>
  obtain⟨h,f,_⟩:=List.findIdx?_eq_some_iff_getElem.1 e;have:ds.any (isPost lb)=true:=xO.2 ⟨_,wS h,f⟩;rw[this];simp
theorem aCq{ds:List bZ}{lb:ByteArray}:N6 ds lb<0↔hasB ds lb=false:=by
 rw[<- qAh,<- YB];omega
theorem Tz{n:Net}{ds:List bZ}{x:Int}(f:0<=x):C4 n ds x.toNat=true↔(0<=(ds.getD x.toNat dfD).2.1/\(ds.getD x.toNat dfD).2.1<=1000000)/\(x=0\/(ds.getD (x-1).toNat dfD).2.1<=(ds.getD x.toNat dfD).2.1)/\oz n (ds.take x.toNat) (ds.getD x.toNat dfD)=true:=by
 unfold C4;rw[show(x-1).toNat=x.toNat-1 by omega];simp only[qE,yM,qF,qAt];rw[show(x.toNat=0)=(x=0)from qCa Z]
theorem aCU{n:Net}{ds:List bZ}{x:Int}(f:M7 n ds x)(j:x<ds.length)(h:C4 n ds x.toNat=true->False):false=fk n ds:=by
 refine(yS.2 λg=>h ?_).symm;unfold fk at g;simp only[qE,qW,wJ]at g;exact g.1.1 _ (by have:=f.1;omega)
theorem aAA{n:Net}{ds:List bZ}{x:Int}(f:M7 n ds x)(j:x<ds.length)(hd:ds.length<=9223372036854775807)(h:C4 n ds x.toNat=true):M7 n ds (x+1)/\inR .i64 (x+1)/\((ds.length:Int)-(x+1)).toNat<((ds.length:Int)-x).toNat/\
  r7 ds (x+1)=r7 ds x+(if(ds.getD x.toNat dfD).1=1 then 1 else 0):=by
 have:=f.1;refine⟨⟨Z,Z,λi u=>?_⟩,by unfold inR;simp only;omega,Z,?_⟩;by_cases e:(i:Int)<x;exact f.2.2 i e;rw[show i=x.toNat by omega];exact h;unfold r7 pcF;rw[show(x+1).toNat=x.toNat+1 by omega,wY,qB (show x.toNat<ds.length by omega),qA,qB (show x.toNat<ds.length by omega),yJ,qG];simp only[qCh,vJ,yP,gU];split<;>rename_i g<;>simp at g<;>simp[g]
theorem aE4{ds:List bZ}{x:Int}(h:0<=x):0<=r7 ds x/\r7 ds x<=x:=by
 unfold r7 pcF;have f:=gQ (λd:bZ=>decide (d.1=1)) (ds.take x.toNat);rw[qO]at f;omega
theorem pB{n:Net}{pre:List bZ}{e:bZ}(k:e.1=1):oz n pre e=true↔fh e.2.2.1.1=true/\hasB pre e.2.2.1.1=false/\(0<=e.2.2.1.2.1/\e.2.2.1.2.1<n.2.2.2.1.length)/\(0<=e.2.2.1.2.2.1/\e.2.2.1.2.2.1<n.2.2.2.1.length)/\(0<=e.2.2.1.2.2.2.1/\e.2.2.1.2.2.2.1<n.2.2.2.2.2.length)/\e.2.2.1.2.2.2.2=e.2.1:=by
 unfold oz aCp;rw[if_pos k];simp only[qE,zB,qF,cE,qAt]
theorem mZ{n:Net}{pre:List bZ}{e:bZ}(k:e.1=2\/e.1=3):oz n pre e=hasB pre e.2.2.2.1:=by
 unfold oz;rw[if_neg Z];rcases k with k|k;rw[if_pos k];rw[if_neg Z,if_pos k]
theorem pA{n:Net}{pre:List bZ}{e:bZ}(k:e.1=4):oz n pre e=true↔hasB pre e.2.2.2.1=true/\hasB pre e.2.2.2.2.1=true/\e.2.2.2.1.toList≠e.2.2.2.2.1.toList:=by
 unfold oz;rw[if_neg Z,if_neg Z,if_neg Z,if_pos k];simp only[qE,zB,qAj,qAt]
theorem tI{n:Net}{pre:List bZ}{e:bZ}(k:e.1=5):oz n pre e=true↔0<=e.2.2.2.2.2/\e.2.2.2.2.2<n.2.2.2.2.1.length:=by
 unfold oz;rw[if_neg Z,if_neg Z,if_neg Z,if_neg Z,if_pos k,cE]
theorem Jg{n:Net}{pre:List bZ}{e:bZ}(k:¬(e.1=1\/e.1=2\/e.1=3\/e.1=4\/e.1=5)):oz n pre e=false:=by
 unfold oz;rw[if_neg Z,if_neg Z,if_neg Z,if_neg Z,if_neg Z]
theorem ZN(ds:List bZ)(cs:LC)(ns os:LB)(fs:Lo)(ls:Ll)(ks:Lk):aj Tryz.prog G0 36 [net cs ns os fs ls ks,.dat (.sl De) ds] [] ⟨nH ds,.dat .bool (fk (cs,ns,os,fs,ls,ks) ds),[]⟩:=by
 refine zE (A:=(lvA [(3,[1,2,4,5,6,7,8,9,47])] (aCV (cs,ns,os,fs,ls,ks) ds))) (p:=let c1:=(cs,ns,os,fs,ls,ks);let X:=Di ds;let c3:=((0:Int),(0:Int),(ByteArray.mk #[],(0:Int),(0:Int),(0:Int),(0:Int)),ByteArray.mk #[],ByteArray.mk #[],(0:Int));let c4:=fk c1 ds;let c5:=Di fs;let c7:=Ef X 120;(nH ds->(∃x,M7 c1 ds x/\L7 ds c1 (0=r7 ds x/\0=x/\True))/\∀(x:Int),let u:=Dw ds (Dc x) c3;let c11:=Dn u.2.1 0;let c12:=Dj c11;let c13:=Dy c11 true (Ee u.2.1 1000000);let h:=Dj c13;let A:=Ee x 0;let c50:=Dh h A->1=1;let c9:=Dh h A;let c16:=x-1;let c17:=Dy c13 true (Dy A (Ee (Dw ds (Dc c16) c3).2.1 u.2.1) false);let c19:=Ed u.1 1;let c20:=r7 ds x+1;let c24:=Dj (fh u.2.2.1.1);let c25:=Dj c24;let L:=Fb ds 0 x;let c27:=Dy c24 true (Eb (N6 L u.2.2.1.1) 0);let c28:=Dj c27;let c31:=Dy c27 true (Dn u.2.2.1.2.1 0);let c32:=Dj c31;let c33:=Dy c31 true (Eb u.2.2.1.2.1 c5);let c34:=Dj c33;let c37:=Dy c33 true (Dn u.2.2.1.2.2.1 0);let c38:=Dj c37;let c39:=Dy c37 true (Eb u.2.2.1.2.2.1 c5);let c40:=Dj c39;let c43:=Dy c39 true (Dn u.2.2.1.2.2.2.1 0);let c44:=Dj c43;let c45:=Dy c43 true (Eb u.2.2.1.2.2.2.1 (Di ks));let c46:=Dj c45;let c18:=c46->1=1;let c47:=Dy c45 true (Ea u.2.2.1.2.2.2.2 u.2.1);let f:=x+1;let c49:=Ed u.1 2;let c52:=Dn (N6 L u.2.2.2.1) 0;let c29:=c52->false=c4/\True;let c53:=Ed u.1 4;let j:=Dj c52;let c36:=Dh true j->j;let c21:=j->1=1;let c57:=Dy c52 true (Dn (N6 L u.2.2.2.2.1) 0);let G:=Dj c57;let c41:=Dh true G->G;let c22:=G->0=0;let c6:=G->1=1;let c59:=Dy c57 true (Gf u.2.2.2.1 u.2.2.2.2.1);let c30:=c59->false=c4/\True;
  let c60:=Ed u.1 5;let c10:=c60=false->false=c4/\True;let c62:=Dn u.2.2.2.2.2 0;let z:=Dj c62;let c42:=Dh true z->z;let c23:=z->1=1;let c64:=Dy c62 true (Eb u.2.2.2.2.2 (Di ls));let c35:=c64->false=c4/\True;let c65:=Ed u.1 3;
  M7 c1 ds x->(Dn x X->0<=x/\x<X/\T6 1 0 1 1 0 ((c12->1=1)/\L5 c12 ((c12->1=1)/\(c12->0=0)/\L5 c12 ((Dh true c12->c12)/\Q2 h (L5 c9 ((Dh h A->inR .i64 c16)/\Q2 c9 ((Dh h A->0<=c16)/\(Dh h A->c16<X)/\Q2 c9 (c50/\L5 c9 (c50/\(Dh h A->0=0)/\Q2 c9 (L5 h ((h->Dh h A->Dh h A)/\(Dh true h->h)/\(c17->false=c4/\True)/\(c17=false->Dp 0 0/\0<=x/\x<=X/\Q4 1 1 0 ((c19->inR .i64 c20/\z8 1 1 0 1 0 1 1 0 (yg u.2.2.1.1/\(c25->1=1)/\L5 c25 ((c25->1=1)/\(c25->0=0)/\Q2 c25 ((c25->nH L)/\L5 c25 ((Dh true c25->c25)/\(c28->1=1)/\L5 c28 ((c28->1=1)/\(c28->0=0)/\L5 c28 ((Dh true c28->c28)/\(c32->1=1)/\L5 c32 ((c32->1=1)/\(c32->0=0)/\L5 c32 (Q3 c32 ((Dh true c32->c32)/\(c34->1=1)/\L5 c34 ((c34->1=1)/\(c34->0=0)/\L5 c34 ((Dh true c34->c34)/\(c38->1=1)/\L5 c38 ((c38->1=1)/\(c38->0=0)/\L5 c38 (Q3 c38 ((Dh true c38->c38)/\(c40->1=1)/\L5 c40 ((c40->1=1)/\(c40->0=0)/\L5 c40 ((Dh true c40->c40)/\(c44->1=1)/\L5 c44 ((c44->1=1)/\(c44->0=0)/\L5 c44 (Q3 c44 ((Dh true c44->c44)/\c18/\L5 c46 (c18/\(c46->0=0)/\c18/\L5 c46 (c18/\(c46->0=0)/\Q2 c46 ((Dh true c46->c46)/\(c47->false=c4/\True)/\(c47=false->inR IntKind.i64 f/\∃y,M7 c1 ds y/\(L7 ds c1 (c20=r7 ds y/\f=y/\True))/\Dc (X-y)<Dc (X-x)))))))))))))))))))))))))/\(c19=false->(c49->(c49->Q4 1 1 0 (nH L/\c29/\(c52=false->inR .i64 f/\∃y,M7 c1 ds y/\(L7 ds c1 (r7 ds x=r7 ds y/\f=y/\True))/\Dc (X-y)<Dc (X-x))))/\(c49=false->(c53->Q4 1 1 0 (nH L/\c21/\L5 j (c21/\(j->0=0)/\Q2 j ((j->nH L)/\L5 j (c36/\c6/\L5 G (c6/\c22/\c6/\L5 G (c6/\c22/\Q2 G (c41/\c30/\(c59=false->inR .i64 f/\∃y,M7 c1 ds y/\
  (L7 ds c1 (r7 ds x=r7 ds y/\f=y/\True))/\Dc (X-y)<Dc (X-x))))))))))/\(c53=false->(c60->Q4 1 1 0 (c23/\L5 z (c23/\(z->0=0)/\L5 z (Q3 z (c42/\c35/\(c64=false->inR .i64 f/\∃y,M7 c1 ds y/\(L7 ds c1 (r7 ds x=r7 ds y/\f=y/\True))/\Dc (X-y)<Dc (X-x)))))))/\c10)))/\(c49=false->(c65->Q4 1 1 0 (nH L/\c29/\(c52=false->inR .i64 f/\∃y,M7 c1 ds y/\(L7 ds c1 (r7 ds x=r7 ds y/\f=y/\True))/\Dc (X-y)<Dc (X-x))))/\(c65=false->(c53->Q4 1 1 0 (nH L/\c21/\L5 j (c21/\(j->0=0)/\Q2 j ((j->nH L)/\L5 j (c36/\c6/\L5 G (c6/\c22/\c6/\L5 G (c6/\c22/\Q2 G (c41/\c30/\(c59=false->inR .i64 f/\∃y,M7 c1 ds y/\(L7 ds c1 (r7 ds x=r7 ds y/\f=y/\True))/\Dc (X-y)<Dc (X-x))))))))))/\(c53=false->(c60->Q4 1 1 0 (c23/\L5 z (c23/\(z->0=0)/\L5 z (Q3 z (c42/\c35/\(c64=false->inR .i64 f/\∃y,M7 c1 ds y/\(L7 ds c1 (r7 ds x=r7 ds y/\f=y/\True))/\Dc (X-y)<Dc (X-x)))))))/\c10)))))))))))))))))/\(Dn x X=false->L5 c7 ((Dh true c7->c7)/\Dy c7 (Ef (r7 ds x) 60) false=c4/\True)))) aBp λhd=>?_
 refine Z9 ?_;simp only[qc,show Int.toNat 0=0 from rfl,qDf,YB,aCq];refine⟨⟨0,⟨qN _,qU _,λi h=>Z⟩,rfl,rfl⟩,λx hx=>⟨λhlt=>?_,λhge=>?_⟩⟩
 .have hx0:=hx.1;have hd1:=hd.1;have bad:=aCU hx hlt;have good:=aAA hx hlt hd.1;have hB:=Tz (n:=(cs,ns,os,fs,ls,ks)) (ds:=ds) hx0;have hpre:nH (ds.take x.toNat):=⟨by rw[qO];omega,λd h=>hd.2 d (qBw h)⟩;have hs:yg (ds.getD x.toNat dfD).2.2.1.1:=hd.2 _ (by
   rw[qA,qB Z,vJ];exact wS _)
  have pl:=aE4 (ds:=ds) hx0;unfold dfD at hB good hs;generalize ds.getD x.toNat (0,0,({data:=#[]},0,0,0,0),{data:=#[]},{data:=#[]},0)=e at *;generalize hpt:(ds.getD (x-1).toNat (0,0,({data:=#[]},0,0,0,0),{data:=#[]},{data:=#[]},0)).snd.fst=pt at *;generalize ds.take x.toNat=pre at *;have l3:((cs,ns,os,fs,ls,ks):Net).2.2.2.1.length=fs.length:=rfl;have l4:((cs,ns,os,fs,ls,ks):Net).2.2.2.2.1.length=ls.length:=rfl;have l5:((cs,ns,os,fs,ls,ks):Net).2.2.2.2.2.length=ks.length:=rfl;have gd:(¬e.2.1<0/\¬e.2.1>1000000)/\(x>0->¬pt>e.2.1)->e.1≠1->oz (cs,ns,os,fs,ls,ks) pre e=true->inR .i64 (x+1)/\∃y,M7 (cs,ns,os,fs,ls,ks) ds y/\(r7 ds x=r7 ds y/\x+1=y)/\((ds.length:Int)-y).toNat<((ds.length:Int)-x).toNat:=λht k r=>by
   obtain⟨g1,g2,g3,g4⟩:=good (hB.2 ⟨Z,Z,r⟩);exact⟨g2,x+1,g1,⟨by rw[g4,if_neg k];omega,rfl⟩,g3⟩
  have bd:(oz (cs,ns,os,fs,ls,ks) pre e=true->False)->false=fk (cs,ns,os,fs,ls,ks) ds:=λh=>bad λg=>h (hB.1 g).2.2;refine⟨hx0,hlt,λh=>by unfold inR;simp only;omega,λh=>Z,λh=>Z,λh=>bad λg=>by have:=hB.1 g;omega,λht=>⟨qN _,hx0,Z,λk=>⟨by unfold inR;simp only;omega,hs,λ_=>hpre,λh=>bd λr=>?_,λh=>?_⟩,
   λk1=>⟨λk=>⟨λ_=>⟨hpre,λh=>bd λr=>?_,λh=>gd ht k1 ?_⟩,λh=>absurd k h⟩,λk2=>⟨λk=>⟨hpre,λh=>bd λr=>?_,λh=>gd ht k1 ?_⟩,λk3=>⟨λk=>⟨hpre,λ_=>hpre,λh=>bd λr=>?_,λh=>gd ht k1 ((pA k).2 ⟨by simpa using h.1.1,by simpa using h.1.2,h.2⟩)⟩,λk4=>⟨λk=>⟨λh=>bd λr=>?_,λh=>gd ht k1 ((tI k).2 Z)⟩,λk5=>bd λr=>?_⟩⟩⟩⟩⟩⟩
  .have r:=(pB k).1 r;rcases h with(((((((h|h)|h)|h)|h)|h)|h)|h)|h;rw[r.1]at h;cases h;rw[r.2.1]at h;cases h;all_goals omega
  obtain⟨g1,g2,g3,g4⟩:=good (hB.2 ⟨Z,Z,(pB k).2 ⟨h.1.1.1.1.1.1.1.1,by simpa using h.1.1.1.1.1.1.1.2,Z,Z,Z,h.2⟩⟩);exact⟨g2,x+1,g1,⟨by rw[g4,if_pos k],rfl⟩,g3⟩;rw[mZ (.inl k),h]at r;cases r;rw[mZ (.inl k)];simpa using h;rw[mZ (.inr k),h]at r;cases r;rw[mZ (.inr k)];simpa using h;have r:=(pA k).1 r;rcases h with(h|h)|h;rw[r.1]at h;cases h;rw[r.2.1]at h;cases h;exact r.2.2 h;have r:=(tI k).1 r;omega;rw[Jg Z]at r;cases r
 have e:x=ds.length:=by have:=hx.2.1;omega
 have h1:((List.range ds.length).all (C4 (cs,ns,os,fs,ls,ks) ds))=true:=qW.2 λi hi=>hx.2.2 i (by have:=wJ.1 hi;omega);unfold fk r7;rw[h1,yC,qM Z];congr 1;congr 1;exact qCa Z
end Go.Eng.Sv
