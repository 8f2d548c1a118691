/- The engine, part 3: operations that only compute. -/
import Derived.Test.YtlobbofhlcjlmaaGreatDoorH2b
set_option linter.unusedSimpArgs false
set_option linter.unusedVariables false
namespace Go.Eng
open Go.RowKit
structure Core where
 need:List Prop:=[]
 val:AV
 upd:List (Nat×Blk):=[]
 new:Option Nat:=none
def aEP:Value→AV
 | .int k n=>.dat (.int k) n
 | .bool b=>.dat .bool b
 | .string s=>.dat .str s
 | v=>.val v
theorem aEO {P:Program} {C:Ctx} (v:Value):(aEP v).rel P C v:=by
 cases v <;> simp [aEP,AV.rel,aF]
def inR:IntKind→Int→Prop
 | .i8,n=>-128≤n∧n≤127
 | .i16,n=>-32768≤n∧n≤32767
 | .i32,n=>-2147483648≤n∧n≤2147483647
 | .i64,n=>-9223372036854775808≤n∧n≤9223372036854775807
 | .u8,n=>0≤n∧n≤255
 | .u16,n=>0≤n∧n≤65535
 | .u32,n=>0≤n∧n≤4294967295
 | .u64,n=>0≤n∧n≤18446744073709551615
theorem pG {k:IntKind} {n:Int} (h:inR k n):k.wrap n=n:=by
 cases k
 ·exact IntWalk.i8_in n h
 ·exact IntWalk.i16_in n h
 ·exact IntWalk.i32_in n h
 ·exact IntWalk.i64_in n h
 ·exact IntWalk.u8_in n h
 ·exact IntWalk.u16_in n h
 ·exact IntWalk.u32_in n h
 ·exact IntWalk.u64_in n h
def aVs (op:BinOp) (k:IntKind) (x y:Int):Option Core :=
 match op with
 | .add=>some { need:=[inR k (x + y)],val:=.dat (.int k) (x + y) }
 | .sub=>some { need:=[inR k (x - y)],val:=.dat (.int k) (x - y) }
 | .mul=>some { need:=[inR k (x * y)],val:=.dat (.int k) (x * y) }
 | .quo=>some { need:=[y≠0,inR k (x.tdiv y)],val:=.dat (.int k) (x.tdiv y) }
 | .rem=>some { need:=[y≠0],val:=.dat (.int k) (x.tmod y) }
 | .eql=>some { val:=.dat .bool (D.eq x y) }
 | .neq=>some { val:=.dat .bool (D.ne x y) }
 | .lss=>some { val:=.dat .bool (D.lt x y) }
 | .leq=>some { val:=.dat .bool (D.le x y) }
 | .gtr=>some { val:=.dat .bool (D.gt x y) }
 | .geq=>some { val:=.dat .bool (D.ge x y) }
 | _=>none
def aVb (op:BinOp) (x y:ByteArray):Option Core :=
 match op with
 | .eql=>some { val:=.dat .bool (D.sEq x y) }
 | .neq=>some { val:=.dat .bool (!(D.sEq x y)) }
 | .lss=>some { val:=.dat .bool (D.sLt x y) }
 | .leq=>some { val:=.dat .bool (D.sLt x y || D.sEq x y) }
 | .gtr=>some { val:=.dat .bool (!(D.sLt x y || D.sEq x y)) }
 | .geq=>some { val:=.dat .bool (!D.sLt x y) }
 | .add=>some { need:=[((x.size + y.size:Nat):Int)≤9223372036854775807],val:=.dat .str (x ++ y) }
 | _=>none
def aKM (P:Program) (t:TypeId):Bool:=match P.underlying t with | some .bool=>true | _=>false
def shE (op:BinOp) (k:IntKind) (x y:Int):Option Core :=
 match op with
 | .shr=>some { need:=[0≤y,D.nat y≤k.bits],val:=.dat (.int k) (D.shr x y) }
 | .shl=>some { need:=[0≤y,D.nat y≤k.bits,inR k (D.shl x y)],val:=.dat (.int k) (D.shl x y) }
 | _=>none
def aVy (P:Program) (op:BinOp) (xT:TypeId):AV→AV→Option Core
 | .dat (.int k) x,.dat (.int k') y=>match shE op k x y with
  | some c=>some c
  | none=>if k=k' then aVs op k x y else none
 | .dat .str x,.dat .str y=>aVb op x y
 | .dat .bool x,.dat .bool y=>if aKM P xT then match op with
  | .eql=>some { val:=.dat .bool (D.beq x y) }
  | .neq=>some { val:=.dat .bool (!(D.beq x y)) }
  | _=>none else none
 | _,_=>none
theorem oV {k:IntKind} {x y:Int} {t:TypeId}:binOp .add t (.int k x) (.int k y)=Op.intArith .add k x y∧binOp .sub t (.int k x) (.int k y)=Op.intArith .sub k x y∧binOp .mul t (.int k x) (.int k y)=Op.intArith .mul k x y :=
 ⟨if_neg (fun h=>h rfl),if_neg (fun h=>h rfl),if_neg (fun h=>h rfl)⟩
theorem aLs {k:IntKind} {x y:Int} {t:TypeId}:binOp .quo t (.int k x) (.int k y)=Op.intDiv .quo k x y∧binOp .rem t (.int k x) (.int k y)=Op.intDiv .rem k x y :=
 ⟨if_neg (fun h=>h rfl),if_neg (fun h=>h rfl)⟩
theorem aD1 {k:IntKind} {x y:Int} {t:TypeId}:binOp .eql t (.int k x) (.int k y)=Op.intCmp .eql x y∧binOp .neq t (.int k x) (.int k y)=Op.intCmp .neq x y∧binOp .lss t (.int k x) (.int k y)=Op.intCmp .lss x y :=
 ⟨if_neg (fun h=>h rfl),if_neg (fun h=>h rfl),if_neg (fun h=>h rfl)⟩
theorem aD0 {k:IntKind} {x y:Int} {t:TypeId}:binOp .leq t (.int k x) (.int k y)=Op.intCmp .leq x y∧binOp .gtr t (.int k x) (.int k y)=Op.intCmp .gtr x y∧binOp .geq t (.int k x) (.int k y)=Op.intCmp .geq x y :=
 ⟨if_neg (fun h=>h rfl),if_neg (fun h=>h rfl),if_neg (fun h=>h rfl)⟩
theorem aNl {P:Program} {C:Ctx} {w:World} {op:BinOp} {k:IntKind} {x y:Int} {t:TypeId} {c:Core} (h:aVs op k x y=some c) (hn:∀ p ∈ c.need,p) :
  ∃ v,(binOp op t (.int k x) (.int k y)).run P w=.ok v w∧c.val.rel P C v∧c.upd=[]:=by
 have R:∀ n,(AV.dat (.int k) n).rel P C (.int k n):=fun n=>rfl
 have B:∀ b,(AV.dat .bool b).rel P C (.bool b):=fun b=>rfl
 unfold aVs at h
 cases op <;> simp only [reduceCtorEq] at h <;> cases h
 case add =>
  have h1:inR k (x + y):=hn _ (by simp)
  exact ⟨.int k (x + y),by (rw [oV.1];simp only [Op.intArith,pG h1];rfl),R _,rfl⟩
 case sub =>
  have h1:inR k (x - y):=hn _ (by simp)
  exact ⟨.int k (x - y),by (rw [oV.2.1];simp only [Op.intArith,pG h1];rfl),R _,rfl⟩
 case mul =>
  have h1:inR k (x * y):=hn _ (by simp)
  exact ⟨.int k (x * y),by (rw [oV.2.2];simp only [Op.intArith,pG h1];rfl),R _,rfl⟩
 case quo =>
  have h1:y≠0:=hn _ (by simp)
  have h2:inR k (x.tdiv y):=hn _ (by simp)
  exact ⟨.int k (x.tdiv y),by (rw [aLs.1];simp only [Op.intDiv,if_neg h1,pG h2];rfl),R _,rfl⟩
 case rem =>
  have h1:y≠0:=hn _ (by simp)
  exact ⟨.int k (x.tmod y),by (rw [aLs.2];simp only [Op.intDiv,if_neg h1];rfl),R _,rfl⟩
 case eql=>exact ⟨.bool (x == y),by (rw [aD1.1];rfl),B _,rfl⟩
 case neq=>exact ⟨.bool (x != y),by (rw [aD1.2.1];rfl),B _,rfl⟩
 case lss=>exact ⟨.bool (decide (x < y)),by (rw [aD1.2.2];rfl),B _,rfl⟩
 case leq=>exact ⟨.bool (decide (x≤y)),by (rw [aD0.1];rfl),B _,rfl⟩
 case gtr=>exact ⟨.bool (decide (x > y)),by (rw [aD0.2.1];rfl),B _,rfl⟩
 case geq=>exact ⟨.bool (decide (x ≥ y)),by (rw [aD0.2.2];rfl),B _,rfl⟩
theorem aQC {P:Program} {C:Ctx} {w:World} {op:BinOp} {k k':IntKind} {x y:Int} {t:TypeId} {c:Core} (h:shE op k x y=some c) (hn:∀ p ∈ c.need,p) :
  ∃ v,(binOp op t (.int k x) (.int k' y)).run P w=.ok v w∧c.val.rel P C v∧c.upd=[]:=by
 unfold shE at h
 split at h
 ·cases h
  have h1:0≤y:=hn _ (by simp)
  have h2:y.toNat≤k.bits:=hn _ (by simp)
  refine ⟨.int k (x.fdiv (2 ^ y.toNat)),?_,rfl,rfl⟩
  show (Op.shift .shr k x k' y).run P w=_
  simp only [Op.shift,if_neg (show ¬ y < 0 by omega),Nat.min_eq_left h2]
  rfl
 ·cases h
  have h1:0≤y:=hn _ (by simp)
  have h2:y.toNat≤k.bits:=hn _ (by simp)
  have h3:inR k (x * 2 ^ y.toNat):=hn _ (by simp)
  refine ⟨.int k (x * 2 ^ y.toNat),?_,rfl,rfl⟩
  show (Op.shift .shl k x k' y).run P w=_
  simp only [Op.shift,if_neg (show ¬ y < 0 by omega),Nat.min_eq_left h2,pG h3]
  rfl
 ·cases h
theorem aNj {P:Program} {C:Ctx} {w:World} {op:BinOp} {x y:ByteArray} {t:TypeId} {c:Core} (h:aVb op x y=some c) (hn:∀ p ∈ c.need,p) :
  ∃ v,(binOp op t (.string x) (.string y)).run P w=.ok v w∧c.val.rel P C v∧c.upd=[]:=by
 have B:∀ b,(AV.dat .bool b).rel P C (.bool b):=fun b=>rfl
 unfold aVb at h
 cases op <;> simp only [reduceCtorEq] at h <;> cases h
 case add =>
  have h1:((x.size + y.size:Nat):Int)≤9223372036854775807:=hn _ (by simp)
  have h2:¬ ((x.size + y.size:Nat):Int) > IntKind.i64.max:=by
   have:IntKind.i64.max=9223372036854775807:=by decide
   omega
  exact ⟨.string (x ++ y),by (show (Op.stringOp .add x y).run P w=_;simp only [Op.stringOp,if_neg h2];rfl),rfl,rfl⟩
 all_goals exact ⟨_,rfl,B _,rfl⟩
theorem iM {P:Program} {w:World} (op:BinOp) (t:TypeId) (x y:Operand) (k k':IntKind) (a b:Int):(eqGuard op t x y (.int k a) (.int k' b)).run P w=.ok () w:=by
 unfold eqGuard;cases op <;> simp
theorem aA6 {P:Program} {w:World} (op:BinOp) (t:TypeId) (x y:Operand) (a b:ByteArray):(eqGuard op t x y (.string a) (.string b)).run P w=.ok () w:=by
 unfold eqGuard;cases op <;> simp
theorem qQ {P:Program} {w:World} (op:BinOp) (t:TypeId) (x y:Operand) (a b:Bool):(eqGuard op t x y (.bool a) (.bool b)).run P w=.ok () w:=by
 unfold eqGuard;cases op <;> simp
theorem run_equalIn_bool {P:Program} {w:World} {t:TypeId} (d:Nat) (hu:P.underlying t=some .bool) (a b:Bool):(Op.equalIn (d + 1) t (.bool a) (.bool b)).run P w=.ok (a == b) w:=by
 simp [Op.equalIn,run_underlying hu]
theorem run_equal_bool {P:Program} {w:World} {t:TypeId} (hu:P.underlying t=some .bool) (a b:Bool):(Op.equal t (.bool a) (.bool b)).run P w=.ok (a == b) w :=
 run_equalIn_bool 9999 hu a b
theorem run_eql_bool {P:Program} {w:World} {t:TypeId} (hu:P.underlying t=some .bool) (a b:Bool):(binOp .eql t (.bool a) (.bool b)).run P w=.ok (.bool (a == b)) w:=by
 show (do pure (Value.bool (← Op.equal t (.bool a) (.bool b))):Sem Value).run P w=_
 rw [Sem.run_bind,run_equal_bool hu];rfl
theorem run_neq_bool {P:Program} {w:World} {t:TypeId} (hu:P.underlying t=some .bool) (a b:Bool):(binOp .neq t (.bool a) (.bool b)).run P w=.ok (.bool (!(a == b))) w:=by
 show (do pure (Value.bool (!(← Op.equal t (.bool a) (.bool b)))):Sem Value).run P w=_
 rw [Sem.run_bind,run_equal_bool hu];rfl
theorem aNm {P:Program} {C:Ctx} {w:World} {op:BinOp} {t:TypeId} {x y:Operand} {a b:AV} {u v:Value} {c:Core} (h:aVy P op t a b=some c) (hn:∀ p ∈ c.need,p)
  (ha:a.rel P C u) (hb:b.rel P C v) :
  ∃ r,(do eqGuard op t x y u v;binOp op t u v).run P w=.ok r w∧c.val.rel P C r∧c.upd=[]:=by
 unfold aVy at h
 split at h
 ·split at h
  ·rename_i hsh
   cases h
   simp only [AV.rel,aF,List.cons.injEq,and_true] at ha hb
   subst ha hb
   rename_i k xv k' yv _
   obtain ⟨r,h1,h2⟩:=aQC (C:=C) (w:=w) (P:=P) (k':=k') (t:=t) hsh hn
   exact ⟨r,by simp [iM,h1],h2⟩
  split at h
  ·rename_i hk
   subst hk
   simp only [AV.rel,aF,List.cons.injEq,and_true] at ha hb
   subst ha hb
   obtain ⟨r,h1,h2⟩:=aNl (C:=C) (w:=w) (P:=P) (t:=t) h hn
   exact ⟨r,by simp [iM,h1],h2⟩
  ·cases h
 ·simp only [AV.rel,aF,List.cons.injEq,and_true] at ha hb
  subst ha hb
  obtain ⟨r,h1,h2⟩:=aNj (C:=C) (w:=w) (P:=P) (t:=t) h hn
  exact ⟨r,by simp [aA6,h1],h2⟩
 ·split at h
  ·rename_i hT
   simp only [AV.rel,aF,List.cons.injEq,and_true] at ha hb
   subst ha hb
   have hu:P.underlying t=some .bool:=by
    unfold aKM at hT
    split at hT
    ·assumption
    ·cases hT
   split at h
   ·cases h
    exact ⟨.bool (_ == _),by rw [Sem.run_bind,qQ,Result.andThen_ok,run_eql_bool hu],rfl,rfl⟩
   ·cases h
    exact ⟨.bool (!(_ == _)),by rw [Sem.run_bind,qQ,Result.andThen_ok,run_neq_bool hu],rfl,rfl⟩
   ·cases h
  ·cases h
 ·cases h
def unE (op:UnOp):AV→Option Core
 | .dat .bool b=>match op with | .not=>some { val:=.dat .bool (!b) } | _=>none
 | .dat (.int k) n=>match op with | .neg=>some { need:=[inR k (-n)],val:=.dat (.int k) (-n) } | _=>none
 | _=>none
theorem aQB {P:Program} {C:Ctx} {w:World} {op:UnOp} {a:AV} {u:Value} {c:Core} (h:unE op a=some c) (hn:∀ p ∈ c.need,p) (ha:a.rel P C u) :
  ∃ r,(Op.unary op u).run P w=.ok r w∧c.val.rel P C r∧c.upd=[]:=by
 unfold unE at h
 split at h
 ·simp only [AV.rel,aF,List.cons.injEq,and_true] at ha
  subst ha
  split at h
  ·cases h;exact ⟨.bool _,rfl,rfl,rfl⟩
  ·cases h
 ·simp only [AV.rel,aF,List.cons.injEq,and_true] at ha
  subst ha
  split at h
  ·rename_i k n _
   cases h
   have h1:inR k (-n):=hn _ (by simp)
   exact ⟨.int k (-n),by (show (Op.intArith .sub k 0 n).run P w=_;simp only [Op.intArith,Int.zero_sub,pG h1];rfl),rfl,rfl⟩
  ·cases h
 ·cases h
def aRi (P:Program) (src dst:TypeId):AV→Option Core
 | .dat (.int _) n=>match P.underlying src,P.underlying dst with
  | some _,some (.int k)=>some { need:=[inR k n],val:=.dat (.int k) n }
  | _,_=>none
 | _=>none
theorem aKc {P:Program} {C:Ctx} {w:World} {src dst:TypeId} {a:AV} {u:Value} {c:Core} (h:aRi P src dst a=some c) (hn:∀ p ∈ c.need,p) (ha:a.rel P C u) :
  ∃ r,(convert src dst u).run P w=.ok r w∧c.val.rel P C r∧c.upd=[]:=by
 unfold aRi at h
 split at h
 ·simp only [AV.rel,aF,List.cons.injEq,and_true] at ha
  subst ha
  split at h
  ·rename_i n _ _ d k hs hd
   cases h
   have h1:inR k n:=hn _ (by simp)
   refine ⟨.int k n,?_,rfl,rfl⟩
   cases d <;> simp [convert,run_underlying hs,run_underlying hd,Conv.intToInt,pG h1]
  ·cases h
 ·cases h
def aRK (isMax:Bool) (k:IntKind):Int→List AV→Option Int
 | x,[]=>some x
 | x,a :: r=>match a with
  | .dat (.int k') y=>if k=k' then aRK isMax k (if isMax then D.mx x y else D.mn x y) r else none
  | _=>none
theorem aDd {P:Program} {C:Ctx} {w:World} (isMax:Bool) (k:IntKind):∀ (vs:List AV) (us:List Value) (x y:Int),aRK isMax k x vs=some y→AV.relL P C vs us →
  (us.foldlM (if isMax then Builtin.max2 else Builtin.min2) (.int k x)).run P w=.ok (.int k y) w
 | [],us,x,y,h,hv=>by
  simp only [aRK] at h;cases h
  simp only [AV.relL] at hv;subst hv;rfl
 | a :: vs,us,x,y,h,hv=>by
  simp only [aRK] at h
  split at h
  ·rename_i k' z
   split at h
   ·rename_i hk;subst hk
    obtain ⟨u,us',e,g1,g2⟩:=hv
    simp only [AV.rel,aF,List.cons.injEq,and_true] at g1
    subst e g1
    have ih:=aDd (w:=w) isMax k vs us' _ y h g2
    cases isMax
    ·have:(if (z:Int) < x then (z:Int) else x)=min x z:=(fun (a b:Int)=>(by omega:(if b < a then b else a)=min a b)) x z
     simp only [List.foldlM_cons,Sem.run_bind,Bool.false_eq_true,if_false,Builtin.min2,Sem.run_pure,Result.andThen_ok] at ih ⊢
     rw [this];exact ih
    ·have:(if (z:Int) > x then (z:Int) else x)=max x z:=(fun (a b:Int)=>(by omega:(if b > a then b else a)=max a b)) x z
     simp only [List.foldlM_cons,Sem.run_bind,if_true,Builtin.max2,Sem.run_pure,Result.andThen_ok] at ih ⊢
     rw [this];exact ih
   ·cases h
  ·cases h
end Go.Eng
