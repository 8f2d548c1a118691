/- Distances: what the two ways of computing them have in common. Plain lists and numbers. -/
import Derived.Test.YtlobbofhlcjlmaaGreatDoorSvT
set_option linter.unusedSimpArgs false
set_option linter.unusedVariables false
namespace Go.Eng.Sv
def dQ (l:Line):Int:=l.2.1
def lTo (l:Line):Int:=l.2.2.1
def lAt (l:Line):Int:=l.2.2.2.1
def bP (l:Line):Int:=l.2.2.2.2.1
def cell (xs:List Int) (a b:Nat):Int:=xs.getD (a * 12 + b) 0
def jG (xs:List Int) (a b len:Int):List Int :=
 bif decide (cell xs a.toNat b.toNat=-1) || decide (len < cell xs a.toNat b.toNat) then xs.set (a.toNat * 12 + b.toNat) len else xs
def aGu:List Int:=(List.range 144).map fun i=>if i / 12=i % 12 then 0 else -1
def xI (ls:List Line):List Int:=ls.foldl (fun xs l=>jG xs (dQ l) (lTo l) (bP l)) aGu
def aC8 (xs:List Int) (q:Nat):List Int :=
 bif (cell xs (q / 12 % 12) (q / 144) != -1) && (cell xs (q / 144) (q % 12) != -1) then jG xs (q / 12 % 12:Nat) (q % 12:Nat) (cell xs (q / 12 % 12) (q / 144) + cell xs (q / 144) (q % 12)) else xs
def fwN (ls:List Line) (k:Nat):List Int:=(List.range k).foldl aC8 (xI ls)
def aDg (ls:List Line):List Int:=fwN ls 1728
structure fV (n:Nat) (ls:List Line):Prop where
 n12:n≤12
 at_:∀ l ∈ ls,0≤dQ l∧dQ l < n∧0≤lTo l∧lTo l < n∧dQ l≠lTo l∧1≤bP l∧bP l≤5000
theorem aOk {xs:List Int} {a b c d:Nat} {x:Int} (hb:b < 12) (hd:d < 12) (hl:a * 12 + b < xs.length) :
  cell (xs.set (a * 12 + b) x) c d=if c=a∧d=b then x else cell xs c d:=by
 unfold cell
 rw [List.getD_eq_getElem?_getD,List.getElem?_set,List.getD_eq_getElem?_getD]
 by_cases h:c=a∧d=b
 ·obtain ⟨rfl,rfl⟩:=h
  simp [hl]
 ·rw [if_neg h,if_neg (by omega)]
theorem lU (xs:List Int) (a b len:Int):(jG xs a b len).length=xs.length:=by
 unfold jG
 cases (decide (cell xs a.toNat b.toNat=-1) || decide (len < cell xs a.toNat b.toNat)) <;> simp
theorem iP {xs:List Int} (hl:xs.length=144) {a b:Nat} (ha:a < 12) (hb:b < 12) {len:Int} {c d:Nat} (hd:d < 12) :
  cell (jG xs a b len) c d=if c=a∧d=b∧(cell xs a b=-1∨len < cell xs a b) then len else cell xs c d:=by
 unfold jG
 simp only [Int.toNat_natCast]
 by_cases h:cell xs a b=-1∨len < cell xs a b
 ·have:(decide (cell xs a b=-1) || decide (len < cell xs a b))=true:=by simpa using h
  rw [this,cond_true,aOk hb hd (by omega)]
  by_cases e:c=a∧d=b
  ·rw [if_pos e,if_pos ⟨e.1,e.2,h⟩]
  ·rw [if_neg e,if_neg fun g=>e ⟨g.1,g.2.1⟩]
 ·have:(decide (cell xs a b=-1) || decide (len < cell xs a b))=false:=by
   rw [Bool.eq_false_iff];simpa using h
  rw [this,cond_false,if_neg fun g=>h g.2.2]
theorem xH (ls:List Line):(xI ls).length=144:=by
 unfold xI
 have:∀ (ls:List Line) (xs:List Int),(ls.foldl (fun xs l=>jG xs (dQ l) (lTo l) (bP l)) xs).length=xs.length:=by
  intro ls
  induction ls with
  | nil=>intro xs;rfl
  | cons l ls ih=>intro xs;rw [List.foldl_cons,ih,lU]
 rw [this];rfl
theorem aEg (xs:List Int) (q:Nat):(aC8 xs q).length=xs.length:=by
 unfold aC8
 cases (cell xs (q / 12 % 12) (q / 144) != -1) && (cell xs (q / 144) (q % 12) != -1) <;> simp [lU]
theorem aDD (ls:List Line) (k:Nat):fwN ls (k + 1)=aC8 (fwN ls k) k:=by
 unfold fwN;rw [List.range_succ,List.foldl_append];rfl
theorem zA (ls:List Line):∀ k,(fwN ls k).length=144
 | 0=>xH ls
 | k + 1=>by rw [aDD,aEg,zA ls k]
inductive Walk (ls:List Line):Nat→Nat→Int→Prop
 | nil (a:Nat):Walk ls a a 0
 | snoc {a:Nat} {n:Int} (l:Line):l ∈ ls→Walk ls a (dQ l).toNat n→Walk ls a (lTo l).toNat (n + bP l)
inductive Wk (ls:List Line) (k:Nat):Nat→Nat→Int→Prop
 | refl (a:Nat):Wk ls k a a 0
 | edge (l:Line):l ∈ ls→Wk ls k (dQ l).toNat (lTo l).toNat (bP l)
 | via {a b c:Nat} {m n:Int}:c < k→Wk ls k a c m→Wk ls k c b n→Wk ls k a b (m + n)
theorem Walk.trans {ls:List Line} {a b c:Nat} {m n:Int} (h:Walk ls a b m) (g:Walk ls b c n):Walk ls a c (m + n):=by
 induction g with
 | nil=>simpa using h
 | snoc l hl _ ih=>rw [← Int.add_assoc];exact .snoc l hl ih
theorem Wk.nonneg {N:Nat} {ls:List Line} (ok:fV N ls) {k a b:Nat} {n:Int} (h:Wk ls k a b n):0≤n:=by
 induction h with
 | refl=>exact Int.le_refl _
 | edge l hl=>have:=(ok.at_ l hl).2.2.2.2.2.1;omega
 | via _ _ _ h1 h2=>omega
theorem Wk.split {N:Nat} {ls:List Line} (ok:fV N ls) {k a b:Nat} {n:Int} (h:Wk ls (k + 1) a b n) :
  (∃ m,m≤n∧Wk ls k a b m)∨∃ m1 m2,m1 + m2≤n∧Wk ls k a k m1∧Wk ls k k b m2:=by
 induction h with
 | refl a=>exact .inl ⟨0,Int.le_refl _,.refl a⟩
 | edge l hl=>exact .inl ⟨_,Int.le_refl _,.edge l hl⟩
 | @via a b c m n hc _ _ h1 h2 =>
  by_cases e:c=k
  ·subst e
   right
   have l1:∃ m1,m1≤m∧Wk ls c a c m1:=by
    rcases h1 with ⟨x,hx,g⟩ | ⟨x,y,hx,g,g'⟩
    ·exact ⟨x,hx,g⟩
    ·have:=g'.nonneg ok;exact ⟨x,by omega,g⟩
   have l2:∃ m2,m2≤n∧Wk ls c c b m2:=by
    rcases h2 with ⟨x,hx,g⟩ | ⟨x,y,hx,g,g'⟩
    ·exact ⟨x,hx,g⟩
    ·have:=g.nonneg ok;exact ⟨y,by omega,g'⟩
   obtain ⟨x,hx,g⟩:=l1
   obtain ⟨y,hy,g'⟩:=l2
   exact ⟨x,y,by omega,g,g'⟩
  ·have hc:c < k:=by omega
   rcases h1 with ⟨x,hx,g⟩ | ⟨x,y,hx,g,g'⟩ <;> rcases h2 with ⟨u,hu,q⟩ | ⟨u,v,hu,q,q'⟩
   ·exact .inl ⟨x + u,by omega,.via hc g q⟩
   ·exact .inr ⟨x + u,v,by omega,.via hc g q,q'⟩
   ·exact .inr ⟨x,y + u,by omega,g,.via hc g' q⟩
   ·have:=g'.nonneg ok
    have:=q.nonneg ok
    exact .inr ⟨x,v,by omega,g,q'⟩
structure aRw (ls:List Line) (xs:List Int):Prop where
 len:xs.length=144
 diag:∀ a,a < 12→cell xs a a=0
 walk:∀ a b,a < 12→b < 12→cell xs a b=-1∨(0≤cell xs a b∧Walk ls a b (cell xs a b))
def Below (xs:List Int) (a b:Nat) (n:Int):Prop:=cell xs a b≠-1∧cell xs a b≤n
def aTV (ls:List Line) (k:Nat) (xs:List Int):Prop:=∀ a b n,a < 12→b < 12→Wk ls k a b n→Below xs a b n
theorem rQ {xs:List Int} (hl:xs.length=144) {a b c d:Nat} (ha:a < 12) (hb:b < 12) (hd:d < 12) {len n:Int} (hlen:len≠-1) (h:Below xs c d n):Below (jG xs a b len) c d n:=by
 unfold Below at h ⊢
 rw [iP hl ha hb hd]
 split
 ·rename_i g
  obtain ⟨rfl,rfl,g⟩:=g
  exact ⟨hlen,by omega⟩
 ·exact h
theorem aEA {xs:List Int} (hl:xs.length=144) {a b:Nat} (ha:a < 12) (hb:b < 12) {len:Int} (hlen:len≠-1):Below (jG xs a b len) a b len:=by
 unfold Below
 rw [iP hl ha hb hb]
 split
 ·exact ⟨hlen,Int.le_refl _⟩
 ·rename_i g
  simp only [true_and,not_or] at g
  exact ⟨g.1,by omega⟩
theorem aBa {ls:List Line} {xs:List Int} (h:aRw ls xs) {a b:Nat} (ha:a < 12) (hb:b < 12) {len:Int} (h0:0≤len) (hw:Walk ls a b len):aRw ls (jG xs a b len):=by
 refine ⟨by rw [lU];exact h.len,fun c hc=>?_,fun c d hc hd=>?_⟩
 ·rw [iP h.len ha hb hc]
  split
  ·rename_i g
   obtain ⟨rfl,rfl,g⟩:=g
   have:=h.diag c hc
   omega
  ·exact h.diag c hc
 ·rw [iP h.len ha hb hd]
  split
  ·rename_i g
   obtain ⟨rfl,rfl,g⟩:=g
   exact .inr ⟨h0,hw⟩
  ·exact h.walk c d hc hd
theorem uN {a b:Nat} (ha:a < 12) (hb:b < 12):cell aGu a b=if a=b then 0 else -1:=by
 unfold cell aGu
 rw [List.getD_eq_getElem?_getD,List.getElem?_map,List.getElem?_range (by omega)]
 simp only [Option.map_some,Option.getD_some]
 rw [show (a * 12 + b) / 12=a by omega,show (a * 12 + b) % 12=b by omega]
theorem aIG (ls:List Line):aRw ls aGu:=by
 refine ⟨rfl,fun a ha=>by rw [uN ha ha,if_pos rfl],fun a b ha hb=>?_⟩
 rw [uN ha hb]
 split
 ·rename_i e
  subst e
  exact .inr ⟨Int.le_refl _,.nil a⟩
 ·exact .inl rfl
theorem toNat_lt {N:Nat} {x:Int} (h0:0≤x) (h1:x < N) (hN:N≤12):x.toNat < 12:=by omega
theorem aBA {N:Nat} {ls:List Line} (ok:fV N ls):∀ (rs:List Line) (xs:List Int),(∀ l ∈ rs,l ∈ ls)→aRw ls xs→(∀ a b,a < 12→b < 12→cell xs a b≤5000) →
  aRw ls (rs.foldl (fun xs l=>jG xs (dQ l) (lTo l) (bP l)) xs) ∧
  (∀ a b n,a < 12→b < 12→Below xs a b n→Below (rs.foldl (fun xs l=>jG xs (dQ l) (lTo l) (bP l)) xs) a b n) ∧
  (∀ l ∈ rs,Below (rs.foldl (fun xs l=>jG xs (dQ l) (lTo l) (bP l)) xs) (dQ l).toNat (lTo l).toNat (bP l)) ∧
  (∀ a b,a < 12→b < 12→cell (rs.foldl (fun xs l=>jG xs (dQ l) (lTo l) (bP l)) xs) a b≤5000)
 | [],xs,_,h,hb=>⟨h,fun _ _ _ _ _ h=>h,(fun l hl=>by cases hl),hb⟩
 | l :: rs,xs,hrs,h,hb=>by
  have hl:=hrs l (by simp)
  obtain ⟨o1,o2,o3,o4,o5,o6,o7⟩:=ok.at_ l hl
  have ha:=toNat_lt o1 o2 ok.n12
  have hb':=toNat_lt o3 o4 ok.n12
  have e:jG xs (dQ l) (lTo l) (bP l)=jG xs ((dQ l).toNat:Nat) ((lTo l).toNat:Nat) (bP l):=by
   rw [Int.toNat_of_nonneg o1,Int.toNat_of_nonneg o3]
  have hw:Walk ls (dQ l).toNat (lTo l).toNat (bP l):=by
   have:=Walk.snoc l hl (.nil (dQ l).toNat)
   rwa [Int.zero_add] at this
  obtain ⟨g1,g2,g3,g4⟩:=aBA ok rs (jG xs (dQ l) (lTo l) (bP l)) (fun x hx=>hrs x (by simp [hx])) (by rw [e];exact aBa h ha hb' (by omega) hw) (fun a b h1 h2=>by
   rw [e,iP h.len ha hb' h2]
   split
   ·exact o7
   ·exact hb a b h1 h2)
  rw [List.foldl_cons]
  refine ⟨g1,fun a b n h1 h2 hB=>g2 a b n h1 h2 (by rw [e];exact rQ h.len ha hb' h2 (by omega) hB),fun x hx=>?_,g4⟩
  rcases List.mem_cons.1 hx with rfl | hx
  ·exact g2 _ _ _ ha hb' (by rw [e];exact aEA h.len ha hb' (by omega))
  ·exact g3 x hx
theorem aGn {N:Nat} {ls:List Line} (ok:fV N ls):aRw ls (xI ls)∧aTV ls 0 (xI ls)∧∀ a b,a < 12→b < 12→cell (xI ls) a b≤5000:=by
 obtain ⟨g1,g2,g3,g4⟩:=aBA ok ls aGu (fun _ h=>h) (aIG ls) (fun a b h1 h2=>by rw [uN h1 h2];split <;> omega)
 refine ⟨g1,fun a b n ha hb hw=>?_,g4⟩
 cases hw with
 | refl=>refine g2 a a 0 ha ha ?_;unfold Below;rw [uN ha ha,if_pos rfl];omega
 | edge l hl=>exact g3 l hl
 | via hc=>omega
structure Mid (ls:List Line) (o i:Nat) (xs:List Int):Prop where
 sane:aRw ls xs
 compl:aTV ls o xs
 done:∀ a b m n,a < 12→b < 12→a * 12 + b < i→Wk ls o a o m→Wk ls o o b n→Below xs a b (m + n)
 edge:∀ a,a < 12→cell xs a o≤5000 * 2 ^ o∧cell xs o a≤5000 * 2 ^ o
 all:∀ a b,a < 12→b < 12→cell xs a b≤2 * (5000 * 2 ^ o)
theorem Mid.step {N:Nat} {ls:List Line} (ok:fV N ls) {o i:Nat} (ho:o < 12) (hi:i < 144) {xs:List Int} (h:Mid ls o i xs):Mid ls o (i + 1) (aC8 xs (o * 144 + i)):=by
 have e1:(o * 144 + i) / 12 % 12=i / 12:=by omega
 have e2:(o * 144 + i) / 144=o:=by omega
 have e3:(o * 144 + i) % 12=i % 12:=by omega
 have ha:i / 12 < 12:=by omega
 have hb:i % 12 < 12:=by omega
 unfold aC8
 rw [e1,e2,e3]
 cases hc:(cell xs (i / 12) o != -1) && (cell xs o (i % 12) != -1) with
 | false =>
  rw [cond_false]
  refine ⟨h.sane,h.compl,fun a b m n h1 h2 h3 w1 w2=>?_,h.edge,h.all⟩
  by_cases e:a * 12 + b < i
  ·exact h.done a b m n h1 h2 e w1 w2
  ·have ea:a=i / 12:=by omega
   have eb:b=i % 12:=by omega
   have g1:=h.compl a o m h1 ho w1
   have g2:=h.compl o b n ho h2 w2
   rw [← ea,← eb] at hc
   simp only [Bool.and_eq_false_iff,bne_eq_false_iff_eq] at hc
   rcases hc with hc | hc
   ·exact (g1.1 hc).elim
   ·exact (g2.1 hc).elim
 | true =>
  rw [cond_true]
  simp only [Bool.and_eq_true,bne_iff_ne,ne_eq] at hc
  obtain ⟨c1,c2⟩:=hc
  obtain ⟨p1,p2⟩:=(h.sane.walk _ _ ha ho).resolve_left c1
  obtain ⟨p3,p4⟩:=(h.sane.walk _ _ ho hb).resolve_left c2
  have hne:cell xs (i / 12) o + cell xs o (i % 12)≠-1:=by omega
  refine ⟨aBa h.sane ha hb (by omega) (p2.trans p4),fun a b n h1 h2 w=>rQ h.sane.len ha hb h2 hne (h.compl a b n h1 h2 w),fun a b m n h1 h2 h3 w1 w2=>?_,fun a h1=>?_,fun a b h1 h2=>?_⟩
  ·by_cases e:a * 12 + b < i
   ·exact rQ h.sane.len ha hb h2 hne (h.done a b m n h1 h2 e w1 w2)
   ·have ea:a=i / 12:=by omega
    have eb:b=i % 12:=by omega
    have g1:=(h.compl a o m h1 ho w1).2
    have g2:=(h.compl o b n ho h2 w2).2
    rw [← ea,← eb] at hne ⊢
    have g3:=aEA (a:=a) (b:=b) h.sane.len h1 h2 hne
    exact ⟨g3.1,by have:=g3.2;omega⟩
  ·have hd:=h.sane.diag o ho
   have q:=h.edge a h1
   constructor
   ·rw [iP h.sane.len ha hb ho]
    split
    ·rename_i g
     obtain ⟨rfl,g5,g6⟩:=g
     rw [← g5,hd] at g6
     have:=q.1
     omega
    ·exact q.1
   ·rw [iP h.sane.len ha hb h1]
    split
    ·rename_i g
     obtain ⟨g5,rfl,g6⟩:=g
     rw [← g5,hd] at g6
     have:=q.2
     omega
    ·exact q.2
  ·rw [iP h.sane.len ha hb h2]
   split
   ·have q1:=(h.edge (i / 12) ha).1
    have q2:=(h.edge (i % 12) hb).2
    omega
   ·exact h.all a b h1 h2
theorem Mid.next {N:Nat} {ls:List Line} (ok:fV N ls) {o:Nat} (ho:o + 1 < 12) {xs:List Int} (h:Mid ls o 144 xs):Mid ls (o + 1) 0 xs:=by
 have e:5000 * 2 ^ (o + 1)=2 * (5000 * 2 ^ o:Int):=by rw [Int.pow_succ];omega
 refine ⟨h.sane,fun a b n h1 h2 w=>?_,fun a b m n h1 h2 h3=>by omega,fun a h1=>by rw [e];exact ⟨h.all a (o + 1) h1 ho,h.all (o + 1) a ho h1⟩,fun a b h1 h2=>?_⟩
 ·rcases w.split ok with ⟨m,hm,g⟩ | ⟨m1,m2,hm,g1,g2⟩
  ·have:=h.compl a b m h1 h2 g;exact ⟨this.1,by have:=this.2;omega⟩
  ·have:=h.done a b m1 m2 h1 h2 (by omega) g1 g2;exact ⟨this.1,by have:=this.2;omega⟩
 ·have:=h.all a b h1 h2
  have h0:(0:Int)≤5000 * 2 ^ o:=Int.mul_nonneg (by decide) (Int.le_of_lt (Int.pow_pos (by decide)))
  rw [e];omega
theorem aQ7 {N:Nat} {ls:List Line} (ok:fV N ls):∀ (o:Nat),o < 12→∀ i,i≤144→Mid ls o i (fwN ls (o * 144 + i)):=by
 intro o
 have row:∀ o,o < 12→Mid ls o 0 (fwN ls (o * 144))→∀ i,i≤144→Mid ls o i (fwN ls (o * 144 + i)):=by
  intro o ho h i
  induction i with
  | zero=>intro _;exact h
  | succ i ih =>
   intro hi
   rw [← Nat.add_assoc,aDD]
   exact (ih (by omega)).step ok ho (by omega)
 induction o with
 | zero =>
  intro _
  refine row 0 (by decide) ?_
  obtain ⟨g1,g2,g3⟩:=aGn ok
  refine ⟨g1,g2,fun a b m n h1 h2 h3=>by omega,fun a h1=>⟨?_,?_⟩,fun a b h1 h2=>?_⟩
  ·have:=g3 a 0 h1 (by decide)
   show cell (xI ls) a 0≤5000 * 2 ^ 0
   omega
  ·have:=g3 0 a (by decide) h1
   show cell (xI ls) 0 a≤5000 * 2 ^ 0
   omega
  ·have:=g3 a b h1 h2;simp only [Int.pow_zero,Int.mul_one]
   show cell (xI ls) a b≤_
   omega
 | succ o ih =>
  intro ho
  refine row (o + 1) ho ?_
  have:=(ih (by omega) 144 (Nat.le_refl _)).next ok ho
  rw [show o * 144 + 144=(o + 1) * 144 by omega] at this
  exact this
theorem aFc {N:Nat} {ls:List Line} (ok:fV N ls) {k:Nat} (hk:k≤1728) {a b:Nat} (ha:a < 12) (hb:b < 12):-1≤cell (fwN ls k) a b∧cell (fwN ls k) a b≤20480000:=by
 have h:∃ o i,o < 12∧i≤144∧k=o * 144 + i:=by
  by_cases e:k=1728
  ·exact ⟨11,144,by decide,by decide,by omega⟩
  ·exact ⟨k / 144,k % 144,by omega,by omega,by omega⟩
 obtain ⟨o,i,ho,hi,rfl⟩:=h
 have m:=aQ7 ok o ho i hi
 have h1:=m.all a b ha hb
 have h2:=m.sane.walk a b ha hb
 have h3:(2:Int) ^ o≤2 ^ 11:=by
  have:(2:Nat) ^ o≤2 ^ 11:=Nat.pow_le_pow_right (by decide) (by omega)
  exact_mod_cast this
 have h4:(2:Int) ^ 11=2048:=by decide
 constructor
 ·rcases h2 with h2 | h2 <;> omega
 ·omega
structure tH (ls:List Line) (a:Nat) (d:Nat→Int):Prop where
 self:d a=0
 low:∀ b,b < 12→-1≤d b
 line:∀ l ∈ ls,0≤d (dQ l).toNat→0≤d (lTo l).toNat∧d (lTo l).toNat≤d (dQ l).toNat + bP l
 last:∀ b,b < 12→b≠a→0≤d b→∃ l ∈ ls,(lTo l).toNat=b∧0≤d (dQ l).toNat∧d b=d (dQ l).toNat + bP l
theorem tH.walk {N:Nat} {ls:List Line} (ok:fV N ls) {a:Nat} {d:Nat→Int} (h:tH ls a d) {b:Nat} {n:Int} (w:Walk ls a b n):0≤d b∧d b≤n:=by
 induction w with
 | nil=>rw [h.self];exact ⟨Int.le_refl _,Int.le_refl _⟩
 | snoc l hl _ ih=>have:=h.line l hl ih.1;have:=ih.2;omega
theorem Walk.wk {N:Nat} {ls:List Line} (ok:fV N ls) {a b:Nat} {n:Int} (w:Walk ls a b n):Wk ls 12 a b n:=by
 induction w with
 | nil=>exact .refl _
 | snoc l hl _ ih =>
  have o:=ok.at_ l hl
  exact .via (toNat_lt o.1 o.2.1 ok.n12) ih (.edge l hl)
theorem tH.toWalk {N:Nat} {ls:List Line} (ok:fV N ls) {a:Nat} {d:Nat→Int} (h:tH ls a d):∀ (k b:Nat),b < 12→0≤d b→(d b).toNat≤k→Walk ls a b (d b):=by
 intro k
 induction k with
 | zero =>
  intro b hb h0 hk
  by_cases e:b=a
  ·subst e;rw [h.self];exact .nil b
  ·obtain ⟨l,hl,e1,e2,e3⟩:=h.last b hb e h0
   have:=(ok.at_ l hl).2.2.2.2.2.1
   omega
 | succ k ih =>
  intro b hb h0 hk
  by_cases e:b=a
  ·subst e;rw [h.self];exact .nil b
  ·obtain ⟨l,hl,e1,e2,e3⟩:=h.last b hb e h0
   have o:=ok.at_ l hl
   have:=o.2.2.2.2.2.1
   have w:=ih _ (toNat_lt o.1 o.2.1 ok.n12) e2 (by omega)
   have:=Walk.snoc l hl w
   rw [e1,← e3] at this
   exact this
theorem tH.unique {N:Nat} {ls:List Line} (ok:fV N ls) {a:Nat} {d e:Nat→Int} (h:tH ls a d) (g:tH ls a e) {b:Nat} (hb:b < 12):d b=e b:=by
 have h1:=h.low b hb
 have h2:=g.low b hb
 by_cases p:0≤d b
 ·have:=g.walk ok (h.toWalk ok _ b hb p (Nat.le_refl _))
  have:=h.walk ok (g.toWalk ok _ b hb this.1 (Nat.le_refl _))
  omega
 ·by_cases q:0≤e b
  ·have:=h.walk ok (g.toWalk ok _ b hb q (Nat.le_refl _))
   omega
  ·omega
def at1 (row:List Int) (b:Nat):Int:=row.getD b 0
def lQ (row:List Int) (l:Line):List Int :=
 bif decide (0≤at1 row (dQ l).toNat) && (decide (at1 row (lTo l).toNat < 0) || decide (at1 row (lTo l).toNat > at1 row (dQ l).toNat + bP l)) then row.set (lTo l).toNat (at1 row (dQ l).toNat + bP l) else row
def yE (m:Nat) (a:Nat):List Int:=(List.range m).map fun b=>if b=a then 0 else -1
def aD2 (ls:List Line) (row:List Int):List Int:=ls.foldl lQ row
def bfN (ls:List Line) (m a r:Nat):List Int:=(List.range r).foldl (fun row _=>aD2 ls row) (yE m a)
theorem aRo {row:List Int} {i b:Nat} {x:Int} (hi:i < row.length):at1 (row.set i x) b=if b=i then x else at1 row b:=by
 unfold at1
 rw [List.getD_eq_getElem?_getD,List.getElem?_set,List.getD_eq_getElem?_getD]
 by_cases h:i=b
 ·subst h;simp [hi]
 ·rw [if_neg h,if_neg (fun e=>h e.symm)]
theorem qN (row:List Int) (l:Line):(lQ row l).length=row.length:=by
 unfold lQ
 cases (decide (0≤at1 row (dQ l).toNat) && (decide (at1 row (lTo l).toNat < 0) || decide (at1 row (lTo l).toNat > at1 row (dQ l).toNat + bP l))) <;> simp
theorem yD {row:List Int} {l:Line} (ht:(lTo l).toNat < row.length) (b:Nat):at1 (lQ row l) b =
  if b=(lTo l).toNat∧0≤at1 row (dQ l).toNat∧(at1 row (lTo l).toNat < 0∨at1 row (lTo l).toNat > at1 row (dQ l).toNat + bP l) then at1 row (dQ l).toNat + bP l else at1 row b:=by
 unfold lQ
 by_cases h:0≤at1 row (dQ l).toNat∧(at1 row (lTo l).toNat < 0∨at1 row (lTo l).toNat > at1 row (dQ l).toNat + bP l)
 ·have e:(decide (0≤at1 row (dQ l).toNat) && (decide (at1 row (lTo l).toNat < 0) || decide (at1 row (lTo l).toNat > at1 row (dQ l).toNat + bP l)))=true:=by simpa using h
  rw [e,cond_true,aRo ht]
  by_cases hb:b=(lTo l).toNat
  ·rw [if_pos hb,if_pos ⟨hb,h⟩]
  ·rw [if_neg hb,if_neg fun g=>hb g.1]
 ·have e:(decide (0≤at1 row (dQ l).toNat) && (decide (at1 row (lTo l).toNat < 0) || decide (at1 row (lTo l).toNat > at1 row (dQ l).toNat + bP l)))=false:=by
   rw [Bool.eq_false_iff];simpa using h
  rw [e,cond_false,if_neg fun g=>h g.2]
def Abv (m:Nat) (d:Nat→Int) (row:List Int):Prop:=row.length=m∧∀ b,b < m→at1 row b=-1∨(0≤d b∧d b≤at1 row b)
def aOz (d:Nat→Int) (row:List Int) (b:Nat):Prop:=0≤d b∧at1 row b=d b
section
variable {m:Nat} {ls:List Line} {a:Nat} {d:Nat→Int}
theorem aI3 (ok:fV m ls) (h:tH ls a d) {row:List Int} (hr:Abv m d row) {l:Line} (hl:l ∈ ls):Abv m d (lQ row l):=by
 have o:=ok.at_ l hl
 refine ⟨by rw [qN];exact hr.1,fun b hb=>?_⟩
 rw [yD (by rw [hr.1];omega)]
 split
 ·rename_i g
  obtain ⟨rfl,g1,g2⟩:=g
  rcases hr.2 (dQ l).toNat (by omega) with q | q
  ·omega
  ·have:=h.line l hl q.1
   right
   omega
 ·exact hr.2 b hb
theorem aCX (ok:fV m ls) (h:tH ls a d) {row:List Int} (hr:Abv m d row) {l:Line} (hl:l ∈ ls) {b:Nat} (hb:b < m) (hs:aOz d row b):aOz d (lQ row l) b:=by
 have o:=ok.at_ l hl
 refine ⟨hs.1,?_⟩
 rw [yD (by rw [hr.1];omega)]
 split
 ·rename_i g
  obtain ⟨rfl,g1,g2⟩:=g
  rcases hr.2 (dQ l).toNat (by omega) with q | q
  ·omega
  ·have:=h.line l hl q.1
   have:=hs.1
   have:=hs.2
   omega
 ·exact hs.2
theorem aI2 (ok:fV m ls) {row:List Int} (hr:Abv m d row) {l:Line} (hl:l ∈ ls) (hs:aOz d row (dQ l).toNat) (h0:0≤d (lTo l).toNat) (he:d (lTo l).toNat=d (dQ l).toNat + bP l):aOz d (lQ row l) (lTo l).toNat:=by
 have o:=ok.at_ l hl
 refine ⟨h0,?_⟩
 have e1:=hs.2
 have e2:=hs.1
 rw [yD (by rw [hr.1];omega)]
 split
 ·omega
 ·rename_i g
  have g':¬ (0≤at1 row (dQ l).toNat∧(at1 row (lTo l).toNat < 0∨at1 row (lTo l).toNat > at1 row (dQ l).toNat + bP l)):=fun q=>g ⟨rfl,q⟩
  rcases hr.2 (lTo l).toNat (by omega) with q | q <;> omega
theorem aPf (ok:fV m ls) (h:tH ls a d):∀ (rs:List Line) (row:List Int),(∀ l ∈ rs,l ∈ ls)→Abv m d row→Abv m d (rs.foldl lQ row)∧(∀ b,b < m→aOz d row b→aOz d (rs.foldl lQ row) b) ∧
  ∀ l ∈ rs,aOz d row (dQ l).toNat→0≤d (lTo l).toNat→d (lTo l).toNat=d (dQ l).toNat + bP l→aOz d (rs.foldl lQ row) (lTo l).toNat
 | [],row,_,hr=>⟨hr,fun _ _ h=>h,(fun l hl=>by cases hl)⟩
 | x :: rs,row,hrs,hr=>by
  have hx:=hrs x (by simp)
  have ox:=ok.at_ x hx
  obtain ⟨g1,g2,g3⟩:=aPf ok h rs (lQ row x) (fun l hl=>hrs l (by simp [hl])) (aI3 ok h hr hx)
  rw [List.foldl_cons]
  refine ⟨g1,fun b hb hs=>g2 b hb (aCX ok h hr hx hb hs),fun l hl hs h0 he=>?_⟩
  have o:=ok.at_ l (hrs l hl)
  rcases List.mem_cons.1 hl with rfl | hl
  ·exact g2 _ (by omega) (aI2 ok hr hx hs h0 he)
  ·exact g3 l hl (aCX ok h hr hx (by omega) hs) h0 he
def rank (m:Nat) (d:Nat→Int) (b:Nat):Nat:=((List.range m).filter fun x=>decide (0≤d x∧d x < d b)).length
theorem filter_lt {α:Type} {p q:α→Bool}:∀ {l:List α} {x:α},(∀ y,p y=true→q y=true)→x ∈ l→p x=false→q x=true→(l.filter p).length < (l.filter q).length
 | [],_,_,h,_,_=>by cases h
 | y :: l,x,hpq,hx,hp,hq=>by
  have le:∀ l:List α,(l.filter p).length≤(l.filter q).length:=by
   intro l
   induction l with
   | nil=>exact Nat.le_refl _
   | cons z l ih =>
    simp only [List.filter_cons]
    cases h1:p z with
    | true=>rw [hpq z h1];simpa using ih
    | false=>cases q z <;> simp <;> omega
  rcases List.mem_cons.1 hx with rfl | hx
  ·simp only [List.filter_cons,hp,hq,Bool.false_eq_true,if_false,if_true,List.length_cons]
   have:=le l;omega
  ·have ih:=filter_lt hpq hx hp hq
   simp only [List.filter_cons]
   cases h1:p y with
   | true=>rw [hpq y h1];simpa using ih
   | false=>cases q y <;> simp <;> omega
theorem aKo {b c:Nat} (hc:c < m) (h0:0≤d c) (h1:d c < d b):rank m d c < rank m d b:=by
 refine filter_lt (x:=c) (fun y hy=>?_) (List.mem_range.2 hc) ?_ ?_
 ·have:=of_decide_eq_true hy
  exact decide_eq_true (by omega)
 ·exact decide_eq_false (by omega)
 ·exact decide_eq_true (by omega)
theorem aFz {x:Nat} (hx:x < m):at1 (yE m a) x=if x=a then 0 else -1:=by
 unfold at1 yE
 rw [List.getD_eq_getElem?_getD,List.getElem?_map,List.getElem?_range hx];rfl
theorem aD3 (ls:List Line) (m a r:Nat):bfN ls m a (r + 1)=aD2 ls (bfN ls m a r):=by
 unfold bfN;rw [List.range_succ,List.foldl_append];rfl
theorem aOr (ok:fV m ls) (h:tH ls a d) (ha:a < m):∀ r,Abv m d (bfN ls m a r)∧∀ b,b < m→0≤d b→rank m d b≤r→aOz d (bfN ls m a r) b
 | 0=>by
  have e:bfN ls m a 0=yE m a:=rfl
  rw [e]
  refine ⟨⟨by simp [yE],fun b hb=>?_⟩,fun b hb h0 hr=>?_⟩
  ·rw [aFz hb]
   split
   ·rename_i e;subst e;right;rw [h.self];omega
   ·exact .inl rfl
  ·by_cases e:b=a
   ·subst e
    exact ⟨h0,by rw [aFz hb,if_pos rfl,h.self]⟩
   ·obtain ⟨l,hl,e1,e2,e3⟩:=h.last b (Nat.lt_of_lt_of_le hb ok.n12) e h0
    have:=(ok.at_ l hl).2.2.2.2.2.1
    have:=aKo (m:=m) (d:=d) (b:=b) (c:=a) ha (by rw [h.self];omega) (by rw [h.self];omega)
    omega
 | r + 1=>by
  obtain ⟨g1,g2⟩:=aOr ok h ha r
  obtain ⟨f1,f2,f3⟩:=aPf ok h ls (bfN ls m a r) (fun _ h=>h) g1
  rw [aD3]
  refine ⟨f1,fun b hb h0 hr=>?_⟩
  by_cases e:b=a
  ·have:rank m d b≤r∨rank m d b=r + 1:=by omega
   have hz:rank m d b=0:=by
    unfold rank
    rw [List.length_eq_zero_iff,List.filter_eq_nil_iff]
    intro x _
    rw [e,h.self]
    exact fun g=>by have:=of_decide_eq_true g;omega
   exact f2 b hb (g2 b hb h0 (by omega))
  ·obtain ⟨l,hl,e1,e2,e3⟩:=h.last b (Nat.lt_of_lt_of_le hb ok.n12) e h0
   have o:=ok.at_ l hl
   have hlt:=aKo (m:=m) (d:=d) (b:=b) (c:=(dQ l).toNat) (by omega) e2 (by omega)
   have hs:=g2 _ (by omega) e2 (by omega)
   have:=f3 l hl hs (by rw [e1];exact h0) (by rw [e1];exact e3)
   rwa [e1] at this
end
end Go.Eng.Sv
