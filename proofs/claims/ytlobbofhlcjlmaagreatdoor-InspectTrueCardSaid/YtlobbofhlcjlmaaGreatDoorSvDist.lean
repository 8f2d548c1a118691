/- Distances: what the two ways of computing them have in common. Plain lists and numbers. -/
import Derived.Test.YtlobbofhlcjlmaaGreatDoorSvT
set_option linter.unusedSimpArgs false
set_option linter.unusedVariables false
namespace Go.Eng.Sv
def lFrom (l:Line):Int:=l.2.1
def lTo (l:Line):Int:=l.2.2.1
def lAt (l:Line):Int:=l.2.2.2.1
def lTravel (l:Line):Int:=l.2.2.2.2.1
def cell (xs:List Int) (a b:Nat):Int:=xs.getD (a * 12 + b) 0
def relaxF (xs:List Int) (a b len:Int):List Int :=
 bif decide (cell xs a.toNat b.toNat=-1) || decide (len < cell xs a.toNat b.toNat) then xs.set (a.toNat * 12 + b.toNat) len else xs
def initF:List Int:=(List.range 144).map fun i=>if i / 12=i % 12 then 0 else -1
def linesF (ls:List Line):List Int:=ls.foldl (fun xs l=>relaxF xs (lFrom l) (lTo l) (lTravel l)) initF
def stepF (xs:List Int) (q:Nat):List Int :=
 bif (cell xs (q / 12 % 12) (q / 144) != -1) && (cell xs (q / 144) (q % 12) != -1) then relaxF xs (q / 12 % 12:Nat) (q % 12:Nat) (cell xs (q / 12 % 12) (q / 144) + cell xs (q / 144) (q % 12)) else xs
def fwN (ls:List Line) (k:Nat):List Int:=(List.range k).foldl stepF (linesF ls)
def relaxedF (ls:List Line):List Int:=fwN ls 1728
structure LinesOk (n:Nat) (ls:List Line):Prop where
 n12:n≤12
 at_:∀ l ∈ ls,0≤lFrom l∧lFrom l < n∧0≤lTo l∧lTo l < n∧lFrom l≠lTo l∧1≤lTravel l∧lTravel l≤5000
theorem cell_set {xs:List Int} {a b c d:Nat} {x:Int} (hb:b < 12) (hd:d < 12) (hl:a * 12 + b < xs.length) :
  cell (xs.set (a * 12 + b) x) c d=if c=a∧d=b then x else cell xs c d:=by
 unfold cell
 rw [List.getD_eq_getElem?_getD,List.getElem?_set,List.getD_eq_getElem?_getD]
 by_cases h:c=a∧d=b
 ·obtain ⟨rfl,rfl⟩:=h
  simp [hl]
 ·rw [if_neg h,if_neg (by omega)]
theorem relaxF_length (xs:List Int) (a b len:Int):(relaxF xs a b len).length=xs.length:=by
 unfold relaxF
 cases (decide (cell xs a.toNat b.toNat=-1) || decide (len < cell xs a.toNat b.toNat)) <;> simp
theorem relaxF_cell {xs:List Int} (hl:xs.length=144) {a b:Nat} (ha:a < 12) (hb:b < 12) {len:Int} {c d:Nat} (hd:d < 12) :
  cell (relaxF xs a b len) c d=if c=a∧d=b∧(cell xs a b=-1∨len < cell xs a b) then len else cell xs c d:=by
 unfold relaxF
 simp only [Int.toNat_natCast]
 by_cases h:cell xs a b=-1∨len < cell xs a b
 ·have:(decide (cell xs a b=-1) || decide (len < cell xs a b))=true:=by simpa using h
  rw [this,cond_true,cell_set hb hd (by omega)]
  by_cases e:c=a∧d=b
  ·rw [if_pos e,if_pos ⟨e.1,e.2,h⟩]
  ·rw [if_neg e,if_neg fun g=>e ⟨g.1,g.2.1⟩]
 ·have:(decide (cell xs a b=-1) || decide (len < cell xs a b))=false:=by
   rw [Bool.eq_false_iff];simpa using h
  rw [this,cond_false,if_neg fun g=>h g.2.2]
theorem linesF_length (ls:List Line):(linesF ls).length=144:=by
 unfold linesF
 have:∀ (ls:List Line) (xs:List Int),(ls.foldl (fun xs l=>relaxF xs (lFrom l) (lTo l) (lTravel l)) xs).length=xs.length:=by
  intro ls
  induction ls with
  | nil=>intro xs;rfl
  | cons l ls ih=>intro xs;rw [List.foldl_cons,ih,relaxF_length]
 rw [this];rfl
theorem stepF_length (xs:List Int) (q:Nat):(stepF xs q).length=xs.length:=by
 unfold stepF
 cases (cell xs (q / 12 % 12) (q / 144) != -1) && (cell xs (q / 144) (q % 12) != -1) <;> simp [relaxF_length]
theorem fwN_succ (ls:List Line) (k:Nat):fwN ls (k + 1)=stepF (fwN ls k) k:=by
 unfold fwN;rw [List.range_succ,List.foldl_append];rfl
theorem fwN_length (ls:List Line):∀ k,(fwN ls k).length=144
 | 0=>linesF_length ls
 | k + 1=>by rw [fwN_succ,stepF_length,fwN_length ls k]
inductive Walk (ls:List Line):Nat→Nat→Int→Prop
 | nil (a:Nat):Walk ls a a 0
 | snoc {a:Nat} {n:Int} (l:Line):l ∈ ls→Walk ls a (lFrom l).toNat n→Walk ls a (lTo l).toNat (n + lTravel l)
inductive Wk (ls:List Line) (k:Nat):Nat→Nat→Int→Prop
 | refl (a:Nat):Wk ls k a a 0
 | edge (l:Line):l ∈ ls→Wk ls k (lFrom l).toNat (lTo l).toNat (lTravel l)
 | via {a b c:Nat} {m n:Int}:c < k→Wk ls k a c m→Wk ls k c b n→Wk ls k a b (m + n)
theorem Walk.trans {ls:List Line} {a b c:Nat} {m n:Int} (h:Walk ls a b m) (g:Walk ls b c n):Walk ls a c (m + n):=by
 induction g with
 | nil=>simpa using h
 | snoc l hl _ ih=>rw [← Int.add_assoc];exact .snoc l hl ih
theorem Wk.nonneg {N:Nat} {ls:List Line} (ok:LinesOk N ls) {k a b:Nat} {n:Int} (h:Wk ls k a b n):0≤n:=by
 induction h with
 | refl=>exact Int.le_refl _
 | edge l hl=>have:=(ok.at_ l hl).2.2.2.2.2.1;omega
 | via _ _ _ h1 h2=>omega
theorem Wk.split {N:Nat} {ls:List Line} (ok:LinesOk N ls) {k a b:Nat} {n:Int} (h:Wk ls (k + 1) a b n) :
  (∃ m,m≤n∧Wk ls k a b m)∨∃ m1 m2,m1 + m2≤n∧Wk ls k a k m1∧Wk ls k k b m2:=by
 induction h with
 | refl a=>exact .inl ⟨0,Int.le_refl _,.refl a⟩
 | edge l hl=>exact .inl ⟨_,Int.le_refl _,.edge l hl⟩
 | @via a b c m n hc _ _ h1 h2 =>
  by_cases e:c=k
  ·subst e
   right
   have l1:∃ m1,m1≤m∧Wk ls c a c m1:=by
    rcases h1 with ⟨x,hx,g⟩ | ⟨x,y,hx,g,g'⟩
    ·exact ⟨x,hx,g⟩
    ·have:=g'.nonneg ok;exact ⟨x,by omega,g⟩
   have l2:∃ m2,m2≤n∧Wk ls c c b m2:=by
    rcases h2 with ⟨x,hx,g⟩ | ⟨x,y,hx,g,g'⟩
    ·exact ⟨x,hx,g⟩
    ·have:=g.nonneg ok;exact ⟨y,by omega,g'⟩
   obtain ⟨x,hx,g⟩:=l1
   obtain ⟨y,hy,g'⟩:=l2
   exact ⟨x,y,by omega,g,g'⟩
  ·have hc:c < k:=by omega
   rcases h1 with ⟨x,hx,g⟩ | ⟨x,y,hx,g,g'⟩ <;> rcases h2 with ⟨u,hu,q⟩ | ⟨u,v,hu,q,q'⟩
   ·exact .inl ⟨x + u,by omega,.via hc g q⟩
   ·exact .inr ⟨x + u,v,by omega,.via hc g q,q'⟩
   ·exact .inr ⟨x,y + u,by omega,g,.via hc g' q⟩
   ·have:=g'.nonneg ok
    have:=q.nonneg ok
    exact .inr ⟨x,v,by omega,g,q'⟩
structure Sane (ls:List Line) (xs:List Int):Prop where
 len:xs.length=144
 diag:∀ a,a < 12→cell xs a a=0
 walk:∀ a b,a < 12→b < 12→cell xs a b=-1∨(0≤cell xs a b∧Walk ls a b (cell xs a b))
def Below (xs:List Int) (a b:Nat) (n:Int):Prop:=cell xs a b≠-1∧cell xs a b≤n
def Compl (ls:List Line) (k:Nat) (xs:List Int):Prop:=∀ a b n,a < 12→b < 12→Wk ls k a b n→Below xs a b n
theorem relaxF_below {xs:List Int} (hl:xs.length=144) {a b c d:Nat} (ha:a < 12) (hb:b < 12) (hd:d < 12) {len n:Int} (hlen:len≠-1) (h:Below xs c d n):Below (relaxF xs a b len) c d n:=by
 unfold Below at h ⊢
 rw [relaxF_cell hl ha hb hd]
 split
 ·rename_i g
  obtain ⟨rfl,rfl,g⟩:=g
  exact ⟨hlen,by omega⟩
 ·exact h
theorem relaxF_at {xs:List Int} (hl:xs.length=144) {a b:Nat} (ha:a < 12) (hb:b < 12) {len:Int} (hlen:len≠-1):Below (relaxF xs a b len) a b len:=by
 unfold Below
 rw [relaxF_cell hl ha hb hb]
 split
 ·exact ⟨hlen,Int.le_refl _⟩
 ·rename_i g
  simp only [true_and,not_or] at g
  exact ⟨g.1,by omega⟩
theorem relaxF_sane {ls:List Line} {xs:List Int} (h:Sane ls xs) {a b:Nat} (ha:a < 12) (hb:b < 12) {len:Int} (h0:0≤len) (hw:Walk ls a b len):Sane ls (relaxF xs a b len):=by
 refine ⟨by rw [relaxF_length];exact h.len,fun c hc=>?_,fun c d hc hd=>?_⟩
 ·rw [relaxF_cell h.len ha hb hc]
  split
  ·rename_i g
   obtain ⟨rfl,rfl,g⟩:=g
   have:=h.diag c hc
   omega
  ·exact h.diag c hc
 ·rw [relaxF_cell h.len ha hb hd]
  split
  ·rename_i g
   obtain ⟨rfl,rfl,g⟩:=g
   exact .inr ⟨h0,hw⟩
  ·exact h.walk c d hc hd
theorem initF_cell {a b:Nat} (ha:a < 12) (hb:b < 12):cell initF a b=if a=b then 0 else -1:=by
 unfold cell initF
 rw [List.getD_eq_getElem?_getD,List.getElem?_map,List.getElem?_range (by omega)]
 simp only [Option.map_some,Option.getD_some]
 rw [show (a * 12 + b) / 12=a by omega,show (a * 12 + b) % 12=b by omega]
theorem initF_sane (ls:List Line):Sane ls initF:=by
 refine ⟨rfl,fun a ha=>by rw [initF_cell ha ha,if_pos rfl],fun a b ha hb=>?_⟩
 rw [initF_cell ha hb]
 split
 ·rename_i e
  subst e
  exact .inr ⟨Int.le_refl _,.nil a⟩
 ·exact .inl rfl
theorem toNat_lt {N:Nat} {x:Int} (h0:0≤x) (h1:x < N) (hN:N≤12):x.toNat < 12:=by omega
theorem linesF_fold {N:Nat} {ls:List Line} (ok:LinesOk N ls):∀ (rs:List Line) (xs:List Int),(∀ l ∈ rs,l ∈ ls)→Sane ls xs→(∀ a b,a < 12→b < 12→cell xs a b≤5000) →
  Sane ls (rs.foldl (fun xs l=>relaxF xs (lFrom l) (lTo l) (lTravel l)) xs) ∧
  (∀ a b n,a < 12→b < 12→Below xs a b n→Below (rs.foldl (fun xs l=>relaxF xs (lFrom l) (lTo l) (lTravel l)) xs) a b n) ∧
  (∀ l ∈ rs,Below (rs.foldl (fun xs l=>relaxF xs (lFrom l) (lTo l) (lTravel l)) xs) (lFrom l).toNat (lTo l).toNat (lTravel l)) ∧
  (∀ a b,a < 12→b < 12→cell (rs.foldl (fun xs l=>relaxF xs (lFrom l) (lTo l) (lTravel l)) xs) a b≤5000)
 | [],xs,_,h,hb=>⟨h,fun _ _ _ _ _ h=>h,(fun l hl=>by cases hl),hb⟩
 | l :: rs,xs,hrs,h,hb=>by
  have hl:=hrs l (by simp)
  obtain ⟨o1,o2,o3,o4,o5,o6,o7⟩:=ok.at_ l hl
  have ha:=toNat_lt o1 o2 ok.n12
  have hb':=toNat_lt o3 o4 ok.n12
  have e:relaxF xs (lFrom l) (lTo l) (lTravel l)=relaxF xs ((lFrom l).toNat:Nat) ((lTo l).toNat:Nat) (lTravel l):=by
   rw [Int.toNat_of_nonneg o1,Int.toNat_of_nonneg o3]
  have hw:Walk ls (lFrom l).toNat (lTo l).toNat (lTravel l):=by
   have:=Walk.snoc l hl (.nil (lFrom l).toNat)
   rwa [Int.zero_add] at this
  obtain ⟨g1,g2,g3,g4⟩:=linesF_fold ok rs (relaxF xs (lFrom l) (lTo l) (lTravel l)) (fun x hx=>hrs x (by simp [hx])) (by rw [e];exact relaxF_sane h ha hb' (by omega) hw) (fun a b h1 h2=>by
   rw [e,relaxF_cell h.len ha hb' h2]
   split
   ·exact o7
   ·exact hb a b h1 h2)
  rw [List.foldl_cons]
  refine ⟨g1,fun a b n h1 h2 hB=>g2 a b n h1 h2 (by rw [e];exact relaxF_below h.len ha hb' h2 (by omega) hB),fun x hx=>?_,g4⟩
  rcases List.mem_cons.1 hx with rfl | hx
  ·exact g2 _ _ _ ha hb' (by rw [e];exact relaxF_at h.len ha hb' (by omega))
  ·exact g3 x hx
theorem linesF_spec {N:Nat} {ls:List Line} (ok:LinesOk N ls):Sane ls (linesF ls)∧Compl ls 0 (linesF ls)∧∀ a b,a < 12→b < 12→cell (linesF ls) a b≤5000:=by
 obtain ⟨g1,g2,g3,g4⟩:=linesF_fold ok ls initF (fun _ h=>h) (initF_sane ls) (fun a b h1 h2=>by rw [initF_cell h1 h2];split <;> omega)
 refine ⟨g1,fun a b n ha hb hw=>?_,g4⟩
 cases hw with
 | refl=>refine g2 a a 0 ha ha ?_;unfold Below;rw [initF_cell ha ha,if_pos rfl];omega
 | edge l hl=>exact g3 l hl
 | via hc=>omega
structure Mid (ls:List Line) (o i:Nat) (xs:List Int):Prop where
 sane:Sane ls xs
 compl:Compl ls o xs
 done:∀ a b m n,a < 12→b < 12→a * 12 + b < i→Wk ls o a o m→Wk ls o o b n→Below xs a b (m + n)
 edge:∀ a,a < 12→cell xs a o≤5000 * 2 ^ o∧cell xs o a≤5000 * 2 ^ o
 all:∀ a b,a < 12→b < 12→cell xs a b≤2 * (5000 * 2 ^ o)
theorem Mid.step {N:Nat} {ls:List Line} (ok:LinesOk N ls) {o i:Nat} (ho:o < 12) (hi:i < 144) {xs:List Int} (h:Mid ls o i xs):Mid ls o (i + 1) (stepF xs (o * 144 + i)):=by
 have e1:(o * 144 + i) / 12 % 12=i / 12:=by omega
 have e2:(o * 144 + i) / 144=o:=by omega
 have e3:(o * 144 + i) % 12=i % 12:=by omega
 have ha:i / 12 < 12:=by omega
 have hb:i % 12 < 12:=by omega
 unfold stepF
 rw [e1,e2,e3]
 cases hc:(cell xs (i / 12) o != -1) && (cell xs o (i % 12) != -1) with
 | false =>
  rw [cond_false]
  refine ⟨h.sane,h.compl,fun a b m n h1 h2 h3 w1 w2=>?_,h.edge,h.all⟩
  by_cases e:a * 12 + b < i
  ·exact h.done a b m n h1 h2 e w1 w2
  ·have ea:a=i / 12:=by omega
   have eb:b=i % 12:=by omega
   have g1:=h.compl a o m h1 ho w1
   have g2:=h.compl o b n ho h2 w2
   rw [← ea,← eb] at hc
   simp only [Bool.and_eq_false_iff,bne_eq_false_iff_eq] at hc
   rcases hc with hc | hc
   ·exact (g1.1 hc).elim
   ·exact (g2.1 hc).elim
 | true =>
  rw [cond_true]
  simp only [Bool.and_eq_true,bne_iff_ne,ne_eq] at hc
  obtain ⟨c1,c2⟩:=hc
  obtain ⟨p1,p2⟩:=(h.sane.walk _ _ ha ho).resolve_left c1
  obtain ⟨p3,p4⟩:=(h.sane.walk _ _ ho hb).resolve_left c2
  have hne:cell xs (i / 12) o + cell xs o (i % 12)≠-1:=by omega
  refine ⟨relaxF_sane h.sane ha hb (by omega) (p2.trans p4),fun a b n h1 h2 w=>relaxF_below h.sane.len ha hb h2 hne (h.compl a b n h1 h2 w),fun a b m n h1 h2 h3 w1 w2=>?_,fun a h1=>?_,fun a b h1 h2=>?_⟩
  ·by_cases e:a * 12 + b < i
   ·exact relaxF_below h.sane.len ha hb h2 hne (h.done a b m n h1 h2 e w1 w2)
   ·have ea:a=i / 12:=by omega
    have eb:b=i % 12:=by omega
    have g1:=(h.compl a o m h1 ho w1).2
    have g2:=(h.compl o b n ho h2 w2).2
    rw [← ea,← eb] at hne ⊢
    have g3:=relaxF_at (a:=a) (b:=b) h.sane.len h1 h2 hne
    exact ⟨g3.1,by have:=g3.2;omega⟩
  ·have hd:=h.sane.diag o ho
   have q:=h.edge a h1
   constructor
   ·rw [relaxF_cell h.sane.len ha hb ho]
    split
    ·rename_i g
     obtain ⟨rfl,g5,g6⟩:=g
     rw [← g5,hd] at g6
     have:=q.1
     omega
    ·exact q.1
   ·rw [relaxF_cell h.sane.len ha hb h1]
    split
    ·rename_i g
     obtain ⟨g5,rfl,g6⟩:=g
     rw [← g5,hd] at g6
     have:=q.2
     omega
    ·exact q.2
  ·rw [relaxF_cell h.sane.len ha hb h2]
   split
   ·have q1:=(h.edge (i / 12) ha).1
    have q2:=(h.edge (i % 12) hb).2
    omega
   ·exact h.all a b h1 h2
theorem Mid.next {N:Nat} {ls:List Line} (ok:LinesOk N ls) {o:Nat} (ho:o + 1 < 12) {xs:List Int} (h:Mid ls o 144 xs):Mid ls (o + 1) 0 xs:=by
 have e:5000 * 2 ^ (o + 1)=2 * (5000 * 2 ^ o:Int):=by rw [Int.pow_succ];omega
 refine ⟨h.sane,fun a b n h1 h2 w=>?_,fun a b m n h1 h2 h3=>by omega,fun a h1=>by rw [e];exact ⟨h.all a (o + 1) h1 ho,h.all (o + 1) a ho h1⟩,fun a b h1 h2=>?_⟩
 ·rcases w.split ok with ⟨m,hm,g⟩ | ⟨m1,m2,hm,g1,g2⟩
  ·have:=h.compl a b m h1 h2 g;exact ⟨this.1,by have:=this.2;omega⟩
  ·have:=h.done a b m1 m2 h1 h2 (by omega) g1 g2;exact ⟨this.1,by have:=this.2;omega⟩
 ·have:=h.all a b h1 h2
  have h0:(0:Int)≤5000 * 2 ^ o:=Int.mul_nonneg (by decide) (Int.le_of_lt (Int.pow_pos (by decide)))
  rw [e];omega
theorem fwN_mid {N:Nat} {ls:List Line} (ok:LinesOk N ls):∀ (o:Nat),o < 12→∀ i,i≤144→Mid ls o i (fwN ls (o * 144 + i)):=by
 intro o
 have row:∀ o,o < 12→Mid ls o 0 (fwN ls (o * 144))→∀ i,i≤144→Mid ls o i (fwN ls (o * 144 + i)):=by
  intro o ho h i
  induction i with
  | zero=>intro _;exact h
  | succ i ih =>
   intro hi
   rw [← Nat.add_assoc,fwN_succ]
   exact (ih (by omega)).step ok ho (by omega)
 induction o with
 | zero =>
  intro _
  refine row 0 (by decide) ?_
  obtain ⟨g1,g2,g3⟩:=linesF_spec ok
  refine ⟨g1,g2,fun a b m n h1 h2 h3=>by omega,fun a h1=>⟨?_,?_⟩,fun a b h1 h2=>?_⟩
  ·have:=g3 a 0 h1 (by decide)
   show cell (linesF ls) a 0≤5000 * 2 ^ 0
   omega
  ·have:=g3 0 a (by decide) h1
   show cell (linesF ls) 0 a≤5000 * 2 ^ 0
   omega
  ·have:=g3 a b h1 h2;simp only [Int.pow_zero,Int.mul_one]
   show cell (linesF ls) a b≤_
   omega
 | succ o ih =>
  intro ho
  refine row (o + 1) ho ?_
  have:=(ih (by omega) 144 (Nat.le_refl _)).next ok ho
  rw [show o * 144 + 144=(o + 1) * 144 by omega] at this
  exact this
theorem fwN_bound {N:Nat} {ls:List Line} (ok:LinesOk N ls) {k:Nat} (hk:k≤1728) {a b:Nat} (ha:a < 12) (hb:b < 12):-1≤cell (fwN ls k) a b∧cell (fwN ls k) a b≤20480000:=by
 have h:∃ o i,o < 12∧i≤144∧k=o * 144 + i:=by
  by_cases e:k=1728
  ·exact ⟨11,144,by decide,by decide,by omega⟩
  ·exact ⟨k / 144,k % 144,by omega,by omega,by omega⟩
 obtain ⟨o,i,ho,hi,rfl⟩:=h
 have m:=fwN_mid ok o ho i hi
 have h1:=m.all a b ha hb
 have h2:=m.sane.walk a b ha hb
 have h3:(2:Int) ^ o≤2 ^ 11:=by
  have:(2:Nat) ^ o≤2 ^ 11:=Nat.pow_le_pow_right (by decide) (by omega)
  exact_mod_cast this
 have h4:(2:Int) ^ 11=2048:=by decide
 constructor
 ·rcases h2 with h2 | h2 <;> omega
 ·omega
structure IsDist (ls:List Line) (a:Nat) (d:Nat→Int):Prop where
 self:d a=0
 low:∀ b,b < 12→-1≤d b
 line:∀ l ∈ ls,0≤d (lFrom l).toNat→0≤d (lTo l).toNat∧d (lTo l).toNat≤d (lFrom l).toNat + lTravel l
 last:∀ b,b < 12→b≠a→0≤d b→∃ l ∈ ls,(lTo l).toNat=b∧0≤d (lFrom l).toNat∧d b=d (lFrom l).toNat + lTravel l
theorem IsDist.walk {N:Nat} {ls:List Line} (ok:LinesOk N ls) {a:Nat} {d:Nat→Int} (h:IsDist ls a d) {b:Nat} {n:Int} (w:Walk ls a b n):0≤d b∧d b≤n:=by
 induction w with
 | nil=>rw [h.self];exact ⟨Int.le_refl _,Int.le_refl _⟩
 | snoc l hl _ ih=>have:=h.line l hl ih.1;have:=ih.2;omega
theorem Walk.wk {N:Nat} {ls:List Line} (ok:LinesOk N ls) {a b:Nat} {n:Int} (w:Walk ls a b n):Wk ls 12 a b n:=by
 induction w with
 | nil=>exact .refl _
 | snoc l hl _ ih =>
  have o:=ok.at_ l hl
  exact .via (toNat_lt o.1 o.2.1 ok.n12) ih (.edge l hl)
theorem relaxedF_compl {N:Nat} {ls:List Line} (ok:LinesOk N ls):Compl ls 12 (relaxedF ls)∧Sane ls (relaxedF ls):=by
 have m:Mid ls 11 144 (relaxedF ls):=fwN_mid ok 11 (by decide) 144 (Nat.le_refl _)
 refine ⟨fun a b n h1 h2 w=>?_,m.sane⟩
 rcases w.split ok with ⟨x,hx,g⟩ | ⟨x,y,hx,g1,g2⟩
 ·have:=m.compl a b x h1 h2 g;exact ⟨this.1,by have:=this.2;omega⟩
 ·have:=m.done a b x y h1 h2 (by omega) g1 g2;exact ⟨this.1,by have:=this.2;omega⟩
theorem relaxedF_dist {N:Nat} {ls:List Line} (ok:LinesOk N ls) {a:Nat} (ha:a < 12):IsDist ls a (cell (relaxedF ls) a):=by
 obtain ⟨hc,hs⟩:=relaxedF_compl ok
 have at_:∀ l ∈ ls,(lFrom l).toNat < 12∧(lTo l).toNat < 12∧1≤lTravel l:=fun l hl=>by
  have o:=ok.at_ l hl
  exact ⟨toNat_lt o.1 o.2.1 ok.n12,toNat_lt o.2.2.1 o.2.2.2.1 ok.n12,o.2.2.2.2.2.1⟩
 have line:∀ l ∈ ls,0≤cell (relaxedF ls) a (lFrom l).toNat→0≤cell (relaxedF ls) a (lTo l).toNat∧cell (relaxedF ls) a (lTo l).toNat≤cell (relaxedF ls) a (lFrom l).toNat + lTravel l:=by
  intro l hl h0
  obtain ⟨h1,h2,h3⟩:=at_ l hl
  have w:=((hs.walk a _ ha h1).resolve_left (by omega)).2
  have g:=hc a _ _ ha h2 (Walk.wk ok (.snoc l hl w))
  refine ⟨?_,g.2⟩
  rcases hs.walk a _ ha h2 with q | q
  ·exact (g.1 q).elim
  ·exact q.1
 refine ⟨hs.diag a ha,fun b hb=>?_,line,fun b hb hne h0=>?_⟩
 ·rcases hs.walk a b ha hb with q | q <;> omega
 ·have w:=((hs.walk a b ha hb).resolve_left (by omega)).2
  generalize hn:cell (relaxedF ls) a b=n at w
  cases w with
  | nil=>exact (hne rfl).elim
  | @snoc n l hl w =>
   obtain ⟨h1,h2,h3⟩:=at_ l hl
   have g:=hc a _ _ ha h1 (w.wk ok)
   have h4:0≤cell (relaxedF ls) a (lFrom l).toNat:=by
    rcases hs.walk a _ ha h1 with q | q
    ·exact (g.1 q).elim
    ·exact q.1
   have h5:=(line l hl h4).2
   have h6:=g.2
   exact ⟨l,hl,rfl,h4,by omega⟩
theorem IsDist.toWalk {N:Nat} {ls:List Line} (ok:LinesOk N ls) {a:Nat} {d:Nat→Int} (h:IsDist ls a d):∀ (k b:Nat),b < 12→0≤d b→(d b).toNat≤k→Walk ls a b (d b):=by
 intro k
 induction k with
 | zero =>
  intro b hb h0 hk
  by_cases e:b=a
  ·subst e;rw [h.self];exact .nil b
  ·obtain ⟨l,hl,e1,e2,e3⟩:=h.last b hb e h0
   have:=(ok.at_ l hl).2.2.2.2.2.1
   omega
 | succ k ih =>
  intro b hb h0 hk
  by_cases e:b=a
  ·subst e;rw [h.self];exact .nil b
  ·obtain ⟨l,hl,e1,e2,e3⟩:=h.last b hb e h0
   have o:=ok.at_ l hl
   have:=o.2.2.2.2.2.1
   have w:=ih _ (toNat_lt o.1 o.2.1 ok.n12) e2 (by omega)
   have:=Walk.snoc l hl w
   rw [e1,← e3] at this
   exact this
theorem IsDist.unique {N:Nat} {ls:List Line} (ok:LinesOk N ls) {a:Nat} {d e:Nat→Int} (h:IsDist ls a d) (g:IsDist ls a e) {b:Nat} (hb:b < 12):d b=e b:=by
 have h1:=h.low b hb
 have h2:=g.low b hb
 by_cases p:0≤d b
 ·have:=g.walk ok (h.toWalk ok _ b hb p (Nat.le_refl _))
  have:=h.walk ok (g.toWalk ok _ b hb this.1 (Nat.le_refl _))
  omega
 ·by_cases q:0≤e b
  ·have:=h.walk ok (g.toWalk ok _ b hb q (Nat.le_refl _))
   omega
  ·omega
def at1 (row:List Int) (b:Nat):Int:=row.getD b 0
def bfStep (row:List Int) (l:Line):List Int :=
 bif decide (0≤at1 row (lFrom l).toNat) && (decide (at1 row (lTo l).toNat < 0) || decide (at1 row (lTo l).toNat > at1 row (lFrom l).toNat + lTravel l)) then row.set (lTo l).toNat (at1 row (lFrom l).toNat + lTravel l) else row
def bfInit (m:Nat) (a:Nat):List Int:=(List.range m).map fun b=>if b=a then 0 else -1
def bfRound (ls:List Line) (row:List Int):List Int:=ls.foldl bfStep row
def bfN (ls:List Line) (m a r:Nat):List Int:=(List.range r).foldl (fun row _=>bfRound ls row) (bfInit m a)
def distRow (m:Nat) (ls:List Line) (a:Nat):List Int:=(List.range m).map fun b=>cell (relaxedF ls) a b
def distF (m:Nat) (ls:List Line):List (List Int):=(List.range m).map fun a=>distRow m ls a
theorem at1_set {row:List Int} {i b:Nat} {x:Int} (hi:i < row.length):at1 (row.set i x) b=if b=i then x else at1 row b:=by
 unfold at1
 rw [List.getD_eq_getElem?_getD,List.getElem?_set,List.getD_eq_getElem?_getD]
 by_cases h:i=b
 ·subst h;simp [hi]
 ·rw [if_neg h,if_neg (fun e=>h e.symm)]
theorem bfStep_length (row:List Int) (l:Line):(bfStep row l).length=row.length:=by
 unfold bfStep
 cases (decide (0≤at1 row (lFrom l).toNat) && (decide (at1 row (lTo l).toNat < 0) || decide (at1 row (lTo l).toNat > at1 row (lFrom l).toNat + lTravel l))) <;> simp
theorem bfStep_at {row:List Int} {l:Line} (ht:(lTo l).toNat < row.length) (b:Nat):at1 (bfStep row l) b =
  if b=(lTo l).toNat∧0≤at1 row (lFrom l).toNat∧(at1 row (lTo l).toNat < 0∨at1 row (lTo l).toNat > at1 row (lFrom l).toNat + lTravel l) then at1 row (lFrom l).toNat + lTravel l else at1 row b:=by
 unfold bfStep
 by_cases h:0≤at1 row (lFrom l).toNat∧(at1 row (lTo l).toNat < 0∨at1 row (lTo l).toNat > at1 row (lFrom l).toNat + lTravel l)
 ·have e:(decide (0≤at1 row (lFrom l).toNat) && (decide (at1 row (lTo l).toNat < 0) || decide (at1 row (lTo l).toNat > at1 row (lFrom l).toNat + lTravel l)))=true:=by simpa using h
  rw [e,cond_true,at1_set ht]
  by_cases hb:b=(lTo l).toNat
  ·rw [if_pos hb,if_pos ⟨hb,h⟩]
  ·rw [if_neg hb,if_neg fun g=>hb g.1]
 ·have e:(decide (0≤at1 row (lFrom l).toNat) && (decide (at1 row (lTo l).toNat < 0) || decide (at1 row (lTo l).toNat > at1 row (lFrom l).toNat + lTravel l)))=false:=by
   rw [Bool.eq_false_iff];simpa using h
  rw [e,cond_false,if_neg fun g=>h g.2]
def Abv (m:Nat) (d:Nat→Int) (row:List Int):Prop:=row.length=m∧∀ b,b < m→at1 row b=-1∨(0≤d b∧d b≤at1 row b)
def Set1 (d:Nat→Int) (row:List Int) (b:Nat):Prop:=0≤d b∧at1 row b=d b
section
variable {m:Nat} {ls:List Line} {a:Nat} {d:Nat→Int}
theorem bfStep_abv (ok:LinesOk m ls) (h:IsDist ls a d) {row:List Int} (hr:Abv m d row) {l:Line} (hl:l ∈ ls):Abv m d (bfStep row l):=by
 have o:=ok.at_ l hl
 refine ⟨by rw [bfStep_length];exact hr.1,fun b hb=>?_⟩
 rw [bfStep_at (by rw [hr.1];omega)]
 split
 ·rename_i g
  obtain ⟨rfl,g1,g2⟩:=g
  rcases hr.2 (lFrom l).toNat (by omega) with q | q
  ·omega
  ·have:=h.line l hl q.1
   right
   omega
 ·exact hr.2 b hb
theorem bfStep_set (ok:LinesOk m ls) (h:IsDist ls a d) {row:List Int} (hr:Abv m d row) {l:Line} (hl:l ∈ ls) {b:Nat} (hb:b < m) (hs:Set1 d row b):Set1 d (bfStep row l) b:=by
 have o:=ok.at_ l hl
 refine ⟨hs.1,?_⟩
 rw [bfStep_at (by rw [hr.1];omega)]
 split
 ·rename_i g
  obtain ⟨rfl,g1,g2⟩:=g
  rcases hr.2 (lFrom l).toNat (by omega) with q | q
  ·omega
  ·have:=h.line l hl q.1
   have:=hs.1
   have:=hs.2
   omega
 ·exact hs.2
theorem bfStep_new (ok:LinesOk m ls) {row:List Int} (hr:Abv m d row) {l:Line} (hl:l ∈ ls) (hs:Set1 d row (lFrom l).toNat) (h0:0≤d (lTo l).toNat) (he:d (lTo l).toNat=d (lFrom l).toNat + lTravel l):Set1 d (bfStep row l) (lTo l).toNat:=by
 have o:=ok.at_ l hl
 refine ⟨h0,?_⟩
 have e1:=hs.2
 have e2:=hs.1
 rw [bfStep_at (by rw [hr.1];omega)]
 split
 ·omega
 ·rename_i g
  have g':¬ (0≤at1 row (lFrom l).toNat∧(at1 row (lTo l).toNat < 0∨at1 row (lTo l).toNat > at1 row (lFrom l).toNat + lTravel l)):=fun q=>g ⟨rfl,q⟩
  rcases hr.2 (lTo l).toNat (by omega) with q | q <;> omega
theorem bfFold (ok:LinesOk m ls) (h:IsDist ls a d):∀ (rs:List Line) (row:List Int),(∀ l ∈ rs,l ∈ ls)→Abv m d row→Abv m d (rs.foldl bfStep row)∧(∀ b,b < m→Set1 d row b→Set1 d (rs.foldl bfStep row) b) ∧
  ∀ l ∈ rs,Set1 d row (lFrom l).toNat→0≤d (lTo l).toNat→d (lTo l).toNat=d (lFrom l).toNat + lTravel l→Set1 d (rs.foldl bfStep row) (lTo l).toNat
 | [],row,_,hr=>⟨hr,fun _ _ h=>h,(fun l hl=>by cases hl)⟩
 | x :: rs,row,hrs,hr=>by
  have hx:=hrs x (by simp)
  have ox:=ok.at_ x hx
  obtain ⟨g1,g2,g3⟩:=bfFold ok h rs (bfStep row x) (fun l hl=>hrs l (by simp [hl])) (bfStep_abv ok h hr hx)
  rw [List.foldl_cons]
  refine ⟨g1,fun b hb hs=>g2 b hb (bfStep_set ok h hr hx hb hs),fun l hl hs h0 he=>?_⟩
  have o:=ok.at_ l (hrs l hl)
  rcases List.mem_cons.1 hl with rfl | hl
  ·exact g2 _ (by omega) (bfStep_new ok hr hx hs h0 he)
  ·exact g3 l hl (bfStep_set ok h hr hx (by omega) hs) h0 he
def rank (m:Nat) (d:Nat→Int) (b:Nat):Nat:=((List.range m).filter fun x=>decide (0≤d x∧d x < d b)).length
theorem filter_lt {α:Type} {p q:α→Bool}:∀ {l:List α} {x:α},(∀ y,p y=true→q y=true)→x ∈ l→p x=false→q x=true→(l.filter p).length < (l.filter q).length
 | [],_,_,h,_,_=>by cases h
 | y :: l,x,hpq,hx,hp,hq=>by
  have le:∀ l:List α,(l.filter p).length≤(l.filter q).length:=by
   intro l
   induction l with
   | nil=>exact Nat.le_refl _
   | cons z l ih =>
    simp only [List.filter_cons]
    cases h1:p z with
    | true=>rw [hpq z h1];simpa using ih
    | false=>cases q z <;> simp <;> omega
  rcases List.mem_cons.1 hx with rfl | hx
  ·simp only [List.filter_cons,hp,hq,Bool.false_eq_true,if_false,if_true,List.length_cons]
   have:=le l;omega
  ·have ih:=filter_lt hpq hx hp hq
   simp only [List.filter_cons]
   cases h1:p y with
   | true=>rw [hpq y h1];simpa using ih
   | false=>cases q y <;> simp <;> omega
theorem rank_lt {b c:Nat} (hc:c < m) (h0:0≤d c) (h1:d c < d b):rank m d c < rank m d b:=by
 refine filter_lt (x:=c) (fun y hy=>?_) (List.mem_range.2 hc) ?_ ?_
 ·have:=of_decide_eq_true hy
  exact decide_eq_true (by omega)
 ·exact decide_eq_false (by omega)
 ·exact decide_eq_true (by omega)
theorem bfInit_at {x:Nat} (hx:x < m):at1 (bfInit m a) x=if x=a then 0 else -1:=by
 unfold at1 bfInit
 rw [List.getD_eq_getElem?_getD,List.getElem?_map,List.getElem?_range hx];rfl
theorem bfN_succ (ls:List Line) (m a r:Nat):bfN ls m a (r + 1)=bfRound ls (bfN ls m a r):=by
 unfold bfN;rw [List.range_succ,List.foldl_append];rfl
theorem bfN_spec (ok:LinesOk m ls) (h:IsDist ls a d) (ha:a < m):∀ r,Abv m d (bfN ls m a r)∧∀ b,b < m→0≤d b→rank m d b≤r→Set1 d (bfN ls m a r) b
 | 0=>by
  have e:bfN ls m a 0=bfInit m a:=rfl
  rw [e]
  refine ⟨⟨by simp [bfInit],fun b hb=>?_⟩,fun b hb h0 hr=>?_⟩
  ·rw [bfInit_at hb]
   split
   ·rename_i e;subst e;right;rw [h.self];omega
   ·exact .inl rfl
  ·by_cases e:b=a
   ·subst e
    exact ⟨h0,by rw [bfInit_at hb,if_pos rfl,h.self]⟩
   ·obtain ⟨l,hl,e1,e2,e3⟩:=h.last b (Nat.lt_of_lt_of_le hb ok.n12) e h0
    have:=(ok.at_ l hl).2.2.2.2.2.1
    have:=rank_lt (m:=m) (d:=d) (b:=b) (c:=a) ha (by rw [h.self];omega) (by rw [h.self];omega)
    omega
 | r + 1=>by
  obtain ⟨g1,g2⟩:=bfN_spec ok h ha r
  obtain ⟨f1,f2,f3⟩:=bfFold ok h ls (bfN ls m a r) (fun _ h=>h) g1
  rw [bfN_succ]
  refine ⟨f1,fun b hb h0 hr=>?_⟩
  by_cases e:b=a
  ·have:rank m d b≤r∨rank m d b=r + 1:=by omega
   have hz:rank m d b=0:=by
    unfold rank
    rw [List.length_eq_zero_iff,List.filter_eq_nil_iff]
    intro x _
    rw [e,h.self]
    exact fun g=>by have:=of_decide_eq_true g;omega
   exact f2 b hb (g2 b hb h0 (by omega))
  ·obtain ⟨l,hl,e1,e2,e3⟩:=h.last b (Nat.lt_of_lt_of_le hb ok.n12) e h0
   have o:=ok.at_ l hl
   have hlt:=rank_lt (m:=m) (d:=d) (b:=b) (c:=(lFrom l).toNat) (by omega) e2 (by omega)
   have hs:=g2 _ (by omega) e2 (by omega)
   have:=f3 l hl hs (by rw [e1];exact h0) (by rw [e1];exact e3)
   rwa [e1] at this
theorem rank_le (b:Nat):rank m d b≤m:=by
 unfold rank
 exact Nat.le_trans (List.length_filter_le _ _) (by rw [List.length_range];exact Nat.le_refl _)
theorem bfN_dist (ok:LinesOk m ls) (ha:a < m):bfN ls m a m=distRow m ls a:=by
 have h:=relaxedF_dist ok (Nat.lt_of_lt_of_le ha ok.n12)
 obtain ⟨g1,g2⟩:=bfN_spec ok h ha m
 apply List.ext_getElem?
 intro b
 unfold distRow
 by_cases hb:b < m
 ·rw [List.getElem?_map,List.getElem?_range hb]
  have hl:b < (bfN ls m a m).length:=by rw [g1.1];exact hb
  have e:at1 (bfN ls m a m) b=cell (relaxedF ls) a b:=by
   rcases g1.2 b hb with q | q
   ·have hlow:=h.low b (Nat.lt_of_lt_of_le hb ok.n12)
    by_cases p:0≤cell (relaxedF ls) a b
    ·exact (g2 b hb p (rank_le b)).2
    ·rw [q]
     have:-1≤cell (relaxedF ls) a b:=hlow
     omega
   ·exact (g2 b hb q.1 (rank_le b)).2
  rw [List.getElem?_eq_getElem hl]
  unfold at1 at e
  rw [List.getD_eq_getElem?_getD,List.getElem?_eq_getElem hl] at e
  simpa using e
 ·rw [List.getElem?_eq_none (by rw [g1.1];omega),List.getElem?_eq_none (by simp;omega)]
end
end Go.Eng.Sv
