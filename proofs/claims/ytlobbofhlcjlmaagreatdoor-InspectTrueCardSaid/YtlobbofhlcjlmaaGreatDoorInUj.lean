/- PeInTj, PeInUj -/
import Derived.Test.YtlobbofhlcjlmaaGreatDoorZ22
import Derived.Test.YtlobbofhlcjlmaaGreatDoorIn7j
import Derived.Test.YtlobbofhlcjlmaaGreatDoorTrDj
set_option linter.unusedSimpArgs false
set_option linter.unusedVariables false
set_option maxRecDepth 100000
namespace Go.Eng.In
open Go.Proofs
theorem fewAll_bnd {n:Net} {l:List Int} (h:fewAll n l=true):l.length≤3000∧netP n∧n.2.2.2.1.length≤6∧n.2.2.2.2.2.length≤8:=by
 unfold fewAll smF at h
 simp only [Bool.and_eq_true,decide_eq_true_eq] at h
 obtain ⟨⟨⟨h1,h2⟩,_⟩,h3⟩:=h
 have h4:=(fewF_iff.1 h1).1
 unfold fewLen at h4
 rw [decide_eq_true_eq] at h4
 exact ⟨by omega,⟨⟨⟨by omega,by omega⟩,by omega⟩,by omega⟩,by omega,by omega⟩
theorem limI_of {l:List Int} (h:l.length≤2000000):limI l:=by show l.length≤2000000000000000;omega
theorem rl_self {l:List Int} (h:inSeal l=true):rl l=l:=by
 unfold rl
 conv=>rhs;rw [← List.map_id l]
 refine List.map_congr_left fun x hx=>?_
 have:=inSeal_iff.1 h x hx
 show x % 65521=x
 omega
theorem sealG_self {l:List Int} (h:inSeal l=true):sealG l=sealOf l:=by unfold sealG;rw [rl_self h]
theorem sealed_own {l:List Int} (h:inSeal l=true):sealedF l (sealG l)=true:=by
 unfold sealedF
 rw [h,sealG_self h];simp
theorem sealed_in {l:List Int} {s:Int} (h:sealedF l s=true):inSeal l=true∧s=sealOf l:=by
 unfold sealedF at h
 rwa [Bool.and_eq_true,decide_eq_true_eq] at h
structure Acc (n:Net) (l:List Int):Prop where
 ins:inSeal l=true
 pl:plOk l=true
 us:usF n=true
 fit:fitF n (planF l)=true
 len:l.length≤40000
 run:allRun n (planF l) (plRest l)=some []
theorem acc_iff {n:Net} {l:List Int}:checkF n l (sealG l)=0↔Acc n l:=by
 constructor
 ·intro h
  unfold checkF at h
  split at h
  case isFalse=>unfold openE at h;split at h <;> omega
  rename_i h1
  split at h
  case isFalse=>omega
  rename_i h2
  split at h
  case isFalse=>omega
  rename_i h3
  unfold runE at h
  split at h
  case isFalse=>omega
  rename_i h4
  unfold openOk at h1
  rw [Bool.and_eq_true] at h1
  unfold fitsAll sizeOk at h3
  rw [Bool.and_eq_true,decide_eq_true_eq] at h3
  exact ⟨(sealed_in h1.1).1,h1.2,h2,h3.1,h3.2,h4⟩
 ·rintro ⟨h1,h2,h3,h4,h5,h6⟩
  unfold checkF
  rw [if_pos (by unfold openOk;rw [sealed_own h1];exact h2),if_pos h3,if_pos (by unfold fitsAll sizeOk;rw [h4,decide_eq_true h5];rfl)]
  unfold runE
  rw [if_pos h6]
theorem one_app {xs:List Int} (z:List Int) (h:hasOne xs=true):hasOne (xs ++ z)=true∧hd (xs ++ z)=hd xs∧tl (xs ++ z)=tl xs ++ z:=by
 have h:=of_decide_eq_true h
 cases xs with
 | nil=>exact absurd h (by simp)
 | cons x r=>exact ⟨by unfold hasOne;simp,rfl,rfl⟩
theorem folF_app {n:Net} {p:Plan} {d:Int} (z:List Int):∀ (f:Nat) {o t:Int} {xs:List Int},(folF n p d f o t xs).1=true→folF n p d f o t (xs ++ z)=(true,(folF n p d f o t xs).2.1,(folF n p d f o t xs).2.2 ++ z)
 | 0,o,t,xs,h=>by
  have h:decide (o=d)=true:=h
  show (decide (o=d),t,xs ++ z)=_
  rw [h];rfl
 | f + 1,o,t,xs,h=>by
  have e:∀ ys:List Int,folF n p d (f + 1) o t ys=if o=d then (true,t,ys) else if cellAt p o d=-1 then (false,t,ys) else if hasOne ys=false then (false,t,ys) else
   if okDay n o (cellAt p o d) p (hd ys) t=true then folF n p d f (linAt n (cellAt p o d)).2.2.1 (momF (calAt n o).1 (hd ys - 2 + p.1) (linAt n (cellAt p o d)).2.2.2.1 + (linAt n (cellAt p o d)).2.2.2.2.1) (tl ys) else (false,t,tl ys):=fun ys=>rfl
  rw [e] at h
  rw [e,e]
  by_cases h1:o=d
  ·rw [if_pos h1,if_pos h1]
  rw [if_neg h1] at h
  rw [if_neg h1,if_neg h1]
  by_cases h2:cellAt p o d=-1
  ·rw [if_pos h2] at h;cases h
  rw [if_neg h2] at h
  rw [if_neg h2,if_neg h2]
  by_cases h3:hasOne xs=false
  ·rw [if_pos h3] at h;cases h
  rw [if_neg h3] at h
  obtain ⟨a1,a2,a3⟩:=one_app z (by simpa using h3)
  rw [if_neg h3,if_neg (by rw [a1];exact Bool.noConfusion),a2,a3]
  by_cases h4:okDay n o (cellAt p o d) p (hd xs) t=true
  ·rw [if_pos h4] at h
   rw [if_pos h4,if_pos h4]
   exact folF_app z f h
  ·rw [if_neg h4] at h;cases h
theorem runN_mono {f g:Nat→List Int→Option (List Int)} (z:List Int) (hfg:∀ i xs ys,f i xs=some ys→g i (xs ++ z)=some (ys ++ z)):∀ (m:Nat) {xs ys:List Int},runN f m xs=some ys→runN g m (xs ++ z)=some (ys ++ z)
 | 0,_,_,h=>by cases h;rfl
 | m + 1,xs,ys,h=>by
  rw [runN] at h ⊢
  obtain ⟨us,h1,h2⟩:=Option.bind_eq_some_iff.1 h
  rw [runN_mono z hfg m h1]
  exact hfg _ _ _ h2
theorem acc_nums {n:Net} {l:List Int} (hl:limI l) (h:Acc n l):numsOk l:=⟨h.ins,hl⟩
noncomputable def pos (m k o d:Int):Int:=4 + m * m + k * (m * m) + (o * m + d)
theorem folF_same {n:Net} {p p':Plan} (h1:p'.1=p.1) (h3:p'.2.2.1=p.2.2.1) {d:Int}:∀ (f:Nat) (o t:Int) (xs:List Int),folF n p' d f o t xs=folF n p d f o t xs
 | 0,_,_,_=>rfl
 | f + 1,o,t,xs=>by
  have e:∀ p:Plan,folF n p d (f + 1) o t xs=if o=d then (true,t,xs) else if cellAt p o d=-1 then (false,t,xs) else if hasOne xs=false then (false,t,xs) else
   if okDay n o (cellAt p o d) p (hd xs) t=true then folF n p d f (linAt n (cellAt p o d)).2.2.1 (momF (calAt n o).1 (hd xs - 2 + p.1) (linAt n (cellAt p o d)).2.2.2.1 + (linAt n (cellAt p o d)).2.2.2.2.1) (tl xs) else (false,t,tl xs):=fun p=>rfl
  have ec:cellAt p' o d=cellAt p o d:=by unfold cellAt;rw [h3]
  have eo:∀ c x,okDay n o c p' x t=okDay n o c p x t:=fun c x=>by unfold okDay;rw [h1]
  rw [e,e,ec,eo,h1,folF_same h1 h3 f]
theorem runN_le {f g:Nat→List Int→Option (List Int)}:∀ (m:Nat) (hfg:∀ i,i < m→∀ xs ys,f i xs=some ys→g i xs=some ys) {xs ys:List Int},runN f m xs=some ys→runN g m xs=some ys
 | 0,_,_,_,h=>h
 | m + 1,hfg,xs,ys,h=>by
  rw [runN] at h ⊢
  obtain ⟨us,h1,h2⟩:=Option.bind_eq_some_iff.1 h
  rw [runN_le m (fun i hi=>hfg i (by omega)) h1]
  exact hfg _ (by omega) _ _ h2
theorem run_stay {f:Nat→List Int→Option (List Int)} (hf:∀ i xs ys,f i xs=some ys→ys=xs):∀ (m:Nat) {xs ys:List Int},runN f m xs=some ys→ys=xs
 | 0,_,_,h=>by cases h;rfl
 | m + 1,xs,ys,h=>by
  rw [runN] at h
  obtain ⟨us,h1,h2⟩:=Option.bind_eq_some_iff.1 h
  rw [hf _ _ _ h2,run_stay hf m h1]
end Go.Eng.In

set_option maxRecDepth 100000
namespace Go.Eng.In
open Go.Proofs
theorem next_least {w:List Bool} {h:List Int} {d x:Int} (he:Sv.nextE w h d=0) (h1:d≤x) (h2:wkF w h x=true):Sv.nextD w h d≤x:=by
 by_cases hx:d + 60≤x
 ·have:=(Sv.next_spec he).2.1;omega
 ·have hm:x ∈ Sv.listF w h d 60:=by
   unfold Sv.listF
   exact List.mem_filter.2 ⟨List.mem_map.2 ⟨(x - d).toNat,List.mem_range.2 (by omega),by omega⟩,h2⟩
  have hp:(Sv.listF w h d 60).Pairwise (· < ·):=by
   unfold Sv.listF
   exact List.Pairwise.filter _ (List.pairwise_map.2 (List.pairwise_lt_range.imp fun h=>by omega))
  unfold Sv.nextD Sv.nextO
  cases hl:Sv.listF w h d 60 with
  | nil=>rw [hl] at hm;cases hm
  | cons y tl =>
   rw [hl] at hm hp
   show y≤x
   rcases List.mem_cons.1 hm with rfl | hm
   ·exact Int.le_refl _
   ·exact Int.le_of_lt ((List.pairwise_cons.1 hp).1 x hm)
theorem fst_least {c:Cal} {m t D:Int} (m1:m≤1439) (he:Sv.fstE c m t=0) (hw:wkF c.2.1 c.2.2 D=true) (ht:t≤momF c.1 D m):Sv.fstD c m t≤momF c.1 D m:=by
 have e1:Sv.fstD c m t=Sv.timeF c.1 (Sv.nextD c.2.1 c.2.2 (Sv.d0F c m t)) m:=if_pos he
 have hd:Sv.d0F c m t≤D:=by
  unfold momF at ht
  unfold Sv.d0F Sv.dayF Sv.minF
  split <;> omega
 have:=next_least he hd hw
 rw [e1]
 unfold Sv.timeF momF
 omega
theorem way_fol {n:Net} {p:Plan} {d:Int} (hu:usP n) (hpl:plP n p) (hdd:offIn n d):∀ (f k:Nat) (o t t':Int) (xs:List Int),offIn n o→(folF n p d f o t' xs).1=true→t≤t'→(Sv.wayN n p.2.2.1 d k o t).2=0 →
  ∃ s,(Sv.wayN n p.2.2.1 d k o t).1.getLast?=some s∧s.2.1≤(folF n p d f o t' xs).2.1
 | f,k,o,t,t',xs,ho,h1,ht,h2=>by
  by_cases h0:o=d
  ·rw [Sv.way_to k h0]
   refine ⟨(o,t,-1,-1),rfl,?_⟩
   cases f with
   | zero=>exact ht
   | succ f=>unfold folF;rw [if_pos h0];exact ht
  cases f with
  | zero=>exact absurd (of_decide_eq_true h1) h0
  | succ f =>
   have e:folF n p d (f + 1) o t' xs=if o=d then (true,t',xs) else if cellAt p o d=-1 then (false,t',xs) else if hasOne xs=false then (false,t',xs) else
    if okDay n o (cellAt p o d) p (hd xs) t'=true then folF n p d f (linAt n (cellAt p o d)).2.2.1 (momF (calAt n o).1 (hd xs - 2 + p.1) (linAt n (cellAt p o d)).2.2.2.1 + (linAt n (cellAt p o d)).2.2.2.2.1) (tl xs) else (false,t',tl xs):=rfl
   rw [e] at h1 ⊢
   rw [if_neg h0] at h1 ⊢
   by_cases h3:cellAt p o d=-1
   ·rw [if_pos h3] at h1;cases h1
   rw [if_neg h3] at h1 ⊢
   by_cases h4:hasOne xs=false
   ·rw [if_pos h4] at h1;cases h1
   rw [if_neg h4] at h1 ⊢
   by_cases h5:okDay n o (cellAt p o d) p (hd xs) t'=true
   case neg=>rw [if_neg h5] at h1;cases h1
   rw [if_pos h5] at h1 ⊢
   obtain ⟨g1,g2⟩:=hpl.2.2.1 o d ho hdd
   have g3:cellAt p o d < n.2.2.2.2.1.length∧(linAt n (cellAt p o d)).2.1=o:=by
    unfold cellGood at g1
    rw [decide_eq_false h3,Bool.false_or,Bool.and_eq_true,decide_eq_true_eq,decide_eq_true_eq] at g1
    exact g1
   obtain ⟨_,lo,⟨m0,m1⟩,_⟩:=us_lin hu (by omega:0≤cellAt p o d) g3.1
   have h3':Sv.nxt p.2.2.1 o d≠-1:=h3
   have en:Sv.nxt p.2.2.1 o d=cellAt p o d:=rfl
   by_cases h6:Sv.depE n (Sv.nxt p.2.2.1 o d) (Sv.readyF n o t)=0
   case neg=>rw [Sv.way_err k h0 h3' h6] at h2;exact absurd h2 h6
   cases k with
   | zero=>rw [Sv.way_full h0 h3' h6] at h2;cases h2
   | succ k =>
    rw [Sv.way_next k h0 h3' h6] at h2 ⊢
    generalize hr:Sv.wayN n p.2.2.1 d k (Sv.lnTo n (Sv.nxt p.2.2.1 o d)) (Sv.depD n (Sv.nxt p.2.2.1 o d) (Sv.readyF n o t) + Sv.lnTrav n (Sv.nxt p.2.2.1 o d))=r at h2 ⊢
    unfold Sv.preW at h2 ⊢
    by_cases h7:r.2=0
    case neg=>rw [if_neg h7] at h2;exact absurd h2 h7
    rw [if_pos h7]
    unfold okDay at h5
    rw [Bool.and_eq_true,decide_eq_true_eq] at h5
    obtain ⟨w1,w2⟩:=h5
    have ok:Sv.timeOk (Sv.readyF n o t)=true:=by
     cases hk:Sv.timeOk (Sv.readyF n o t) with
     | true=>rfl
     | false=>unfold Sv.depE at h6;rw [hk] at h6;cases h6
    have eF:Sv.lnFrom n (Sv.nxt p.2.2.1 o d)=o:=g3.2
    have eE:Sv.depE n (Sv.nxt p.2.2.1 o d) (Sv.readyF n o t)=Sv.fstE (calAt n o) (linAt n (cellAt p o d)).2.2.2.1 (Sv.readyF n o t):=by
     unfold Sv.depE
     rw [if_pos ok,eF];rfl
    have eD:Sv.depD n (Sv.nxt p.2.2.1 o d) (Sv.readyF n o t)=Sv.fstD (calAt n o) (linAt n (cellAt p o d)).2.2.2.1 (Sv.readyF n o t):=by
     unfold Sv.depD
     rw [if_pos ok,eF];rfl
    rw [eE] at h6
    have hrd:Sv.readyF n o t≤rdyF n o t':=by
     show t + _≤t' + _
     exact Int.add_le_add_right ht _
    have hdep:=fst_least m1 h6 w1 (by omega)
    rw [← eD] at hdep
    obtain ⟨s,s1,s2⟩:=way_fol hu hpl hdd f k _ (Sv.depD n (Sv.nxt p.2.2.1 o d) (Sv.readyF n o t) + Sv.lnTrav n (Sv.nxt p.2.2.1 o d)) _ (tl xs) lo h1 (by
     have e9:Sv.lnTrav n (Sv.nxt p.2.2.1 o d)=(linAt n (cellAt p o d)).2.2.2.2.1:=rfl
     rw [e9]
     exact Int.add_le_add_right hdep _) (by
     have e8:(linAt n (cellAt p o d)).2.2.1=Sv.lnTo n (Sv.nxt p.2.2.1 o d):=rfl
     rw [e8,hr];exact h7)
    have e8:(linAt n (cellAt p o d)).2.2.1=Sv.lnTo n (Sv.nxt p.2.2.1 o d):=rfl
    rw [e8,hr] at s1
    refine ⟨s,?_,s2⟩
    show ([_] ++ r.1).getLast?=_
    rw [List.getLast?_append,s1];rfl
theorem wd_split {w:List Bool} {h:List Int} {a b c:Int} (h1:a≤b + 1) (h2:b≤c):wdays w h a c=wdays w h a b ++ wdays w h (b + 1) c:=by
 unfold wdays
 rw [show (c + 1 - a).toNat=(b + 1 - a).toNat + (c + 1 - (b + 1)).toNat by omega,List.range_add,List.map_append,List.filter_append,List.map_map]
 congr 2
 refine List.map_congr_left fun i _=>?_
 show a + ((_ + i:Nat):Int)=_
 omega
theorem wd_in {w:List Bool} {h:List Int} {a b x:Int} (h1:a≤x) (h2:x≤b) (hw:wkF w h x=true):x ∈ wdays w h a b:=by
 unfold wdays
 exact List.mem_filter.2 ⟨List.mem_map.2 ⟨(x - a).toNat,List.mem_range.2 (by omega),by omega⟩,hw⟩
theorem add_lt {w:List Bool} {h:List Int} {D:Int} (hw:wkF w h D=true):∀ (k:Nat) {B e:Int},Sv.addO w h k B=some e→e < D→k + 1≤(wdays w h (B + 1) D).length
 | 0,B,e,g,hlt=>by
  cases g
  exact List.length_pos_of_mem (wd_in (by omega) (Int.le_refl _) hw)
 | k + 1,B,e,g,hlt=>by
  unfold Sv.addO at g
  obtain ⟨y,g1,g2⟩:=Option.bind_eq_some_iff.1 g
  have hm:y ∈ Sv.listF w h (B + 1) 60:=List.mem_of_mem_head? (by unfold Sv.nextO at g1;rw [g1];rfl)
  obtain ⟨y1,y2,y3⟩:=Sv.listF_mem hm
  have hb:=Sv.add_bnd k g2
  have ih:=add_lt hw k g2 hlt
  rw [wd_split (b:=y) (by omega) (by omega),List.length_append]
  have:=List.length_pos_of_mem (wd_in (a:=B + 1) (b:=y) y1 (Int.le_refl _) y3)
  omega
theorem run_at {f:Nat→List Int→Option (List Int)}:∀ (m:Nat) {xs ys:List Int},runN f m xs=some ys→∀ i,i < m→∃ u v,f i u=some v
 | 0,_,_,_,i,hi=>by omega
 | m + 1,xs,ys,h,i,hi=>by
  rw [runN] at h
  obtain ⟨us,h1,h2⟩:=Option.bind_eq_some_iff.1 h
  rcases Nat.lt_or_ge i m with g | g
  ·exact run_at m h1 i g
  ·have:i=m:=by omega
   subst this
   exact ⟨_,_,h2⟩
theorem acc_pro {n:Net} {l:List Int} {k o d cut:Int} (hn:netP n) (hl:limI l) (h:Acc n l) (hk:claIn n k) (ho:offIn n o) (hd:offIn n d) (hne:daysAt (planF l) k o d≠-1) (hc:cut ∈ cutsF n (planF l) k o):∃ xs,proOk n (planF l) k o d cut xs=true:=by
 have hpl:=plan_plP (acc_nums hl h) h.pl h.fit
 obtain ⟨_,⟨q1,q2⟩,_,q4,q5⟩:=hpl
 have hrun:=h.run
 unfold allRun st1 at hrun
 rw [Int.toNat_natCast] at hrun
 have ek:((k.toNat:Nat):Int)=k:=Int.toNat_of_nonneg hk.1
 have eo:((o.toNat:Nat):Int)=o:=Int.toNat_of_nonneg ho.1
 have ed:((d.toNat:Nat):Int)=d:=Int.toNat_of_nonneg hd.1
 have hk1:=hk.2
 have ho1:=ho.2
 have hd1:=hd.2
 obtain ⟨u1,v1,r1⟩:=run_at _ hrun k.toNat (by omega)
 rw [ek] at r1
 have s1:=q5 (rowsD (planF l) k) (getD_mem (by omega))
 obtain ⟨u2,v2,r2⟩:=run_at _ r1 o.toNat (by omega)
 rw [eo] at r2
 have s2:=s1.2 (cellsD (planF l) k o) (getD_mem (by have:=s1.1;show o.toNat < (rowsD (planF l) k).length;omega))
 obtain ⟨u3,v3,r3⟩:=run_at _ r2 d.toNat (by omega)
 rw [ed] at r3
 unfold cellRun at r3
 rw [if_neg hne] at r3
 obtain ⟨j,hj,ej⟩:=List.mem_iff_getElem.1 hc
 obtain ⟨u4,v4,r4⟩:=run_at _ r3 j hj
 unfold oneRun at r4
 rw [List.getD_eq_getElem?_getD,List.getElem?_eq_getElem hj,Option.getD_some,ej] at r4
 split at r4
 ·exact ⟨_,by assumption⟩
 ·cases r4
theorem true_main {n:Net} {l:List Int} {k o d A:Int} {x1:ByteArray} (hn:netP n) (hl:limI l) (h:Acc n l) (hcE:Sv.CutE n k o A=0) (h0:1440 * (planF l).1≤Sv.CutD n k o A) (h1:Sv.CutD n k o A < 1440 * (planF l).2.1)
  (hw:Sv.WayE n (planF l).2.2.1 o d A=0) (hdE:Sv.DueE n (planF l).2.2.2 (x1,o,d,k,A)=0) {s:Sv.Stop} (hs:(Sv.WayL n (planF l).2.2.1 o d A).getLast?=some s) (hdl:Sv.DlvE n k d s.2.1=0) :
  Sv.DlvD n k d s.2.1≤Sv.DueD n (planF l).2.2.2 (x1,o,d,k,A):=by
 have hpl:=plan_plP (acc_nums hl h) h.pl h.fit
 have hu:usP n:=⟨h.us,hn⟩
 -- the arguments
 have ha:Sv.argOk n k o A=true:=by
  cases e:Sv.argOk n k o A with
  | true=>rfl
  | false=>unfold Sv.CutE at hcE;rw [e] at hcE;cases hcE
 have ha2:Sv.argOk n k d s.2.1=true:=by
  cases e:Sv.argOk n k d s.2.1 with
  | true=>rfl
  | false=>unfold Sv.DlvE at hdl;rw [e] at hdl;cases hdl
 have hCE:Sv.fstE (calAt n o) (claAt n k).2.1 A=0:=by unfold Sv.CutE at hcE;rw [if_pos ha] at hcE;exact hcE
 have hCD:Sv.CutD n k o A=Sv.fstD (calAt n o) (claAt n k).2.1 A:=if_pos ha
 have hLE:Sv.fstE (calAt n d) (claAt n k).2.2 (rdyF n d s.2.1)=0:=by unfold Sv.DlvE at hdl;rw [if_pos ha2] at hdl;exact hdl
 have hLD:Sv.DlvD n k d s.2.1=Sv.fstD (calAt n d) (claAt n k).2.2 (rdyF n d s.2.1):=if_pos ha2
 unfold Sv.argOk at ha ha2
 simp only [Bool.and_eq_true] at ha ha2
 have ik:claIn n k:=Sv.idxF_iff.1 ha.1.1.1
 have io:offIn n o:=Sv.idxF_iff.1 ha.1.1.2
 have id':offIn n d:=Sv.idxF_iff.1 ha2.1.1.2
 have hA:0≤A∧A≤2000000:=Sv.time_iff.1 ha.1.2
 have hcl:=us_cla hu ik
 obtain ⟨⟨z1,z2⟩,hw7,hsr⟩:=cal_parts (us_cal hu io)
 -- the cut-off
 obtain ⟨cut,hcut⟩:∃ cut,cut=Sv.CutD n k o A:=⟨_,rfl⟩
 rw [← hcut] at h0 h1
 have eN:cut=momF (calAt n o).1 (Sv.nextD (calAt n o).2.1 (calAt n o).2.2 (Sv.d0F (calAt n o) (claAt n k).2.1 A)) (claAt n k).2.1:=by
  rw [hcut,hCD]
  exact if_pos hCE
 obtain ⟨_,_,n3⟩:=Sv.next_spec (w:=(calAt n o).2.1) (h:=(calAt n o).2.2) (d:=Sv.d0F (calAt n o) (claAt n k).2.1 A) hCE
 generalize Sv.nextD (calAt n o).2.1 (calAt n o).2.2 (Sv.d0F (calAt n o) (claAt n k).2.1 A)=D0 at eN n3
 have hD0:(planF l).1 - 1≤D0∧D0≤(planF l).2.1 + 1:=by
  unfold momF at eN
  omega
 have hin:cut ∈ cutsF n (planF l) k o:=by
  unfold cutsF
  refine List.mem_filter.2 ⟨List.mem_map.2 ⟨D0,?_,?_⟩,?_⟩
  ·unfold cutD
   exact wd_in hD0.1 hD0.2 n3
  ·rw [eN];rfl
  ·unfold cutIn
   rw [decide_eq_true h0,decide_eq_true h1];rfl
 have hAc:A≤cut:=by
  have:=Sv.fst_bnd (c:=calAt n o) (m:=(claAt n k).2.1) (t:=A) (by have:=us_cal hu io;exact this) hCE hcl.1.1 hcl.1.2
  rw [hcut,hCD];exact this.1
 -- the promise
 have hdo:Sv.dueOk n (planF l).2.2.2 (x1,o,d,k,A)=true:=by
  cases e:Sv.dueOk n (planF l).2.2.2 (x1,o,d,k,A) with
  | true=>rfl
  | false=>unfold Sv.DueE at hdE;rw [e] at hdE;cases hdE
 have hdC:Sv.dueCE n (x1,o,d,k,A)=0:=hCE
 have hdD:Sv.dueC n (x1,o,d,k,A)=cut:=by rw [hcut,hCD];rfl
 have hnum:¬ Sv.dueN (planF l).2.2.2 (x1,o,d,k,A) < 0:=fun g=>by
  unfold Sv.DueE at hdE
  rw [if_pos hdo,if_pos hdC,if_pos g] at hdE;cases hdE
 have eNum:Sv.dueN (planF l).2.2.2 (x1,o,d,k,A)=daysAt (planF l) k o d:=rfl
 have hAE:Sv.addE (calAt n d).2.1 (calAt n d).2.2 (begD n d cut) (daysAt (planF l) k o d)=0:=by
  have hx:=hdE
  unfold Sv.DueE at hx
  rw [if_pos hdo,if_pos hdC,if_neg hnum] at hx
  unfold Sv.dueAE Sv.dueA at hx
  rw [hdD] at hx
  exact hx
 have hDD:Sv.DueD n (planF l).2.2.2 (x1,o,d,k,A)=momF (calAt n d).1 (Sv.addD (calAt n d).2.1 (calAt n d).2.2 (begD n d cut) (daysAt (planF l) k o d)) (claAt n k).2.2:=by
  unfold Sv.DueD
  rw [if_pos hdE]
  unfold Sv.dueAD Sv.dueA
  rw [hdD];rfl
 rw [eNum] at hnum
 obtain ⟨xs,hpro⟩:=acc_pro hn hl h ik io id' (by omega) hin
 unfold proOk at hpro
 simp only [Bool.and_eq_true,decide_eq_true_eq] at hpro
 obtain ⟨pf,pd,pb,pn⟩:=hpro
 -- the way
 have hwo:Sv.wayOk n (planF l).2.2.1 o d A=true:=by
  cases e:Sv.wayOk n (planF l).2.2.1 o d A with
  | true=>rfl
  | false=>unfold Sv.WayE at hw;rw [e] at hw;cases hw
 have hwE:(Sv.wayN n (planF l).2.2.1 d 19 o A).2=0:=by unfold Sv.WayE at hw;rw [if_pos hwo] at hw;exact hw
 have hwL:Sv.WayL n (planF l).2.2.1 o d A=(Sv.wayN n (planF l).2.2.1 d 19 o A).1:=if_pos hwo
 obtain ⟨s',s1,s2⟩:=way_fol hu hpl id' 19 19 o A cut xs io pf hAc hwE
 rw [hwL,s1] at hs
 cases hs
 have hT:s.2.1≤folT n (planF l) o d cut xs:=s2
 -- the delivery
 obtain ⟨L,hL⟩:∃ L,L=lastD n (planF l) k o d cut xs:=⟨_,rfl⟩
 have hLm:L ∈ wdays (calAt n d).2.1 (calAt n d).2.2 (begF (calAt n d) (claAt n k).2.2 (rdyF n d (folT n (planF l) o d cut xs))) (begF (calAt n d) (claAt n k).2.2 (rdyF n d (folT n (planF l) o d cut xs)) + 59):=by
  unfold delOk at pd
  rw [hL]
  unfold lastD delD
  cases e:delO (calAt n d) (claAt n k).2.2 (rdyF n d (folT n (planF l) o d cut xs)) with
  | none=>rw [e] at pd;cases pd
  | some y =>
   unfold delO at e
   exact List.mem_of_mem_head? e
 obtain ⟨L1,_,L3⟩:=wd_mem hLm
 have hmom:rdyF n d s.2.1≤momF (calAt n d).1 L (claAt n k).2.2:=by
  have g1:rdyF n d s.2.1≤rdyF n d (folT n (planF l) o d cut xs):=Int.add_le_add_right hT _
  generalize rdyF n d (folT n (planF l) o d cut xs)=R at L1 g1
  unfold begF dayF minF at L1
  unfold momF
  split at L1 <;> omega
 have hdel:=fst_least hcl.2.2 hLE L3 hmom
 rw [hLD,hDD]
 refine Int.le_trans hdel ?_
 -- the days
 have hle:L≤Sv.addD (calAt n d).2.1 (calAt n d).2.2 (begD n d cut) (daysAt (planF l) k o d):=by
  unfold Sv.addE at hAE
  unfold Sv.addD
  split at hAE
  case isFalse=>omega
  rename_i h200
  rw [if_pos h200]
  cases e:Sv.addO (calAt n d).2.1 (calAt n d).2.2 (daysAt (planF l) k o d).toNat (begD n d cut) with
  | none=>rw [e] at hAE;simp at hAE
  | some y =>
   show L≤y
   rcases Int.lt_or_le y L with g | g
   ·have:=add_lt L3 _ e g
    unfold needL at pn
    rw [← hL] at pn
    omega
   ·exact g
 unfold momF
 omega
end Go.Eng.In

set_option maxRecDepth 100000
namespace Go.Eng.In
open Go.Proofs
abbrev Po:Ty:=.pair S (.pair I (.pair I (.pair I I)))
noncomputable def keepG (n:Net):Prop:=Sv.fewC n=true
noncomputable def KT:Kt:=kOr 11 (dataK [.row N,.val I,.val I,.val I] (fun _=>True) fun (n,k,o,t,_)=>.tup [.dat I (Sv.CutD n k o t),.dat I (Sv.CutE n k o t)]) <|
 kOr 14 (dataK [.row N,.val I,.val I,.val I] (fun _=>True) fun (n,k,o,t,_)=>.tup [.dat I (Sv.DlvD n k o t),.dat I (Sv.DlvE n k o t)]) <|
 kOr 12 (dataK [.row N,.val (.sl M),.row Po] (fun (_,dy,_)=>Sv.fitsT dy) fun (n,dy,x,_)=>.tup [.dat I (Sv.DueD n dy x),.dat I (Sv.DueE n dy x)]) <|
 kOr 13 (dataK [.row N,.val M,.val I,.val I,.val I] (fun (_,nx,_)=>Sv.fitsM nx) fun (n,nx,o,to,t,_)=>.tup [.dat (.sl Sv.Stp) (Sv.WayL n nx o to t),.dat I (Sv.WayE n nx o to t)]) <|
 kOr 8 (dataK [.row N] (fun (n,_)=>keepG n) fun (n,_)=>.dat .bool (Sv.soundF n)) KH
noncomputable def cT:Cfg:=⟨Tryz.prog,Sv.G0,KT,fun _=>false,KI0,false,fun _ _ _=>none,fun _=>false⟩
theorem vc_true (l:List Int) (x1:ByteArray) (x2 x3 x4 x5:Int) (cs:List Cal) (ns os:List ByteArray) (fs:List Off) (ls:List Line) (ks:List Cla) (hvc :
 let c1:=(cs,ns,os,fs,ls,ks);
 let c2:=D.not (fewAll c1 l);
 let c3:=D.not c2;
 let c4:=D.cnd c2 true (D.not (Sv.soundF c1));
 let c5:=D.not c4;
 let c6:=D.cnd c4 true (D.ne (checkF c1 l (sealG l)) (0:Int));
 let c7:=(l,sealG l);
 let c8:=D.ne (openC c7) (0:Int);
 let c9:=openR c7;
 let c10:=c9.snd;
 let c11:=c10.snd;
 let c12:=c11.snd;
 let c13:=c11.fst;
 let c14:=D.ne (Sv.CutE c1 x4 x2 x5) (0:Int);
 let c15:=D.not c14;
 let c16:=(x1,x2,x3,x4,x5);
 let c17:=D.cnd c14 true (D.ne (Sv.DueE c1 c12 c16) (0:Int));
 let c18:=D.not c17;
 let c19:=D.cnd c17 true (D.ne (Sv.WayE c1 c13 x2 x3 x5) (0:Int));
 let c20:=D.not c19;
 let c21:=Sv.WayL c1 c13 x2 x3 x5;
 let c22:=D.ilen c21;
 let c23:=D.cnd c19 true (D.eq c22 (0:Int));
 let c24:=D.not c23;
 let c25:=D.mul (1440:Int) c9.fst;
 let c26:=Sv.CutD c1 x4 x2 x5;
 let c27:=D.cnd c23 true (D.lt c26 c25);
 let c28:=D.not c27;
 let c29:=D.mul (1440:Int) c10.fst;
 let c30:=D.cnd c27 true (D.ge c26 c29);
 let c31:=D.sub c22 (1:Int);
 let c32:=(D.get c21 (D.nat c31) ((0:Int),(0:Int),(0:Int),(0:Int))).snd.fst;
 let c33:=D.ne (Sv.DlvE c1 x4 x3 c32) (0:Int);true=true∧(limS l→True∧limS l∧1=1∧0=0∧1=1∧0=0∧True∧(c3=true→c3=true→c3 =
 true)∧(c3=true→keepG c1)∧(c3=true→c3=true→c3=true)∧(D.and true c3=true→c3=true)∧(c5=true→1=1)∧(c5=true→0=0)∧(c5 =
 true→c5=true→c5=true)∧(c5=true→c5=true→c5=true)∧(c5=true→limI l∧netP c1)∧(c5=true→c5=true→c5=true)∧(D.and true c5 =
 true→c5=true)∧(c6=true→true=true∧True)∧(c6=false→1=1∧0=0∧limI l∧1=1∧0=0∧(c8=true→false=true∧True)∧(c8=false →
 True∧1=1∧1=1∧0=0∧Sv.fitsT c12∧1=1∧1=1∧0=0∧Sv.fitsM c13∧(c15=true→c15=true→c15=true)∧(D.and true c15=true→c15 =
 true)∧(c18=true→c18=true→c18=true)∧(D.and true c18=true→c18=true)∧(c20=true→c20=true→c20=true)∧(c20=true→c20=true→c20
 = true)∧(D.and true c20=true→c20=true)∧(c24=true→1=1)∧(c24=true→c24=true→c24=true)∧(c24=true→1=1)∧(c24=true→0=0) ∧
 (c24=true→c24=true→c24=true)∧(c24=true→inR IntKind.i64 c25)∧(c24=true→c24=true→c24=true)∧(c24=true→c24=true→c24=true) ∧
 (D.and true c24=true→c24=true)∧(c28=true→1=1)∧(c28=true→c28=true→c28=true)∧(c28=true→1=1)∧(c28=true→0=0)∧(c28 =
 true→c28=true→c28=true)∧(c28=true→inR IntKind.i64 c29)∧(c28=true→c28=true→c28=true)∧(c28=true→c28=true→c28=true)∧(D.and
 true c28=true→c28=true)∧(c30=true→true=true∧True)∧(c30=false→inR IntKind.i64 c31∧D.ile (0:Int) c31∧D.ilt c31 c22∧True∧(true =
 true→true=true→true=true)∧(true=true→true=true→true=true)∧(D.and true (D.not c33)=true→D.and true (D.not c33)=true→D.and true
 (D.not c33)=true)∧(D.and true (D.not c33)=true→D.and true (D.not c33)=true→D.and true (D.not c33)=true)∧(true=true→true=true→true =
 true)∧(true=true→D.and true (D.not c33)=true→D.and true (D.not c33)=true)∧(D.and true true=true→true=true)∧D.cnd true (D.cnd c33 true
 (D.le (Sv.DlvD c1 x4 x3 c32) (Sv.DueD c1 c12 c16))) false=true∧True))))) :
  evF cT noAnn 3 [.agg [.dat (.sl C) cs,.dat (.sl S) ns,.dat (.sl S) os,.dat (.sl Of) fs,.dat (.sl Ln) ls,.dat (.sl Kl) ks],.dat R l,.agg [.dat S x1,.dat I x2,.dat I x3,.dat I x4,.dat I x5]] [] ⟨limS l,.dat .bool true,[]⟩:=@of_eq _ _ (by kernel_rfl) hvc
theorem glob {P:Program} {G:List (Nat×AV)} {f:FuncId} {args:List AV} {m:Mem} {c:CRes} (h:SoundC P [] f args m c):SoundC P G f args m c :=
 fun hp w D E us hD _ ha hH=>h hp w D E us hD (fun p hp=>by cases hp) ha hH
theorem KHg:KSound Tryz.prog Sv.G0 KH:=fun f args m c h=>glob (KHs f args m c h)
theorem KTs:KSound Tryz.prog Sv.G0 KT:=kOr_ok (dataK_ok fun ((cs,ns,os,fs,ls,ks),k,o,t,_)=>Sv.t_Cut k o t cs ns os fs ls ks) <| kOr_ok (dataK_ok fun ((cs,ns,os,fs,ls,ks),k,o,t,_)=>Sv.t_Dlv k o t cs ns os fs ls ks) <|
 kOr_ok (dataK_ok fun ((cs,ns,os,fs,ls,ks),dy,(x1,x2,x3,x4,x5),_)=>Sv.t_Due dy x1 x2 x3 x4 x5 cs ns os fs ls ks) <| kOr_ok (dataK_ok fun ((cs,ns,os,fs,ls,ks),nx,o,to,t,_)=>Sv.t_pway nx o to t cs ns os fs ls ks) <| kOr_ok (dataK_ok fun ((cs,ns,os,fs,ls,ks),_)=>Sv.t_sound cs ns os fs ls ks) KHg
theorem KITs:KISound Tryz.prog Sv.G0 KI0:=fun f args c h=>by cases h
theorem way_len {n:Net} {nx:List (List Int)} {to:Int}:∀ (k:Nat) (o t:Int),(Sv.wayN n nx to k o t).1.length≤k + 1
 | k,o,t=>by
  by_cases h0:o=to
  ·rw [Sv.way_to k h0];simp
  by_cases h1:Sv.nxt nx o to=-1
  ·rw [Sv.way_route k h0 h1];simp
  by_cases h2:Sv.depE n (Sv.nxt nx o to) (Sv.readyF n o t)=0
  case neg=>rw [Sv.way_err k h0 h1 h2];simp
  cases k with
  | zero=>rw [Sv.way_full h0 h1 h2];simp
  | succ k =>
   rw [Sv.way_next k h0 h1 h2]
   have ih:=way_len (n:=n) (nx:=nx) (to:=to) k (Sv.lnTo n (Sv.nxt nx o to)) (Sv.depD n (Sv.nxt nx o to) (Sv.readyF n o t) + Sv.lnTrav n (Sv.nxt nx o to))
   unfold Sv.preW
   split
   ·rw [List.length_append,List.length_singleton];omega
   ·exact Nat.zero_le _
theorem keep_of {n:Net} {l:List Int} (h:fewAll n l=true):keepG n:=by
 unfold fewAll smF at h
 simp only [Bool.and_eq_true] at h
 have hf:=fewF_iff.1 h.1.1.1
 show Sv.fewC n=true
 unfold Sv.fewC
 rw [Bool.and_eq_true]
 exact ⟨hf.1,hf.2.2.1⟩
theorem acc_open {n:Net} {l:List Int} (h:Acc n l):openR (l,sealG l)=planF l∧openC (l,sealG l)=0:=by
 have:openOk (l,sealG l)=true:=by
  unfold openOk
  rw [show sealedF (l,sealG l).1 (l,sealG l).2=true from sealed_own h.ins,show plOk (l,sealG l).1=true from h.pl];rfl
 unfold openR openC
 rw [if_pos this,if_pos this]
 exact ⟨rfl,rfl⟩
theorem plan_fits {l:List Int} (hl:numsOk l) (h:plOk l=true):Sv.fitsM (planF l).2.2.1∧Sv.fitsT (planF l).2.2.2:=by
 obtain ⟨⟨m0,m1⟩,⟨q0,q1⟩,_⟩:=plan_parts hl h
 have tab:∀ (g:Int→Int→Int),Sv.fitsM (buildF g (l.getD 2 0)):=fun g=>⟨by rw [build_len];omega,fun r hr=>by have:=(build_row hr).1;omega⟩
 refine ⟨tab _,?_,fun t ht=>?_⟩
 ·show (tabsF _ _ _).length≤_
  rw [tabs_len];omega
 ·obtain ⟨k,rfl⟩:=tabs_mem ht
  exact tab _
theorem lr_true (l:List Int) (x1:ByteArray) (x2 x3 x4 x5:Int) (cs:List Cal) (ns os:List ByteArray) (fs:List Off) (ls:List Line) (ks:List Cla):SoundC Tryz.prog Sv.G0 3 [.agg [.dat (.sl C) cs,.dat (.sl S) ns,.dat (.sl S) os,.dat (.sl Of) fs,.dat (.sl Ln) ls,.dat (.sl Kl) ks],.dat R l,.agg [.dat S x1,.dat I x2,.dat I x3,.dat I x4,.dat I x5]] [] ⟨limS l,.dat .bool true,[]⟩:=by
 refine sound_of_ev (c:=cT) KTs KITs hm (vc_true l x1 x2 x3 x4 x5 cs ns os fs ls ks ⟨rfl,fun hp=>?_⟩)
 simp only [cnd_or,cnd_and,D.and,D.not,Bool.true_and,Bool.and_true,eq_self,true_and,and_true,imp_self,implies_true,Bool.not_eq_true',Bool.or_eq_true,Bool.or_eq_false_iff,Bool.not_eq_false',Bool.not_not,D.eq,D.ne,D.lt,D.le,D.ge,D.ilen,D.ile,D.ilt,D.sub,D.mul,D.nat,D.get,decide_eq_true_eq,decide_eq_false_iff_not,beq_iff_eq,bne_iff_ne,beq_eq_false_iff_ne,bne_eq_false_iff_eq]
 refine ⟨hp,fun h=>keep_of h,fun ⟨h,_⟩=>⟨limI_of (by have:=(fewAll_bnd h).1;omega),(fewAll_bnd h).2.1⟩,fun ⟨⟨h1,h2⟩,h3⟩=>?_⟩
 obtain ⟨l1,hn,_⟩:=fewAll_bnd h1
 have ll:limI l:=limI_of (by omega)
 have ac:=acc_iff.1 h3
 obtain ⟨eR,eC⟩:=acc_open ac
 have hnum:=acc_nums ll ac
 obtain ⟨f1,f2⟩:=plan_fits hnum ac.pl
 obtain ⟨_,_,a0,a1,a2⟩:=plan_parts hnum ac.pl
 have p0:(planF l).1=l.getD 0 0:=rfl
 have p1:(planF l).2.1=l.getD 1 0:=rfl
 rw [eR,eC]
 have hwl:(Sv.WayL (cs,ns,os,fs,ls,ks) (planF l).2.2.1 x2 x3 x5).length≤20:=by
  unfold Sv.WayL
  split
  ·exact way_len 19 _ _
  ·exact Nat.zero_le _
 refine ⟨ll,fun h=>absurd rfl h,fun _=>⟨f2,f1,fun _=>in_big (by omega),fun _=>in_big (by omega),fun ⟨⟨⟨⟨⟨g1,g2⟩,g3⟩,g4⟩,g5⟩,g6⟩=>⟨in_big (by omega),by omega,by omega,?_⟩⟩⟩
 generalize hw:Sv.WayL (cs,ns,os,fs,ls,ks) (planF l).2.2.1 x2 x3 x5=w at hwl g4 ⊢
 by_cases hd:Sv.DlvE (cs,ns,os,fs,ls,ks) x4 x3 (w.getD ((w.length:Int) - 1).toNat (0,0,0,0)).2.1=0
 ·refine .inr (true_main hn ll ac g1 (by omega) (by omega) g3 g2 ?_ hd)
  rw [hw,List.getLast?_eq_getElem?,List.getD_eq_getElem?_getD,show ((w.length:Int) - 1).toNat=w.length - 1 by omega,List.getElem?_eq_getElem (by omega)];rfl
 ·exact .inl hd
end Go.Eng.In
