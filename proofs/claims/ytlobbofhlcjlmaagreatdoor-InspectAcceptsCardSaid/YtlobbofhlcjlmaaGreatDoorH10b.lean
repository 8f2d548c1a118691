/- PeH10, PeH10b -/
import Derived.Test.YtlobbofhlcjlmaaGreatDoorH9
import Derived.Sort.LoopGhostIn
import Derived.RangeFuncLeaves
import Derived.RangeFuncSeq
set_option linter.unusedSimpArgs false
set_option linter.unusedVariables false
/- The engine, part 10: whatever order the operations of a region come in. -/
namespace Go.Eng
section
variable {σ : Type} (step : Nat → σ → σ)
def jR (done : Nat → Bool) : Nat → σ → σ
  | 0, s => s
  | k + 1, s => if done k then step k (jR done k s) else jR done k s
def aLD : Nat → Bool := fun _ => true
theorem tX {d d' : Nat → Bool} : ∀ (k : Nat) (s : σ), (∀ i, i < k → d i = d' i) → jR step d k s = jR step d' k s
  | 0, _, _ => rfl
  | k + 1, s, h => by
    simp only [jR]
    rw [tX k s (fun i hi => h i (by omega)), h k (by omega)]
variable {step}
structure Orders (step : Nat → σ → σ) (n : Nat) (anc : Nat → Nat → Bool) (Rok U : Nat → σ → Prop) (s0 : σ) : Prop where
  comm : ∀ i j, i < j → j < n → anc i j = false → ∀ s, step j (step i s) = step i (step j s)
  rk1 : ∀ i j, i < j → j < n → anc i j = false → ∀ s, Rok j (step i s) ↔ Rok j s
  rk2 : ∀ i j, i < j → j < n → anc i j = false → ∀ s, Rok i (step j s) ↔ Rok i s
  u : ∀ i j, i < n → j < n → i ≠ j → (i < j ∨ anc j i = false) → ∀ s, U j s → U j (step i s)
  lex : ∀ j, j < n → Rok j (jR step aLD j s0)
  u0 : ∀ j, j < n → U j s0
variable {n : Nat} {anc : Nat → Nat → Bool} {Rok U : Nat → σ → Prop} {s0 : σ}
theorem aHb (H : Orders step n anc Rok U s0) {done : Nat → Bool} (hd : ∀ i j, i < j → j < n → anc i j = true → done j = true → done i = true) : ∀ k, k ≤ n →
    ∃ l : List Nat, (∀ i ∈ l, i < k ∧ done i = false) ∧ jR step aLD k s0 = l.foldl (fun s i => step i s) (jR step done k s0)
  | 0, _ => ⟨[], by simp, rfl⟩
  | k + 1, hk => by
    obtain ⟨l, h1, h2⟩ := aHb H hd k (by omega)
    cases hdk : done k with
    | false =>
      refine ⟨l ++ [k], fun i hi => ?_, ?_⟩
      · rcases List.mem_append.1 hi with g | g
        · exact ⟨by have := (h1 i g).1; omega, (h1 i g).2⟩
        · simp at g; subst g; exact ⟨Nat.lt_succ_self _, hdk⟩
      · simp only [jR, aLD, if_true, hdk, Bool.false_eq_true, if_false, List.foldl_append, List.foldl_cons, List.foldl_nil]
        rw [← h2]
    | true =>
      refine ⟨l, fun i hi => ⟨by have := (h1 i hi).1; omega, (h1 i hi).2⟩, ?_⟩
      have key : ∀ (l : List Nat) (s : σ), (∀ i ∈ l, i < k ∧ done i = false) → step k (l.foldl (fun s i => step i s) s) = l.foldl (fun s i => step i s) (step k s) := by
        intro l
        induction l with
        | nil => intro s _; rfl
        | cons i l ih =>
          intro s hl
          have hi := hl i (by simp)
          have hna : anc i k = false := by
            cases ha : anc i k with
            | false => rfl
            | true => have := hd i k hi.1 (by omega) ha hdk; rw [hi.2] at this; cases this
          simp only [List.foldl_cons]
          rw [ih (step i s) (fun q hq => hl q (by simp [hq])), H.comm i k hi.1 (by omega) hna]
      show jR step aLD (k + 1) s0 = l.foldl (fun s i => step i s) (jR step done (k + 1) s0)
      have e1 : jR step aLD (k + 1) s0 = step k (jR step aLD k s0) := rfl
      have e2 : jR step done (k + 1) s0 = step k (jR step done k s0) := by show (if done k then _ else _) = _; rw [if_pos hdk]
      rw [e1, e2, h2, key l _ h1]
theorem aEI (H : Orders step n anc Rok U s0) {done : Nat → Bool} (hd : ∀ i j, i < j → j < n → anc i j = true → done j = true → done i = true) {j : Nat} (hj : j < n) (hdj : done j = false)
    (hpre : ∀ i, i < j → anc i j = true → done i = true) :
    Rok j (jR step done n s0) ∧ U j (jR step done n s0) ∧ jR step (fun i => if i = j then true else done i) n s0 = step j (jR step done n s0) := by
  have notAnc : ∀ i, j < i → i < n → done i = true → anc j i = false := fun i h1 h2 h3 => by
    cases ha : anc j i with
    | false => rfl
    | true => have := hd j i h1 h2 ha h3; rw [hdj] at this; cases this
  refine ⟨?_, ?_, ?_⟩
  · -- the footprint
    obtain ⟨l, h1, h2⟩ := aHb H hd j (by omega)
    have hl := H.lex j hj
    rw [h2] at hl
    have back : ∀ (l : List Nat) (s : σ), (∀ i ∈ l, i < j ∧ done i = false) → Rok j (l.foldl (fun s i => step i s) s) → Rok j s := by
      intro l
      induction l with
      | nil => intro s _ h; exact h
      | cons i l ih =>
        intro s hl h
        have hi := hl i (by simp)
        have hna : anc i j = false := by
          cases ha : anc i j with
          | false => rfl
          | true => have := hpre i hi.1 ha; rw [hi.2] at this; cases this
        have := ih (step i s) (fun q hq => hl q (by simp [hq])) h
        exact (H.rk1 i j hi.1 hj hna s).1 this
    have h3 : Rok j (jR step done j s0) := back l _ h1 hl
    have fwd : ∀ k, j ≤ k → k ≤ n → Rok j (jR step done k s0) := by
      intro k hjk
      induction k with
      | zero => intro _; have : j = 0 := by omega
                subst this; exact h3
      | succ k ih =>
        intro hk
        rcases Nat.lt_or_ge k j with hlt | hge
        · have : j = k + 1 := by omega
          subst this; exact h3
        · have g := ih hge (by omega)
          simp only [jR]
          split
          · rename_i hdk
            have hne : j ≠ k := fun e => by subst e; rw [hdj] at hdk; cases hdk
            exact (H.rk2 j k (by omega) (by omega) (notAnc k (by omega) (by omega) hdk) _).2 g
          · exact g
    exact fwd n (by omega) (Nat.le_refl _)
  · have all : ∀ k, k ≤ n → U j (jR step done k s0) := by
      intro k
      induction k with
      | zero => intro _; exact H.u0 j hj
      | succ k ih =>
        intro hk
        have g := ih (by omega)
        simp only [jR]
        split
        · rename_i hdk
          have hne : k ≠ j := fun e => by subst e; rw [hdj] at hdk; cases hdk
          refine H.u k j (by omega) hj hne ?_ _ g
          rcases Nat.lt_or_ge k j with h | h
          · exact .inl h
          · exact .inr (notAnc k (by omega) (by omega) hdk)
        · exact g
    exact all n (Nat.le_refl _)
  · have low : ∀ k, k ≤ j → jR step (fun i => if i = j then true else done i) k s0 = jR step done k s0 := fun k hk =>
      tX step k s0 (fun i hi => if_neg (by omega))
    have all : ∀ k, j + 1 ≤ k → k ≤ n → jR step (fun i => if i = j then true else done i) k s0 = step j (jR step done k s0) := by
      intro k hjk
      induction k with
      | zero => omega
      | succ k ih =>
        intro hk
        rcases Nat.lt_or_ge j k with hlt | hge
        · have g := ih hlt (by omega)
          have hkj : (k = j) = False := by simp; omega
          simp only [jR, hkj, if_false]
          rw [g]
          split
          · rename_i hdk
            exact H.comm j k hlt (by omega) (notAnc k hlt (by omega) hdk) _
          · rfl
        · have e : k = j := by omega
          subst e
          simp only [jR, if_true, hdj, Bool.false_eq_true, if_false]
          rw [low k (Nat.le_refl _)]
    exact all n (by omega) (Nat.le_refl _)
end
end Go.Eng

/- The engine, part 10b: where code leads in a frame whose function the program has: a panic may leave a round of a range over a function, too. -/
namespace Go.Eng
open Go
abbrev Any:Machine→Prop:=fun _=>True
def At (P:Program) (ro:Option Nat) (c:Code) (Q:Exit→Act→World→Prop) (a:Act) (w:World):Prop :=
 ∀ (b:Frame) (k:List Item) (cs:List Frame),b.roundOf=ro→(P.funcs[b.fn]?).isSome=true →
  ∃ e a' w',Q e a' w'∧ArrivesIn Any P (lone (b.atR a (.code c :: k)) cs w) b k cs e a' w'
theorem toAny {I:Machine→Prop} {P:Program} {m m':Machine} (h:StepsIn I P m m'):StepsIn Any P m m':=h.mono fun _ _=>trivial
theorem kT {P:Program} {m m':Machine} (h:step P m=.next m'):StepsIn Any P m m':=.one trivial h
theorem aNA {P:Program} {m m':Machine} (h:StepsIn Any P m m'):StepsIn (Machine.fenced P Fence.wide) P m m':=h.mono fun _ _=>fenced_wide P _
theorem aI5 {I:Machine→Prop} {P:Program} {m:Machine} {b:Frame} {k:List Item} {cs:List Frame} {e:Exit} {a:Act} {w:World} (h:ArrivesIn I P m b k cs e a w):ArrivesIn Any P m b k cs e a w:=by
 cases e with
 | normal=>exact toAny h
 | exit id=>exact ⟨fun k' hk=>toAny (h.1 k' hk),fun hr hk=>let ⟨k₁,h1,h2⟩:=h.2 hr hk;⟨k₁,h1,toAny h2⟩⟩
 | goto l=>exact ⟨fun k' hk=>toAny (h.1 k' hk),fun hr hk=>let ⟨k₁,h1,h2⟩:=h.2 hr hk;⟨k₁,h1,toAny h2⟩⟩
 | ret=>exact ⟨fun hr=>let ⟨t,h1⟩:=h.1 hr;⟨t,toAny h1⟩,fun hr=>let ⟨t,h1⟩:=h.2 hr;⟨t,toAny h1⟩⟩
 | panic ch=>exact let ⟨t,h1⟩:=h;⟨t,toAny h1⟩
 | outgrown=>exact h
section
variable {P:Program} {ro:Option Nat} {Q:Exit→Act→World→Prop} {a:Act} {w:World}
theorem aLu {F:Fence} {n:Nat} {c:Code} (hro:F.round=ro) (hfn:∀ f,F.fn f) (hd:F.depth=none) (h:c.wpIn F n P Q a w):At P ro c Q a w:=fun b k cs hb _ =>
 let ⟨e,a',w',q,r⟩:=h b k cs (hb.trans hro.symm) (hfn _) (fun d g=>by rw [hd] at g;cases g)
 ⟨e,a',w',q,aI5 r⟩
theorem aF7 {m:Machine} {b:Frame} {x:Item} {k:List Item} {cs:List Frame} {e:Exit} {a:Act} {w:World} (hx:x.plain=true) (he:e≠.normal) (h:ArrivesIn Any P m b (x :: k) cs e a w):ArrivesIn Any P m b k cs e a w :=
 .pass hx (fun _ _=>.inl he) h
theorem aB3 {x y:Code} (h:At P ro x (Exit.then (At P ro y Q) Q) a w):At P ro (.seq x y) Q a w:=fun b k cs hb hf=>by
 obtain ⟨e,a1,w1,hq,r⟩:=h b (.code y :: k) cs hb hf
 have s0:StepsIn Any P (lone (b.atR a (.code (.seq x y) :: k)) cs w) (lone (b.atR a (.code x :: .code y :: k)) cs w):=kT stepR_seq
 by_cases hn:e=.normal
 ·subst hn
  obtain ⟨e2,a2,w2,q2,r2⟩:=hq b k cs hb hf
  exact ⟨e2,a2,w2,q2,.of_steps (s0.trans r) r2⟩
 ·refine ⟨e,a1,w1,?_,.of_steps s0 (aF7 rfl hn r)⟩
  cases e <;> first | exact (hn rfl).elim | exact hq
theorem aRn {c:Operand} {x y:Code} {t:Bool} (hc:a.eval c=.bool t) (h1:t=true→At P ro x Q a w) (h2:t=false→At P ro y Q a w):At P ro (.cond c x y) Q a w:=fun b k cs hb hf=>by
 have h:At P ro (if t then x else y) Q a w:=by cases t with | true=>exact h1 rfl | false=>exact h2 rfl
 obtain ⟨e,a1,w1,hq,r⟩:=h b k cs hb hf
 exact ⟨e,a1,w1,hq,.of_steps (kT (stepR_cond hc)) r⟩
theorem aHO {id:Nat} {c:Code} (h:At P ro c (Exit.inBlock id Q) a w):At P ro (.block id c) Q a w:=fun b k cs hb hf=>by
 obtain ⟨e,a1,w1,hq,r⟩:=h b (.inBlock id :: k) cs hb hf
 have s0:StepsIn Any P (lone (b.atR a (.code (.block id c) :: k)) cs w) (lone (b.atR a (.code c :: .inBlock id :: k)) cs w):=kT stepR_block
 cases e with
 | normal=>exact ⟨.normal,a1,w1,hq,s0.trans (StepsIn.trans r (kT stepR_inBlock))⟩
 | exit j =>
  by_cases hj:j=id
  ·replace hq:Q .normal a1 w1:=by simpa only [Exit.inBlock,hj,if_true] using hq
   exact ⟨.normal,a1,w1,hq,s0.trans (r.1 k (by simp [exitTo,hj]))⟩
  ·replace hq:Q (.exit j) a1 w1:=by simpa only [Exit.inBlock,hj,if_false] using hq
   have hx:exitTo j (.inBlock id :: k)=exitTo j k:=by simp [exitTo,Ne.symm hj]
   exact ⟨.exit j,a1,w1,hq,fun k' hk=>s0.trans (r.1 k' (hx.trans hk)),fun g hk=>let ⟨k1,g1,g2⟩:=r.2 g (hx.trans hk);⟨k1,g1,s0.trans g2⟩⟩
 | goto l =>
  have hx:gotoIn l (.inBlock id :: k)=gotoIn l k:=by simp [gotoIn]
  exact ⟨.goto l,a1,w1,hq,fun k' hk=>s0.trans (r.1 k' (hx.trans hk)),fun g hk=>let ⟨k1,g1,g2⟩:=r.2 g (hx.trans hk);⟨k1,g1,s0.trans g2⟩⟩
 | ret=>exact ⟨_,a1,w1,hq,.of_steps s0 r⟩
 | panic ch=>exact ⟨_,a1,w1,hq,.of_steps s0 r⟩
 | outgrown=>exact ⟨_,a1,w1,hq,.of_steps s0 r⟩
theorem aOs {c:Code} (h:At P ro c (fun e a w=>match e with | .goto _=>False | e=>Q e a w) a w):At P ro (.scope c) Q a w:=fun b k cs hb hf=>by
 obtain ⟨e,a1,w1,hq,r⟩:=h b (.inScope c :: k) cs hb hf
 have s0:StepsIn Any P (lone (b.atR a (.code (.scope c) :: k)) cs w) (lone (b.atR a (.code c :: .inScope c :: k)) cs w):=kT (step_lone_go (by simp [stepG,stepG.exec,Frame.atR]))
 cases e with
 | normal=>exact ⟨.normal,a1,w1,hq,s0.trans (StepsIn.trans r (kT (step_lone_go (by simp [stepG,stepG.exec,Frame.atR]))))⟩
 | exit j =>
  have hx:exitTo j (.inScope c :: k)=exitTo j k:=by simp [exitTo]
  exact ⟨.exit j,a1,w1,hq,fun k' hk=>s0.trans (r.1 k' (hx.trans hk)),fun g hk=>let ⟨k1,g1,g2⟩:=r.2 g (hx.trans hk);⟨k1,g1,s0.trans g2⟩⟩
 | goto l=>exact hq.elim
 | ret=>exact ⟨_,a1,w1,hq,.of_steps s0 r⟩
 | panic ch=>exact ⟨_,a1,w1,hq,.of_steps s0 r⟩
 | outgrown=>exact ⟨_,a1,w1,hq,.of_steps s0 r⟩
theorem at_loop {c:Code} (I:Nat→Act→World→Prop) (n0:Nat) (h0:I n0 a w) (round:∀ n a w,I n a w→At P ro c (Exit.then (fun a' w'=>∃ n',n' < n∧I n' a' w') Q) a w):At P ro (.loop c) Q a w:=fun b k cs hb hf=>by
 have main:∀ (n:Nat),∀ m,m≤n→∀ a w,I m a w→∃ e a' w',Q e a' w'∧ArrivesIn Any P (lone (b.atR a (.code c :: .inLoop c :: k)) cs w) b k cs e a' w':=by
  intro n
  induction n with
  | zero =>
   intro m hm a w hI
   obtain ⟨e,a1,w1,hq,r⟩:=round m a w hI b (.inLoop c :: k) cs hb hf
   by_cases hn:e=.normal
   ·subst hn
    obtain ⟨n',h1,_⟩:=hq
    exact absurd h1 (by omega)
   ·refine ⟨e,a1,w1,?_,aF7 rfl hn r⟩
    cases e <;> first | exact (hn rfl).elim | exact hq
  | succ n ih =>
   intro m hm a w hI
   obtain ⟨e,a1,w1,hq,r⟩:=round m a w hI b (.inLoop c :: k) cs hb hf
   by_cases hn:e=.normal
   ·subst hn
    obtain ⟨n',h1,h2⟩:=hq
    obtain ⟨e2,a2,w2,q2,r2⟩:=ih n' (by omega) a1 w1 h2
    exact ⟨e2,a2,w2,q2,.of_steps (StepsIn.trans r (kT stepR_inLoop)) r2⟩
   ·refine ⟨e,a1,w1,?_,aF7 rfl hn r⟩
    cases e <;> first | exact (hn rfl).elim | exact hq
 obtain ⟨e,a',w',hq,r⟩:=main n0 n0 (Nat.le_refl _) a w h0
 exact ⟨e,a',w',hq,.of_steps (kT stepR_loop) r⟩
end
def aOT (P:Program) (l:Nat) (R:Ending→World→Prop):Exit→Act→World→Prop
 | .panic ch,a,w=>a.defers=[]∧R (.panicked ch) w
 | e,a,w=>roundPost P l R e a w
theorem aHe {P:Program} {l:Nat} {f:FuncId} {tmps:Array Value} {assign body:Code} {w:World} {R:Ending→World→Prop} (hf:(P.funcs[f]?).isSome=true)
  (h:At P (some l) assign (Exit.then (fun a1 w1=>∃ w2,(Instr.beginRound l).run P w1=.ok () w2∧At P (some l) body (aOT P l R) a1 w2) (fun _ _ _=>False)) { tmps:=tmps,defers:=[] } w) :
  RoundIn Fence.wide 0 P l f tmps assign body w R:=by
 refine ⟨trivial,fun c cs _=>?_⟩
 obtain ⟨b,hb⟩:∃ b:Frame,b={ (default:Frame) with fn:=f,kind:=.normal,roundOf:=some l }:=⟨_,rfl⟩
 have hr:b.roundOf=some l:=by rw [hb]
 have hfn:b.fn=f:=by rw [hb]
 have e0:Frame.round l f tmps assign body .normal=b.atR { tmps:=tmps,defers:=[] } [.code assign,.beginRound,.code body]:=by rw [hb];simp [Frame.round,Frame.atR]
 obtain ⟨e,a1,w1,hq,r⟩:=h b [.beginRound,.code body] (c :: cs) hr (by rw [hfn];exact hf)
 rw [← e0] at r
 cases e <;> first | exact hq.elim | skip
 obtain ⟨w2,hbr,hbody⟩:=hq
 have s1:StepsIn Any P (lone (Frame.round l f tmps assign body .normal) (c :: cs) w) (lone (b.atR a1 [.code body]) (c :: cs) w2):=StepsIn.trans r (kT (stepR_beginRound hr hbr))
 obtain ⟨e2,a2,w3,q2,r2⟩:=hbody b [] (c :: cs) hr (by rw [hfn];exact hf)
 have done:∀ {v:Value} {w4:World} {m:Machine},StepsIn Any P (lone (b.atR a1 [.code body]) (c :: cs) w2) m→step P m=.next (lone (c.finish v) cs w4)→R (.returned v) w4 →
   ∃ e w',R e w'∧ComesIn (Machine.fenced P Fence.wide) P (lone (Frame.round l f tmps assign body .normal) (c :: cs) w) (match e with | .returned v=>lone (c.finish v) cs w' | .panicked chain=>lone (c.raise chain) cs w' | .outgrown=>lone c cs w') e :=
  fun {v w4 _} g1 g2 g3=>⟨.returned v,w4,g3,aNA (s1.trans (g1.trans (kT g2)))⟩
 cases e2 with
 | normal =>
  obtain ⟨v,w4,hend,hR⟩:=q2
  exact done r2 (stepR_round_end hr (by rw [hb]) hend) hR
 | ret =>
  obtain ⟨v,w4,hend,hR⟩:=q2
  obtain ⟨k1,hs⟩:=r2.2 (by rw [hr];rfl)
  exact done hs (stepR_round_ret hr (by rw [hb]) hend) hR
 | exit id =>
  obtain ⟨v,w4,hend,hR⟩:=q2
  obtain ⟨k1,hk,hs⟩:=r2.2 (by rw [hr];rfl) rfl
  exact done hs (stepR_round_exit hr (by rw [hb]) hk hend) hR
 | goto t =>
  obtain ⟨v,w4,hend,hR⟩:=q2
  obtain ⟨k1,hk,hs⟩:=r2.2 (by rw [hr];rfl) rfl
  exact done hs (stepR_round_goto hr (by rw [hb]) hk hend) hR
 | panic ch =>
  obtain ⟨hd,hR⟩:=q2
  obtain ⟨todo,hs⟩:=r2
  refine ⟨.panicked ch,w3,hR,aNA (s1.trans (hs.trans (kT (step_leave_panicked ⟨rfl,hd,?_⟩))))⟩
  have:(P.funcs[b.fn]?).isSome=true:=by rw [hfn];exact hf
  exact Option.isSome_iff_exists.1 this
 | outgrown=>exact q2.elim
theorem at_range {P:Program} {ro:Option Nat} {g:Operand} {ps:Array Tmp} {assign body:Code} {Q:Exit→Act→World→Prop} {a:Act} {w:World}
  (h:∀ fn,(P.funcs[fn]?).isSome=true→∃ (l:Nat) (mark:List Deferred) (w1:World) (d:Deferred) (w1':World) (f:FuncId) (args:Array Value) (w2:World),
   (Instr.enterLoop fn a.tmps ps assign body ro).run P w=.ok (l,mark) w1∧(resolve a.eval (rangeCall g l) 0).run P w1=.ok d w1'∧(invoke d.target d.args).run P w1'=.ok (.enter f args) w2 ∧
   CallsIn Fence.wide 0 P f args w2 fun e w3=>match e with
    | .returned _=>∃ jump w4,(Instr.endLoop l).run P w3=.ok jump w4∧(match jump with | none=>Q .normal { a with defers:=mark ++ a.defers } w4 | some c=>At P ro c Q { a with defers:=mark ++ a.defers } w4)
    | .panicked ch=>Q (.panic ch) { a with defers:=mark ++ a.defers } w3
    | .outgrown=>False):At P ro (.rangeFunc g ps assign body) Q a w:=fun b k cs hb hf=>by
 obtain ⟨l,mark,w1,d,w1',f,args,w2,he,hres,hinv,_,hcall⟩:=h b.fn hf
 rw [← hb] at he
 have s0:=kT (stepR_rangeFunc (P:=P) (b:=b) (a:=a) (k:=k) (cs:=cs) (w:=w) he hres hinv)
 obtain ⟨e,w3,fr,hR,hst,_,hlv⟩:=hcall (b.atR { a with defers:=mark ++ a.defers } (.inRangeFunc l :: k) :: cs) (room_wide _)
 cases e with
 | outgrown=>exact hR.elim
 | returned v =>
  obtain ⟨jump,w4,hend,hj⟩:=hR
  have s1:StepsIn Any P (lone fr (b.atR { a with defers:=mark ++ a.defers } (.inRangeFunc l :: k) :: cs) w3) (lone (b.atR { a with defers:=mark ++ a.defers } (.endRangeFunc l :: k)) cs w3):=by
   rw [← finish_atR_inRangeFunc l v];exact kT (step_leave_returned hlv)
  have s2:=(s0.trans (toAny hst)).trans (s1.trans (kT (stepR_endRangeFunc hend)))
  cases jump with
  | none=>exact ⟨.normal,_,w4,hj,s2⟩
  | some c =>
   obtain ⟨e',a'',w5,hq,r⟩:=hj b k cs hb hf
   exact ⟨e',a'',w5,hq,.of_steps s2 r⟩
 | panicked ch =>
  refine ⟨.panic ch,_,w3,hR,.inRangeFunc l :: k,(s0.trans (toAny hst)).trans (kT ?_)⟩
  rw [← Frame.raise_atR];exact step_leave_panicked hlv
theorem aAQ {P:Program} {f:FuncId} {fn:Func} {c:Code} {args:Array Value} {w:World} {R:Ending→World→Prop} (hf:P.funcs[f]?=some fn) (hb:fn.body=some c)
  (h:At P none c (bodyPostM Fence.wide 0 P fn R) { tmps:=args ++ Array.replicate (fn.ntmps - args.size) undef,defers:=[] } w):CallsIn Fence.wide 0 P f args w R:=by
 refine ⟨trivial,fun cs hr=>?_⟩
 obtain ⟨b,hB⟩:∃ b:Frame,b={ (default:Frame) with fn:=f,kind:=.normal,roundOf:=none }:=⟨_,rfl⟩
 have hfn:b.fn=f:=by rw [hB]
 have hk:b.kind=.normal:=by rw [hB]
 have hro:b.roundOf=none:=by rw [hB]
 have e0:Frame.enter P f args .normal=b.atR { tmps:=args ++ Array.replicate (fn.ntmps - args.size) undef,defers:=[] } [.code c]:=by rw [hB];simp [Frame.enter,Frame.atR,hf,hb]
 obtain ⟨e,a',w',hq,r⟩:=h b [] cs hro (by rw [hfn,hf];rfl)
 rw [← e0] at r
 have out:∀ (m:FrameMode) (todo:List Item),m≠.run→LeavesInM Fence.wide 0 P fn a'.tmps R a'.defers m w'→StepsIn Any P (lone (Frame.enter P f args .normal) cs w) (lone { b.atR a' todo with mode:=m } cs w') →
   ∃ e w' fr,R e w'∧ComesIn (Machine.fenced P Fence.wide) P (lone (Frame.enter P f args .normal) cs w) (lone fr cs w') e∧fr.fn=f∧fr.leaving P w' e:=fun m todo _ hl hs=>by
  obtain ⟨e',w'',fr',hR',g1,g2,g3⟩:=leaves_stepsInM (F:=Fence.wide) (n:=0) a'.defers m w' { b.atR a' todo with mode:=m } cs rfl rfl rfl (by rw [show ({ b.atR a' todo with mode:=m }:Frame).fn=f from hfn];exact hf) hk trivial hr hl
  exact ⟨e',w'',fr',hR',ComesIn.of_steps (aNA hs) g1,g2.trans hfn,g3⟩
 cases e with
 | normal=>exact out .returning [] (by simp) hq (StepsIn.trans r (kT (stepR_end hro)))
 | ret =>
  obtain ⟨todo,hs⟩:=r.1 hro
  exact out .returning todo (by simp) hq hs
 | panic ch =>
  obtain ⟨todo,hs⟩:=r
  exact out (.panicking ch) todo (by simp) hq hs
 | exit id=>exact hq.elim
 | goto l=>exact hq.elim
 | outgrown=>exact ⟨.outgrown,w',b,hq,r.resolve_left (by rw [hk];simp),hfn,trivial⟩
end Go.Eng
