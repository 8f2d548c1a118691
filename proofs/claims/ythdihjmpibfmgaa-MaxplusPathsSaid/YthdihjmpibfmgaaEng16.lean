/- The engine, part 16: a function's contract out of its evaluated body. -/
import Derived.Test.YthdihjmpibfmgaaEng15
namespace Go.Eng
open Go.RowKit

/-- The values of the results. -/
def retVs (s : St) : List ResultVar → Option (List AV)
  | [] => some []
  | .tmp t :: rs => match retVs s rs with
    | some vs => some (s.sig.T t :: vs)
    | none => none
  | .cell a _ :: rs => match (s.sig.T a), retVs s rs with
    | .ptr nm 1 0 c, some vs => match s.mem.lookup nm with
      | some (.var cs) => match cs.drop c with
        | x :: _ => some (x :: vs)
        | [] => none
      | _ => none
    | _, _ => none

def onlyTmps : List ResultVar → Bool
  | [] => true
  | .tmp _ :: rs => onlyTmps rs
  | _ :: _ => false

def retV (s : St) (rs : List ResultVar) : Option AV := match retVs s rs with
  | some [v] => some v
  | some vs => some (.tup vs)
  | none => none

/-- Where the body ends: its results say what the contract says. -/
def retQ (fn : Func) (ret : AV) (s : St) : Prop := match retV s fn.results.toList with
  | some v => match leA s.mem [] v ret with
    | some ns => all ns True
    | none => False
  | none => False

def endQ (fn : Func) (ret : AV) : Exit → St → Prop
  | .normal, s => retQ fn ret s
  | .ret, s => retQ fn ret s
  | _, _ => False

def startSt (fn : Func) (args : List AV) : St := ⟨args ++ List.replicate (fn.ntmps - args.length) (.val undef), [], 0⟩

/-- What is to be shown for a function to keep its contract. -/
def evF (c : Cfg) (A : Ann) (f : FuncId) (args : List AV) (r : CRes) : Prop := match c.P.funcs[f]? with
  | some fn => match fn.body with
    | some b => onlyTmps fn.results.toList = true ∧ nameless r.ret = true ∧ (r.pre → ev c A b (startSt fn args) (endQ fn r.ret))
    | none => False
  | none => False

theorem retVs_rel {S : Base} {s : St} {a : Act} {w : World} {D : Nat → Prop} {E : Nat → Ent} (h : SimD S s.sig a w D E) : ∀ {rs : List ResultVar} {vs : List AV}, onlyTmps rs = true → retVs s rs = some vs →
    ∃ us : List Value, ((rs.mapM fun | ResultVar.tmp t => pure (a.tmps.getD t undef) | .cell ad t => do loadVar t (← asAddr (a.tmps.getD ad undef))) : Sem (List Value)).run S.P w = .ok us w ∧ AV.relL S.P ⟨w, D, s.sig.m, E⟩ vs us
  | [], vs, _, hv => by
    simp only [retVs] at hv
    cases hv
    exact ⟨[], by simp, rfl⟩
  | .tmp t :: rs, vs, ho, hv => by
    simp only [retVs] at hv
    split at hv
    case h_2 => cases hv
    rename_i vs' hvs
    cases hv
    obtain ⟨us, g1, g2⟩ := retVs_rel h (rs := rs) (by simpa [onlyTmps] using ho) hvs
    refine ⟨a.tmps.getD t undef :: us, ?_, _, us, rfl, h.tm t, g2⟩
    rw [List.mapM_cons]
    simp only [pure_bind, Sem.run_bind, g1, Result.andThen_ok, Sem.run_pure]
  | .cell _ _ :: rs, vs, ho, hv => by simp [onlyTmps] at ho

theorem sound_of_ev {c : Cfg} {A : Ann} {f : FuncId} {args : List AV} {r : CRes} (hK : KSound c.P c.K) (hm : c.P.follows .mixedOrders = true) (h : evF c A f args r) : SoundC c.P f args r := by
  intro hpre w D us hD hargs
  unfold evF at h
  split at h
  case h_2 => exact h.elim
  rename_i fn hf
  split at h
  case h_2 => exact h.elim
  rename_i b hb
  obtain ⟨ho, hnl, h⟩ := h
  have h := h hpre
  have hlen : args.length = us.length := AV.relL_length hargs
  let S : Base := ⟨c.P, w, D, args.length + (fn.ntmps - args.length)⟩
  refine calls_of_wp hf hb ?_
  have hstart : Sim S (startSt fn args).sig { tmps := us.toArray ++ Array.replicate (fn.ntmps - us.toArray.size) undef, defers := [] } w := by
    refine ⟨D, noE, ?_, rfl, fun t => ?_, fun nm b hm => (by cases hm), fun nm b hm => (by cases hm), fun nm nm' b b' hm => (by cases hm), Below.refl _ _, hD, fun b hb => hb, fun b hb => .inl hb⟩
    · show (us.toArray ++ Array.replicate (fn.ntmps - us.toArray.size) undef).size = args.length + (fn.ntmps - args.length)
      simp [hlen]
    · show ((args ++ List.replicate (fn.ntmps - args.length) (AV.val undef)).getD t .top).rel c.P ⟨w, D, noM, noE⟩ _
      rw [List.getD_eq_getElem?_getD, Array.getD_eq_getD_getElem?]
      by_cases ht : t < args.length
      · rw [List.getElem?_append_left ht, Array.getElem?_append_left (by simpa using hlen ▸ ht)]
        obtain ⟨u, g1, g2⟩ := AV.relL_get hargs (List.getElem?_eq_getElem ht)
        rw [List.getElem?_eq_getElem ht]
        simp only [List.getElem?_toArray, g1, Option.getD_some]
        exact g2
      · rw [List.getElem?_append_right (by omega), Array.getElem?_append_right (by simp; omega)]
        rw [List.getElem?_replicate, Array.getElem?_replicate]
        split
        · rename_i h1
          rw [if_pos (by simp; omega)]
          rfl
        · trivial
  refine ev_ok (S := S) rfl hK hm b (startSt fn args) (endQ fn r.ret) _ h (by simp [startSt, S]) (fun e s' hq hl a' w' hs' => ?_) _ w hstart
  have key : retQ fn r.ret s' → a'.defers = [] ∧ ∃ v, (results fn a'.tmps).run c.P w' = .ok v w' ∧ (∃ v', Ending.returned v = .returned v' ∧ Below w.heap.size w w' ∧ r.ret.rel c.P ⟨w', fun b => D b ∨ Fresh w w' b, noM, noE⟩ v') := by
    intro hq
    unfold retQ at hq
    split at hq
    case h_2 => exact hq.elim
    rename_i v hv
    split at hq
    case h_2 => exact hq.elim
    rename_i ns hns
    have hn := (all_out hq).1
    obtain ⟨D', E', hs⟩ := hs'
    obtain ⟨u, hu, hru⟩ : ∃ u, (results fn a'.tmps).run c.P w' = .ok u w' ∧ v.rel c.P ⟨w', D', s'.sig.m, E'⟩ u := by
      unfold retV at hv
      have hres : ∀ vs us', retVs s' fn.results.toList = some vs → ((fn.results.toList.mapM fun | ResultVar.tmp t => pure (a'.tmps.getD t undef) | .cell ad t => do loadVar t (← asAddr (a'.tmps.getD ad undef))) : Sem (List Value)).run c.P w' = .ok us' w' →
          (results fn a'.tmps).run c.P w' = .ok (if h : us'.toArray.size = 1 then us'.toArray[0] else .tuple us'.toArray) w' := by
        intro vs us' _ hrun
        have e : results fn a'.tmps = (do
            let l ← ((fn.results.toList.mapM fun | ResultVar.tmp t => pure (a'.tmps.getD t undef) | .cell ad t => do loadVar t (← asAddr (a'.tmps.getD ad undef))) : Sem (List Value))
            let vs : Array Value := l.toArray
            pure (if h : vs.size = 1 then vs[0] else .tuple vs)) := by
          unfold results
          rw [Array.mapM_eq_mapM_toList, map_eq_pure_bind, bind_assoc]
          simp only [pure_bind]
          rfl
        rw [e]
        simp only [Sem.run_bind, hrun, Result.andThen_ok, Sem.run_pure]
      split at hv
      · rename_i v1 hv1
        cases hv
        obtain ⟨us', g1, g2⟩ := retVs_rel hs ho hv1
        obtain ⟨u1, _, rfl, g3, g4⟩ := g2
        simp only [AV.relL] at g4
        subst g4
        exact ⟨u1, by simpa using hres _ _ hv1 g1, g3⟩
      · rename_i vs hne hv1
        cases hv
        obtain ⟨us', g1, g2⟩ := retVs_rel hs ho hv1
        have hl2 := AV.relL_length g2
        have hne1 : us'.toArray.size ≠ 1 := by
          intro e
          have : vs.length = 1 := by simpa [hl2] using e
          obtain ⟨v1, rfl⟩ := List.length_eq_one_iff.1 this
          exact hne v1 rfl
        exact ⟨.tuple us'.toArray, by have := hres _ _ hv1 g1; rw [dif_neg hne1] at this; exact this, us', rfl, g2⟩
      · cases hv
    refine ⟨hs.df, u, hu, u, rfl, hs.low, ?_⟩
    have hN : Names s'.mem ([] : Mem) := fun nm b b' _ hb' => by cases hb'
    have hr := leA_rel (s := s') (s' := ⟨[], [], 0⟩) (S := S) hs hN hns hn hru
    refine AV.rel_mono (C := ctx1 s' ⟨[], [], 0⟩ w' D' E') (C' := ⟨w', fun b => D b ∨ Fresh w w' b, noM, noE⟩) ⟨fun b hb => ?_, fun _ _ => rfl⟩ (fun nm hm => ?_) hr
    · rcases hb with hb | ⟨nm, blk, k1, k2, k3, k4⟩
      · rcases hs.dhi b hb with g | g
        · exact .inl g
        · exact .inr ⟨g, hs.dlt b hb⟩
      · rw [k4]
        have := hs.own nm blk k1 k3
        exact .inr ⟨this.1, this.2.1⟩
    · unfold nameless at hnl
      rw [List.isEmpty_iff] at hnl
      rw [hnl] at hm; cases hm
  cases e <;> first
    | exact key hq
    | exact hq.elim

end Go.Eng
