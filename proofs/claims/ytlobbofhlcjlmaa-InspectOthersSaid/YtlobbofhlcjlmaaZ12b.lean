/- The engine, part 12b: a region that draws its order, where one operation is of another kind: it may panic, or hand something over. -/
import Derived.Test.YtlobbofhlcjlmaaZ12
set_option linter.unusedSimpArgs false
set_option linter.unusedVariables false
namespace Go.Eng
open Go.RowKit

section
variable {S : Base} {K : Kt} {mb : Tmp → Bool} {ops : Array Oper} {s : St} {rs : List Rec}

theorem unl_step {listed : Array Bool} {j N : Nat} (hsz : listed.size = N) (hjl : j < N) (hjun : listed.getD j true = false) : ((List.range N).filter fun i => !(listed.setIfInBounds j true).getD i true).length + 1 ≤ ((List.range N).filter fun i => !listed.getD i true).length := by
  have hc : ∀ (l : List Nat), l.Nodup → j ∈ l → (l.filter fun i => !(listed.setIfInBounds j true).getD i true).length + 1 ≤ (l.filter fun i => !listed.getD i true).length := by
    intro l
    induction l with
    | nil => intro _ h; cases h
    | cons x l ihl =>
      intro hnd hm
      rw [List.nodup_cons] at hnd
      simp only [List.filter_cons]
      by_cases hx : x = j
      · subst hx
        have e1 : (listed.setIfInBounds x true).getD x true = true := by
          simp [Array.getD, hsz, hjl]
        have e2 : ∀ (l : List Nat), x ∉ l → (l.filter fun i => !(listed.setIfInBounds x true).getD i true) = l.filter fun i => !listed.getD i true := by
          intro l hl
          apply List.filter_congr
          intro i hi
          have : i ≠ x := fun e => hl (e ▸ hi)
          simp only [Array.getD_eq_getD_getElem?, Array.getElem?_setIfInBounds]
          rw [if_neg (fun e => this e.symm)]
        rw [e1, hjun, e2 l hnd.1]
        simp
      · have e1 : (listed.setIfInBounds j true).getD x true = listed.getD x true := by
          simp only [Array.getD_eq_getD_getElem?, Array.getElem?_setIfInBounds]
          rw [if_neg (fun e => hx e.symm)]
        rw [e1]
        have ih2 := ihl hnd.2 (by rcases List.mem_cons.1 hm with g | g; exact (hx g.symm).elim; exact g)
        split
        · simp only [List.length_cons]; omega
        · exact ih2
  exact hc (List.range N) List.nodup_range (by simpa using hjl)

/-- The operations that have their records: those from k on that neither are q nor come behind it. -/
def Live (tbl : List Nat) (k q j : Nat) : Prop := k ≤ j ∧ j ≠ q ∧ (tbl.getD j 0).testBit q = false

theorem draw_gen (hK : KSound S.P S.G K) (hlen : rs.length = ops.size) (htm : s.tm.length = S.N) {tbl : List Nat} {k q : Nat}
    (hat : ∀ (j : Nat) o r, ops[j]? = some o → rs[j]? = some r → Live tbl k q j → stepE S.P S.G K (mtOf mb o) ops (stAt rs s j).nx (stAt rs s j).sig o = some r ∧ (∀ d, o.dst = some d → d < S.N) ∧ ∀ p ∈ r.need, p)
    (hok : ∀ (j : Nat) (r : Rec), rs[j]? = some r → recOk r s.tm.length = true) (hnew : okNew true tbl s rs = true) (hdr : okDraw tbl ops.toList rs = true) {Q : Exit → Act → World → Prop}
    (hQ : ops.size ≤ q → ∀ a' w', Sim S (stAt rs s rs.length).sig a' w' → Q .normal a' w')
    (spec : q < ops.size → ∀ (n : Nat) (listed : Array Bool) (a : Act) (w : World), listed.size = ops.size → listed.getD q false = false → ((List.range ops.size).filter fun i => !listed.getD i true).length ≤ n + 1 →
      (∀ i, (tbl.getD q 0).testBit i = true → listed.getD i false = true) → (∀ i, (tbl.getD i 0).testBit q = true → i < ops.size → listed.getD i false = false) →
      (∀ r, rs[q]? = some r → (∀ t ∈ r.reads, (runD (stepI rs) (fun i => listed.getD i false) ops.size s.sig).T t = (stAt rs s q).sig.T t) ∧ ∀ nm ∈ r.fp, (runD (stepI rs) (fun i => listed.getD i false) ops.size s.sig).m nm = (stAt rs s q).sig.m nm) →
      Sim S (runD (stepI rs) (fun i => listed.getD i false) ops.size s.sig) a w → wpOpIn S.F 0 S.P ops Q q (wpAnyIn S.F 0 S.P .any ops Q n (listed.setIfInBounds q true)) a w) :
    ∀ (n : Nat) (listed : Array Bool) (a : Act) (w : World), listed.size = ops.size → ((List.range ops.size).filter fun i => !listed.getD i true).length ≤ n →
      (∀ i, i < k → i < ops.size → listed.getD i false = true) → (q < ops.size → listed.getD q false = false) →
      (∀ i j, i < j → j < ops.size → (tbl.getD j 0).testBit i = true → listed.getD j false = true → listed.getD i false = true) →
      Sim S (runD (stepI rs) (fun i => listed.getD i false) ops.size s.sig) a w → wpAnyIn S.F 0 S.P .any ops Q n listed a w := by
  obtain ⟨hanc, hind⟩ := okDraw_ok hdr hlen
  have get : ∀ j, j < ops.size → ∃ r, rs[j]? = some r := fun j hj => ⟨_, List.getElem?_eq_getElem (by rw [hlen]; exact hj)⟩
  -- the orders
  have HO : Orders (stepI rs) ops.size (fun i j => (tbl.getD j 0).testBit i)
      (fun j σ => ∀ r, rs[j]? = some r → (∀ t ∈ r.reads, σ.T t = (stAt rs s j).sig.T t) ∧ ∀ nm ∈ r.fp, σ.m nm = (stAt rs s j).sig.m nm)
      (fun j σ => ∀ r k, rs[j]? = some r → r.new = some k → Unm k σ) s.sig := by
    refine ⟨fun i j hij hj hna σ => ?_, fun i j hij hj hna σ => ?_, fun i j hij hj hna σ => ?_, fun i j hi hj hne hc σ hu => ?_, fun j hj => ?_, fun j hj r k hr hk => (okNew_ok hnew hr hk).1⟩
    · obtain ⟨r, hr⟩ := get i (by omega); obtain ⟨q, hq⟩ := get j hj
      simp only [stepI, hr, hq]
      exact (indep_ok (hind i j r q hij hr hq hna)).1 σ
    · obtain ⟨r, hr⟩ := get i (by omega); obtain ⟨q, hq⟩ := get j hj
      obtain ⟨g1, g2⟩ := (indep_ok (hind i j r q hij hr hq hna)).2.1 σ
      simp only [stepI, hr]
      refine ⟨fun h r' hr' => ?_, fun h r' hr' => ?_⟩ <;> (have e : r' = q := Option.some.inj (hr'.symm.trans hq); subst e; obtain ⟨h1, h2⟩ := h _ hr')
      · exact ⟨fun t ht => (g1 t ht).symm.trans (h1 t ht), fun nm hnm => (g2 nm hnm).symm.trans (h2 nm hnm)⟩
      · exact ⟨fun t ht => (g1 t ht).trans (h1 t ht), fun nm hnm => (g2 nm hnm).trans (h2 nm hnm)⟩
    · obtain ⟨r, hr⟩ := get i (by omega); obtain ⟨q, hq⟩ := get j hj
      obtain ⟨g1, g2⟩ := (indep_ok (hind i j r q hij hr hq hna)).2.2 σ
      simp only [stepI, hq]
      refine ⟨fun h r' hr' => ?_, fun h r' hr' => ?_⟩ <;> (have e : r' = r := Option.some.inj (hr'.symm.trans hr); subst e; obtain ⟨h1, h2⟩ := h _ hr')
      · exact ⟨fun t ht => (g1 t ht).symm.trans (h1 t ht), fun nm hnm => (g2 nm hnm).symm.trans (h2 nm hnm)⟩
      · exact ⟨fun t ht => (g1 t ht).trans (h1 t ht), fun nm hnm => (g2 nm hnm).trans (h2 nm hnm)⟩
    · obtain ⟨q, hq⟩ := get i hi
      intro r k hr hk
      simp only [stepI, hq]
      refine quietOf_ok ((okNew_ok hnew hr hk).2 i q hq hne ?_) (hu r k hr hk)
      rcases hc with hc | hc
      · exact .inl hc
      · exact .inr ⟨rfl, hc⟩
    · intro r hr
      rw [runD_all hok j (by rw [hlen]; omega)]
      exact ⟨fun _ _ => rfl, fun _ _ => rfl⟩
  have below : ∀ q, q < ops.size → ∀ i, (tbl.getD q 0).testBit i = true → i < q := by
    intro q
    induction q using Nat.strongRecOn with
    | _ q ihq =>
      intro hq i hb
      have hoq := Array.getElem?_eq_getElem hq
      obtain ⟨e, he, heb, hc⟩ := (hanc q _ hoq).2 i hb
      have hlt := (hanc q _ hoq).1 e he heb
      rcases hc with rfl | hc
      · exact hlt
      · have := ihq e.on hlt (by omega) i hc; omega
  have allDone : ∀ (listed : Array Bool) (a : Act) (w : World), listed.size = ops.size → Region.ready .any ops listed = [] → (q < ops.size → listed.getD q false = false) →
      Sim S (runD (stepI rs) (fun i => listed.getD i false) ops.size s.sig) a w → Q .normal a w := by
    intro listed a w hsz hrd hql h
    have hall : ∀ j, j < ops.size → listed.getD j false = true := by
      intro j
      induction j using Nat.strongRecOn with
      | _ j ih =>
        intro hj
        cases hd : listed.getD j false with
        | true => rfl
        | false =>
          exfalso
          have ho := Array.getElem?_eq_getElem hj
          have hmem : j ∈ Region.ready .any ops listed := by
            unfold Region.ready
            simp only [List.mem_filter, List.mem_range, Bool.and_eq_true, ho, Option.map_some, Option.getD_some]
            refine ⟨hj, ?_, ?_⟩
            · have : listed.getD j true = listed.getD j false := by simp [Array.getD, hsz, hj]
              rw [this, hd]; rfl
            · rw [Array.all_eq_true_iff_forall_mem]
              intro e he
              cases hb : Region.binds .any e with
              | false => rfl
              | true =>
                have hlt := (hanc j _ ho).1 e he hb
                rw [ih e.on hlt (by omega)]; rfl
          rw [hrd] at hmem; cases hmem
    have hqs : ops.size ≤ q := by
      rcases Nat.lt_or_ge q ops.size with g | g
      · have := hql g; rw [hall q g] at this; cases this
      · exact g
    refine hQ hqs a w ?_
    rw [hlen, ← runD_all hok ops.size (by rw [hlen]; exact Nat.le_refl _), runD_congr (stepI rs) (d := allD) (d' := fun i => listed.getD i false) ops.size s.sig (fun i hi => (hall i hi).symm)]
    exact h
  intro n
  induction n with
  | zero =>
    intro listed a w hsz hcnt _ hql hdc h
    have hrd : Region.ready .any ops listed = [] := by
      have : ((List.range ops.size).filter fun i => !listed.getD i true) = [] := List.eq_nil_of_length_eq_zero (by omega)
      unfold Region.ready
      rw [List.filter_eq_nil_iff] at this ⊢
      intro i hi
      have := this i hi
      simp only [Bool.and_eq_true, not_and]
      intro h1; exact (this h1).elim
    exact ⟨hrd, allDone listed a w hsz hrd hql h⟩
  | succ n ih =>
    intro listed a w hsz hcnt hk hql hdc h
    refine ⟨fun hrd => allDone listed a w hsz hrd hql h, fun j hj => ?_⟩
    obtain ⟨hjun, o, ho, hpre⟩ := mem_ready.1 hj
    have hjl : j < ops.size := (Array.getElem?_eq_some_iff.1 ho).1
    obtain ⟨r, hr⟩ := get j hjl
    have hjf : listed.getD j false = false := by
      have : listed.getD j true = listed.getD j false := by simp [Array.getD, hsz, hjl]
      rw [← this]; exact hjun
    have hp : ∀ i, i < j → (tbl.getD j 0).testBit i = true → listed.getD i false = true := by
      intro i hij hb
      obtain ⟨e, he, heb, hc⟩ := (hanc j o ho).2 i hb
      have hel := hpre e he heb
      rcases hc with rfl | hc
      · exact hel
      · have hlt := (hanc j o ho).1 e he heb
        exact hdc i e.on (below e.on (by omega) i hc) (by omega) hc hel
    obtain ⟨g1, g2, g3⟩ := orders_at HO (done := fun i => listed.getD i false) hdc hjl hjf hp
    by_cases hjq : j = q
    · subst hjq
      exact spec hjl n listed a w hsz hjf hcnt (fun i hb => hp i (below j hjl i hb) hb) (fun i hb hi => by
        cases hl : listed.getD i false with
        | false => rfl
        | true => have := hdc j i (below i hi j hb) hi hb hl; rw [hjf] at this; cases this) g1 h
    · have hlive : Live tbl k q j := by
        refine ⟨?_, hjq, ?_⟩
        · rcases Nat.lt_or_ge j k with g | g
          · have := hk j g hjl; rw [hjf] at this; cases this
          · exact g
        · cases hb : (tbl.getD j 0).testBit q with
          | false => rfl
          | true =>
            have hlt := below j hjl q hb
            have := hp q hlt hb
            rw [hql (by omega)] at this; cases this
      obtain ⟨g4, g5⟩ := g1 r hr
      obtain ⟨l1, l2, l3⟩ := hat j o r ho hr hlive
      have hst := stepE_congr l1 g4 g5
      have hstep : wpOpIn S.F 0 S.P ops Q j (fun a' w' => Sim S (stepI rs j (runD (stepI rs) (fun i => listed.getD i false) ops.size s.sig)) a' w') a w := by
        have := stepE_ok (Q := Q) hK ho h l2 hst l3 (fun k hk => g2 r k hr hk)
        simp only [stepI, hr]
        exact this
      have eset : ∀ i, (listed.setIfInBounds j true).getD i false = if i = j then true else listed.getD i false := by
        intro i
        simp only [Array.getD_eq_getD_getElem?, Array.getElem?_setIfInBounds]
        by_cases e : j = i
        · subst e; simp [hsz, hjl]
        · rw [if_neg e, if_neg (fun h => e h.symm)]
      refine wpOpIn_mono (fun a' w' h' => ih (listed.setIfInBounds j true) a' w' (by simpa using hsz) ?_ ?_ ?_ ?_ ?_) hstep
      · have := unl_step hsz hjl hjun
        omega
      · intro i hi hil
        rw [eset]; split
        · rfl
        · exact hk i hi hil
      · intro hqs
        rw [eset, if_neg (fun e => hjq e.symm)]; exact hql hqs
      · intro i p hip hp2 hb hlp
        rw [eset] at hlp ⊢
        split
        · rfl
        · split at hlp
          · rename_i e1; subst e1; exact hp i hip hb
          · exact hdc i p hip hp2 hb hlp
      · rw [show (fun i => (listed.setIfInBounds j true).getD i false) = fun i => if i = j then true else listed.getD i false from funext eset, g3]; exact h'

end

end Go.Eng
