/- PeH19, PeH20 -/
import Derived.Test.YtlobbofhlcjlmaaGreatDoorH18
import Derived.ChangeSame
import Derived.Carry
import Derived.Deep.Slices
import Derived.ChangeArms
import Derived.OpenShut
set_option linter.unusedSimpArgs false
set_option linter.unusedVariables false
/- The engine, part 19: out of a contract, what a row asks behind the call. -/
namespace Go.Eng
open Go.RowKit Go.ChangeShapes
theorem aDl {H:Type} {enc:TypeId×Value→H} {P:Program} {f:Func} {s:ChangeSpec} {apart fresh handsOn again:Bool} {W W':World} {args:Array Value} {v:Value} {ds gs:List (DataW H)} {before pa pv:List MemPlace}
  (hW:DataW.Whole enc P f.params.toList s.vars apart W args.toList ds gs before) (hb:Below W.heap.size W W')
  (hres:∀ (b:Nat) (sp:Nat→Bool) (hd:Bool),DataW.TrodAll enc P W' b sp hd f.resultTypes.toList (v.resultList f.resultTypes.size) (s.fn H (ds ++ gs)).results [])
  (hargs:∀ sp:Nat→Bool,(∀ p ∈ before,sp p.block=true)→DataW.TrodAll enc P W' 0 sp true f.params.toList args.toList (s.fn H (ds ++ gs)).args pa)
  (hvars:∀ sp:Nat→Bool,(∀ p ∈ before,sp p.block=true)→DataW.TrodVars enc P W' sp s.vars (s.fn H (ds ++ gs)).vars pv)
  (hps:before=pa ++ pv)
  (hok:∀ (j:Nat) (t:TypeId) (r:Value),f.resultTypes[j]?=some t→(v.resultList f.resultTypes.size)[j]?=some r→Value.okWide P W' .any 0 t r) :
  s.post enc P f apart fresh handsOn again W args v W':=by
 have hlt:∀ p ∈ before,p.block < W.heap.size:=fun p hp=>hW.lt p hp
 have hold:∀ p ∈ before,(fun b=>decide (b < W.heap.size)) p.block=true:=fun p hp=>by simpa using hlt p hp
 refine ⟨ds,gs,before,[],pa,pv,hW,hres _ _ _,hargs _ hold,hvars _ hold,hb.frame _,fun _=>?_⟩
 obtain ⟨_,_,_,_,_,hz,hn⟩:=hW
 refine ⟨hok,_,_,([] ++ pa) ++ pv,⟨[] ++ pa,pv,trodAll_append (hargs _ (fun _ _=>rfl)) (hres _ _ _),hvars _ (fun _ _=>rfl),rfl,?_,?_⟩,?_⟩
 ·intro b off hp
  have hp':MemPlace.cell b off ∈ before:=by rw [hps];simpa using hp
  rw [hb.frozen (hlt _ hp')]
  exact hz b off hp'
 ·intro ha
  have:=hn ha
  rw [hps] at this
  simpa using this
 ·intro p hp _
  rw [hps]
  simpa using hp
end Go.Eng

/- The engine, part 20: given arguments, as they are read, are data; a contract over data is a row's. -/
namespace Go.Eng
open Go.RowKit Go.ChangeShapes
def okT : (t : Ty) → t.den → Prop
  | .int k, x => inR k x
  | .bool, _ => True
  | .str, s => s.size ≤ 9223372036854775807
  | .sl e, xs => List.length xs ≤ 9223372036854775807 ∧ ∀ x ∈ (xs : List e.den), okT e x
  | .pair a b, x => okT a x.1 ∧ okT b x.2
def oU : (t : Ty) → t.den → Nat
  | .int _, _ => 1
  | .bool, _ => 1
  | .str, s => s.size + 1
  | .sl e, xs => ((xs : List e.den).map fun x => oU e x).sum + 1
  | .pair a b, x => oU a x.1 + oU b x.2
mutual
def zL {H : Type} : DataW H → Nat
  | .lit (.string bytes) => bytes.length + 1
  | .slice elems _ => qW elems + 1
  | .agg parts => qW parts + 1
  | _ => 1
def qW {H : Type} : List (DataW H) → Nat
  | [] => 0
  | d :: r => zL d + qW r
end
theorem aEM {H : Type} (d : DataW H) : 1 ≤ zL d := by
  cases d with
  | lit l => cases l <;> simp [zL]
  | _ => simp [zL]
def aIh : (a c : Ty) → a.den → c.den → (rP a c).den
  | .pair _ b, c, x, y => (x.1, aIh b c x.2 y)
  | .int _, _, x, y => (x, y)
  | .bool, _, x, y => (x, y)
  | .str, _, x, y => (x, y)
  | .sl _, _, x, y => (x, y)
theorem aEy : ∀ (a c : Ty), (rP a c).sz = a.sz + c.sz
  | .pair a b, c => by simp only [rP, Ty.sz, aEy b c]; omega
  | .int _, _ | .bool, _ | .str, _ | .sl _, _ => by simp [rP, Ty.sz]
theorem aEx {w : World} {D : Nat → Prop} : ∀ {a c : Ty} {x : a.den} {y : c.den} {us vs : List Value}, aF w D a x us → aF w D c y vs → aF w D (rP a c) (aIh a c x y) (us ++ vs)
  | .pair a b, c, x, y, us, vs, h1, h2 => by
    obtain ⟨u1, u2, e, g1, g2⟩ := h1
    subst e
    exact ⟨u1, u2 ++ vs, by simp, g1, aEx g2 h2⟩
  | .int _, _, _, _, us, vs, h1, h2 => ⟨us, vs, rfl, h1, h2⟩
  | .bool, _, _, _, us, vs, h1, h2 => ⟨us, vs, rfl, h1, h2⟩
  | .str, _, _, _, us, vs, h1, h2 => ⟨us, vs, rfl, h1, h2⟩
  | .sl _, _, _, _, us, vs, h1, h2 => ⟨us, vs, rfl, h1, h2⟩
theorem aHc : ∀ {a c : Ty} {x : a.den} {y : c.den}, okT a x → okT c y → okT (rP a c) (aIh a c x y)
  | .pair _ _, _, _, _, h1, h2 => ⟨h1.1, aHc h1.2 h2⟩
  | .int _, _, _, _, h1, h2 => ⟨h1, h2⟩
  | .bool, _, _, _, h1, h2 => ⟨h1, h2⟩
  | .str, _, _, _, h1, h2 => ⟨h1, h2⟩
  | .sl _, _, _, _, h1, h2 => ⟨h1, h2⟩
theorem aCA : ∀ {a c : Ty} {x : a.den} {y : c.den}, oU (rP a c) (aIh a c x y) = oU a x + oU c y
  | .pair a b, c, x, y => by
    show oU a x.1 + oU (rP b c) (aIh b c x.2 y) = oU a x.1 + oU b x.2 + oU c y
    rw [aCA]; omega
  | .int _, _, _, _ => rfl
  | .bool, _, _, _ => rfl
  | .str, _, _, _ => rfl
  | .sl _, _, _, _ => rfl
def fieldsB (P : Program) (T : TypeId → Option Ty) : Nat → List Field → Option Ty
  | _, [] => none
  | off, f :: r => if f.offset = off then match T f.type with
    | some a => if P.cellsOf f.type = a.sz then match r with
      | [] => some a
      | g :: r' => match fieldsB P T (off + a.sz) (g :: r') with
        | some c => some (rP a c)
        | none => none
      else none
    | none => none
    else none
def tyB (P : Program) : Nat → TypeId → Option Ty
  | 0, _ => none
  | n + 1, t => match P.underlying t with
    | some (.int k) => some (.int k)
    | some .bool => some .bool
    | some .string => some .str
    | some (.slice e) => match tyB P n e with
      | some ty => if P.cellsOf e = ty.sz then some (.sl ty) else none
      | none => none
    | some (.struct fs) => match fieldsB P (tyB P n) 0 fs.toList with
      | some ty => if P.cellsOf t = ty.sz then some ty else none
      | none => none
    | _ => none
abbrev aKw (w : World) : Nat → Prop := fun b => b < w.heap.size
theorem aTs {k : IntKind} {n : Int} (h : (Lit.int k n).wf = true) : inR k n := by
  simp only [Lit.wf, Bool.and_eq_true, decide_eq_true_eq] at h
  cases k <;> simpa [IntKind.min, IntKind.max, IntKind.signed, IntKind.bits, inR] using h
section
variable {H : Type} {enc : TypeId × Value → H} {P : Program} {w : World}
def Opened (w : World) (ty : Ty) (cs : List Value) (n : Nat) : Prop := ∃ d : ty.den, aF w (aKw w) ty d cs ∧ okT ty d ∧ oU ty d ≤ n
theorem aBi {T : TypeId → Option Ty} {n : Nat} {cs : List Value}
    (hT : ∀ t ty, T t = some ty → ∀ cs x, DataW.trod enc P w 0 (fun _ => true) true n t cs = some x → Opened w ty cs (zL x.1)) :
    ∀ (fs : List Field) (off : Nat) (ty : Ty) (xs : List (DataW H × List MemPlace)), fieldsB P T off fs = some ty → xs.length = fs.length →
      (∀ (i : Nat) (f : Field), fs[i]? = some f → DataW.trod enc P w 0 (fun _ => true) true n f.type ((cs.drop f.offset).take (P.cellsOf f.type)) = xs[i]?) →
      cs.length = off + ty.sz → Opened w ty (cs.drop off) (qW (xs.map (·.1)))
  | [], _, _, _, h, _, _, _ => by simp [fieldsB] at h
  | f :: r, off, ty, xs, h, hl, hf, hc => by
    rw [fieldsB.eq_2] at h
    split at h
    case isFalse => cases h
    rename_i hoff
    split at h
    case h_2 => cases h
    rename_i a ha
    split at h
    case isFalse => cases h
    rename_i hsz
    match xs, hl with
    | y :: ys, hl =>
      have h0 := hf 0 f rfl
      simp only [List.getElem?_cons_zero] at h0
      rw [hoff, hsz] at h0
      obtain ⟨d, d1, d2, d3⟩ := hT _ _ ha _ _ h0
      split at h
      · cases h
        refine ⟨d, ?_, d2, ?_⟩
        · rw [List.take_of_length_le (by rw [List.length_drop]; omega)] at d1
          exact d1
        · simp only [List.map_cons, qW]; omega
      · rename_i g r' _
        split at h
        case h_2 => cases h
        rename_i c hc'
        cases h
        rw [aEy] at hc
        obtain ⟨e, e1, e2, e3⟩ := aBi hT (g :: r') (off + a.sz) c ys hc' (by simpa using hl) (fun i f' hi => by simpa using hf (i + 1) f' (by simpa using hi)) (by omega)
        refine ⟨aIh a c d e, ?_, aHc d2 e2, ?_⟩
        · have := aEx d1 e1
          rwa [← List.drop_drop, List.take_append_drop] at this
        · rw [aCA]; simp only [List.map_cons, qW]; omega
theorem aFx {e : Ty} (f : Nat → e.den) (D : Nat → DataW H) : ∀ l : List Nat, (∀ i ∈ l, oU e (f i) ≤ zL (D i)) → ((l.map f).map fun x => oU e x).sum ≤ qW (l.map D)
  | [], _ => by simp [qW]
  | i :: l, h => by
    have h0 := h i (by simp)
    have h1 := aFx f D l (fun j hj => h j (by simp [hj]))
    simp only [List.map_cons, List.sum_cons, qW]
    omega
theorem aBj : ∀ (n : Nat) {t : TypeId} {ty : Ty}, tyB P n t = some ty → ∀ (fuel : Nat) (cs : List Value) (x : DataW H × List MemPlace),
    DataW.trod enc P w 0 (fun _ => true) true fuel t cs = some x → Opened w ty cs (zL x.1)
  | 0, _, _, h, _, _, _, _ => by simp [tyB] at h
  | n + 1, t, ty, h, fuel, cs, x, hx => by
    simp only [tyB] at h
    split at h
    · rename_i k hu
      cases h
      obtain ⟨m, rfl, rfl, hw⟩ := DataW.trod_int hu hx
      exact ⟨m, rfl, aTs hw, aEM _⟩
    · rename_i hu
      cases h
      obtain ⟨b, rfl, rfl⟩ := DataW.trod_bool hu hx
      exact ⟨b, rfl, trivial, aEM _⟩
    · rename_i hu
      cases h
      obtain ⟨s, rfl, rfl, hs⟩ := DataW.trod_string hu hx
      refine ⟨s, rfl, by simpa [okT, maxLen] using hs, ?_⟩
      simp only [oU, zL]
      have : s.data.toList.length = s.size := by rw [Array.length_toList]; rfl
      omega
    · rename_i e hu
      split at h
      case h_2 => cases h
      rename_i ety he
      split at h
      case isFalse => cases h
      rename_i hsz
      cases h
      rcases Deep.open_slice hu hx with ⟨rfl, rfl⟩ | ⟨a, len, cap, m, n', Dd, Pl, rfl, hb, hl, hm, hmm, rfl, hel⟩
      · exact ⟨[], bU _ _ _, ⟨Nat.zero_le _, fun x hx => by cases hx⟩, by simp [oU, zL]⟩
      · have hlm : len ≤ m := by rw [hmm]; simpa using hl
        haveI : Inhabited ety.den := ⟨ety.dflt⟩
        obtain ⟨f, hf⟩ := Deep.choose_lt (α := ety.den) (n := len) (p := fun i d => ∃ cs', w.cells? 0 (a.add (i * ety.sz)) ety.sz = some cs' ∧ aF w (aKw w) ety d cs' ∧ okT ety d ∧ oU ety d ≤ zL (Dd i)) (fun i hi => by
          obtain ⟨cs', h1, h2⟩ := hel i (by omega)
          rw [hsz] at h1
          obtain ⟨d, d1, d2, d3⟩ := aBj n he _ _ _ h2
          exact ⟨d, cs', h1, d1, d2, d3⟩)
        have hp := Ty.sz_pos ety
        have spot : 0 < len → a.spot = none ∧ a.block < w.heap.size := fun h0 => by
          obtain ⟨cs', h1, d1, _⟩ := hf 0 h0
          obtain ⟨_, hcl, hcc⟩ := World.cells?_some h1
          have := hcc 0 hp
          have hlt : 0 < cs'.length := by omega
          rw [List.getElem?_eq_getElem hlt] at this
          simp only [Nat.zero_mul] at this
          have e0 : (a.add 0).add 0 = a := by simp [Addr.add]
          rw [e0] at this
          unfold World.cell? at this
          split at this
          · rename_i c t' fr hc
            refine ⟨?_, (Array.getElem?_eq_some_iff.1 hc).1⟩
            split at this
            · cases this
            · rename_i hs
              cases hsp : a.spot with
              | none => rfl
              | some _ => rw [hsp] at hs; simp at hs
          · cases this
        have hlen : List.length ((List.range len).map f) = len := by simp
        refine ⟨(List.range len).map f, ⟨some a, cap, by rw [hlen], by rw [hlen]; exact hl, (fun h => by cases h), fun a' ha' hpos => ?_, fun i y hy => ?_⟩, ⟨?_, fun y hy => ?_⟩, ?_⟩
        · cases ha'
          rw [hlen] at hpos
          exact (spot hpos).1
        · have hi : i < len := by
            have := (List.getElem?_eq_some_iff.1 hy).1
            rwa [hlen] at this
          have ey : y = f i := by
            rw [List.getElem?_map, List.getElem?_range hi] at hy
            exact (Option.some.inj hy).symm
          subst ey
          obtain ⟨cs', h1, d1, _⟩ := hf i hi
          obtain ⟨hsp, hbk⟩ := spot (by omega)
          refine ⟨a, cs', rfl, hbk, fun j u hj => ?_, d1⟩
          obtain ⟨_, hcl, hcc⟩ := World.cells?_some h1
          have hjl := (List.getElem?_eq_some_iff.1 hj).1
          have := hcc j (by omega)
          rw [hj, Deep.add_add] at this
          have e1 : a.add (i * ety.sz + j) = ⟨a.block, a.off + i * ety.sz + j, none⟩ := by
            cases a with | mk b o s => simp only at hsp; subst hsp; rw [Addr.add_mid, Nat.add_assoc]
          rw [e1] at this
          exact this
        · rw [hlen]; unfold maxLen at hm; omega
        · obtain ⟨i, hi, rfl⟩ := List.mem_map.1 hy
          obtain ⟨_, _, _, h2, _⟩ := hf i (List.mem_range.1 hi)
          exact h2
        · have := aFx f Dd (List.range len) (fun i hi => by
            obtain ⟨_, _, _, _, h3⟩ := hf i (List.mem_range.1 hi)
            exact h3)
          simp only [oU, zL]
          omega
    · rename_i fs hu
      split at h
      case h_2 => cases h
      rename_i ty' hfs
      split at h
      case isFalse => cases h
      rename_i hsz
      cases h
      obtain ⟨xs, m, _, rfl, hcl, hxl, hf⟩ := DataW.trod_struct hu hx
      obtain ⟨d, d1, d2, d3⟩ := aBi (cs := cs) (n := m) (T := tyB P n) (fun t' ty' ht' cs' x' hx' => aBj n ht' _ _ _ hx') fs.toList 0 ty xs hfs (by simpa using hxl)
        (fun i f' hi => hf i f' (by simpa using hi)) (by omega)
      refine ⟨d, by simpa using d1, d2, ?_⟩
      simp only [zL]; omega
    · cases h
abbrev TT := Bool × Ty
def aPp : List TT → Type
  | [] => PUnit
  | p :: r => p.2.den × aPp r
def aTI (p : TT) (x : p.2.den) : AV := match p.1 with
  | true => .agg (cellsOf p.2 x)
  | false => .dat p.2 x
def avs : (l : List TT) → aPp l → List AV
  | [], _ => []
  | p :: r, x => aTI p x.1 :: avs r x.2
def okL : (l : List TT) → aPp l → Prop
  | [], _ => True
  | p :: r, x => okT p.2 x.1 ∧ okL r x.2
def aOp : (l : List TT) → aPp l → Nat
  | [], _ => 0
  | p :: r, x => oU p.2 x.1 + aOp r x.2
def ttB (P : Program) (t : TypeId) (p : TT) : Bool := decide (tyB P 12 t = some p.2) && (match P.underlying t with
  | some (.struct _) => p.1
  | some (.int _) | some .bool | some .string | some (.slice _) => !p.1
  | _ => false)
def aLP (P : Program) : List TypeId → List TT → Bool
  | [], [] => true
  | t :: ts, p :: ps => ttB P t p && aLP P ts ps
  | _, _ => false
theorem open_arg {t : TypeId} {p : TT} {base : Nat} {v : Value} {d : DataW H} {ps : List MemPlace} (ht : ttB P t p = true) (hv : Value.okWide P w .any base t v)
    (h : DataW.Trod enc P w 0 (fun _ => true) true t v d ps) : ∃ x : p.2.den, (aTI p x).rel P ⟨w, aKw w, noM, noE⟩ v ∧ okT p.2 x ∧ oU p.2 x ≤ zL d := by
  unfold ttB at ht
  simp only [Bool.and_eq_true, decide_eq_true_eq] at ht
  obtain ⟨hty, hk⟩ := ht
  obtain ⟨fuel, hf⟩ := h
  obtain ⟨x, x1, x2, x3⟩ := aBj 12 hty _ _ _ hf
  refine ⟨x, ?_, x2, x3⟩
  have plain : (∀ cs, v ≠ .agg cs) → p.1 = false → (aTI p x).rel P ⟨w, aKw w, noM, noE⟩ v := fun hn h0 => by
    have e : v.cells.toList = [v] := by cases v <;> first | rfl | exact (hn _ rfl).elim
    rw [e] at x1
    unfold aTI; rw [h0]; exact x1
  split at hk
  · rename_i fs hu
    have : ∃ cs, v = .agg cs := by
      unfold Value.okWide at hv
      rw [hu] at hv
      obtain ⟨cs, e, _⟩ := hv
      exact ⟨cs, e⟩
    obtain ⟨cs, rfl⟩ := this
    unfold aTI; rw [hk]
    refine ⟨cs.toList, rfl, fM (C := ⟨w, aKw w, noM, noE⟩) ?_⟩
    exact x1
  all_goals first
    | cases hk
    | (rename_i hu
       refine plain (fun cs e => ?_) (by simpa using hk)
       subst e
       simp [Value.okWide, hu, Cell.okWide, Cell.ok] at hv)
theorem aEJ : ∀ {ts : List TypeId} {l : List TT} {vs : List Value} {ds : List (DataW H)} {ps : List MemPlace} {base : Nat}, aLP P ts l = true →
    (∀ (j : Nat) t v, ts[j]? = some t → vs[j]? = some v → Value.okWide P w .any base t v) → DataW.TrodAll enc P w 0 (fun _ => true) true ts vs ds ps →
    ∃ x : aPp l, AV.relL P ⟨w, aKw w, noM, noE⟩ (avs l x) vs ∧ okL l x ∧ aOp l x ≤ qW ds
  | [], [], vs, ds, ps, base, _, _, h => by
    obtain ⟨rfl, rfl, rfl⟩ := trodAll_nil h
    exact ⟨PUnit.unit, rfl, trivial, Nat.zero_le _⟩
  | t :: ts, p :: l, vs, ds, ps, base, ht, hv, h => by
    obtain ⟨v, vs', d, ds', p1, q, rfl, rfl, rfl, h1, h2⟩ := trodAll_cons h
    simp only [aLP, Bool.and_eq_true] at ht
    obtain ⟨x, x1, x2, x3⟩ := open_arg ht.1 (hv 0 t v rfl rfl) h1
    obtain ⟨y, y1, y2, y3⟩ := aEJ ht.2 (fun j t' v' hj hj' => hv (j + 1) t' v' (by simpa using hj) (by simpa using hj')) h2
    exact ⟨(x, y), ⟨v, vs', rfl, x1, y1⟩, ⟨x2, y2⟩, by simp only [aOp, qW]; omega⟩
  | [], _ :: _, _, _, _, _, ht, _, _ => by simp [aLP] at ht
  | _ :: _, [], _, _, _, _, ht, _, _ => by simp [aLP] at ht
theorem aE4 {W W' : World} (hl : laidOutB P = true) (hb : Below W.heap.size W W') : ∀ {ts : List TypeId} {vs : List Value} {ds : List (DataW H)} {ps : List MemPlace},
    (ts.all fun t => P.readableRec t && decide (t < P.types.size)) = true → DataW.TrodAll enc P W 0 (fun _ => true) true ts vs ds ps → (∀ x ∈ ps, x.block < W.heap.size) →
    ∀ sp : Nat → Bool, (∀ x ∈ ps, sp x.block = true) → DataW.TrodAll enc P W' 0 sp true ts vs ds ps
  | [], vs, ds, ps, _, h, _, sp, _ => by
    obtain ⟨rfl, rfl, rfl⟩ := trodAll_nil h
    exact trodAll_mk0
  | t :: ts, vs, ds, ps, ht, h, hlt, sp, hsp => by
    obtain ⟨v, vs', d, ds', p1, q, rfl, rfl, rfl, h1, h2⟩ := trodAll_cons h
    simp only [List.all_cons, Bool.and_eq_true, decide_eq_true_eq] at ht
    have g1 := WideElems.Trod_stays (enc := enc) (sp' := sp) hl ht.1.1 ht.1.2 h1 (fun x hx => hb.same (hlt x (List.mem_append.2 (.inl hx)))) (fun x hx => hsp x (List.mem_append.2 (.inl hx)))
    exact ⟨p1, q, g1, aE4 hl hb (by simpa using ht.2) h2 (fun x hx => hlt x (List.mem_append.2 (.inr hx))) sp (fun x hx => hsp x (List.mem_append.2 (.inr hx))), rfl⟩
theorem law_contractG {G : List (Nat × AV)} {f : FuncId} {fn : Func} {s : ChangeSpec} {apart fresh handsOn again : Bool} {l : List TT} {X : aPp l → Prop} {rt : TypeId} (hf : ∀ x : aPp l, X x → aC P G f (avs l x) [] ⟨True, .dat .bool true, []⟩)
    (htt : aLP P fn.params.toList l = true) (hl : laidOutB P = true) (hrd : (fn.params.toList.all fun t => P.readableRec t && decide (t < P.types.size)) = true)
    (hrt : fn.resultTypes = #[rt]) (hbool : P.underlying rt = some .bool) (hvars : s.vars = [])
    {W : World} {base : Nat} {args : Array Value} {ds gs : List (DataW H)} {before : List MemPlace}
    (hspec : ds.length = l.length → s.fn H ds = { results := [.lit (.bool true)], args := ds })
    (hval : ∀ (j : Nat) t v, fn.params[j]? = some t → args[j]? = some v → Value.okWide P W .any base t v)
    (hW : DataW.Whole enc P fn.params.toList s.vars apart W args.toList ds gs before)
    (hX : ∀ x : aPp l, okL l x → aOp l x ≤ qW ds → X x) (hG : rU P ⟨W, aKw W, noM, noE⟩ G) :
    Calls P f args W fun e W' => ∃ v, e = .returned v ∧ s.post enc P fn apart fresh handsOn again W args v W' := by
  obtain ⟨p, q, hA, hV, hbef, hfz, hnd⟩ := id hW
  rw [hvars] at hV
  obtain ⟨rfl, rfl⟩ := trodVars_none hV
  rw [List.append_nil] at hbef
  subst hbef
  have hlt : ∀ x ∈ before, x.block < W.heap.size := fun x hx => hW.lt x hx
  obtain ⟨x, x1, x2, x3⟩ := aEJ (l := l) htt (fun j t v h1 h2 => hval j t v (by simpa using h1) (by simpa using h2)) hA
  have hsl : ∀ {ts : List TypeId} {l : List TT} {vs : List Value} {ds : List (DataW H)} {p : List MemPlace}, aLP P ts l = true → DataW.TrodAll enc P W 0 (fun _ => true) true ts vs ds p → ds.length = l.length := by
    intro ts
    induction ts with
    | nil =>
      intro l vs ds p ht h
      obtain ⟨rfl, rfl, rfl⟩ := trodAll_nil h
      cases l with
      | nil => rfl
      | cons _ _ => simp [aLP] at ht
    | cons t ts ih =>
      intro l vs ds p ht h
      obtain ⟨v, vs', d, ds', p1, q, rfl, rfl, rfl, h1, h2⟩ := trodAll_cons h
      cases l with
      | nil => simp [aLP] at ht
      | cons _ l =>
        simp only [aLP, Bool.and_eq_true] at ht
        simp [ih ht.2 h2]
  have hfn := hspec (hsl htt hA)
  have hcall := (hf x (hX x x2 x3)).data trivial (w := W) (D := aKw W) (us := args.toList) (fun b hb => hb) hG x1
  refine hcall.mono fun e W' he => ?_
  obtain ⟨v, rfl, hb, hv⟩ := he
  have hv : v = .bool true := by simpa [AV.rel, aF] using hv
  subst hv
  refine ⟨_, rfl, aDl (pa := before) (pv := []) hW hb (fun b sp hd => ?_) (fun sp hsp => ?_) (fun sp _ => ?_) (by simp) (ok_one hrt rfl (okWide_bool_mk hbool _))⟩
  · rw [List.append_nil, hfn, hrt]
    exact trodAll_mk1 (shut_bool hbool true)
  · rw [List.append_nil, hfn]
    exact aE4 hl hb hrd hA hlt sp hsp
  · rw [hvars, List.append_nil, hfn]
    exact rfl
theorem laid_strs {n : String} {g : Nat} {ta te m : Nat} {w : World} {xs : List ByteArray} (hg : P.globalNamed n = some g) (ht : (P.globals[g]?).map (·.type) = some ta) (ha : P.underlying ta = some (.array m te))
    (he : P.underlying te = some .string) (hc : P.cellsOf te = 1) (hsz : m ≤ 9223372036854775807) (hne : 0 < m) {r : List (String × DataW Unit)} {ps : List MemPlace}
    (h : DataW.LaidVars P w ((n, .agg (xs.map fun s => .lit (.string s.data.toList))) :: r) ps) : rU P ⟨w, aKw w, noM, noE⟩ [(g, .ia .str xs)] ∧ ∃ ps', DataW.LaidVars P w r ps' := by
  obtain ⟨g', t', cs, fuel, p, q', hg', ht', hv, hd, hr, _⟩ := h
  obtain rfl := Option.some.inj (hg.symm.trans hg')
  obtain rfl := Option.some.inj (ht.symm.trans ht')
  refine ⟨fun z hz => ?_, q', hr⟩
  obtain rfl := List.mem_singleton.1 hz
  obtain ⟨ys, f, rfl, hx, hlen, hm, hel⟩ := DataW.trod_array ha hd
  simp only [Prod.mk.injEq, DataW.agg.injEq] at hx
  have hxl : xs.length = m := by
    have := congrArg List.length hx.1
    simpa [hm] using this
  have cell : ∀ i (hi : i < m), ∃ y, xs[i]? = some y ∧ w.cell? ⟨g, i, none⟩ = some (.string y) := by
    intro i hi
    have h1 := hel i hi
    rw [hc, Nat.mul_one, List.getElem?_eq_getElem (by omega)] at h1
    obtain ⟨s, e1, e2, _⟩ := DataW.trod_string he h1
    have h2 : cs[i]? = some (.string s) := by
      have := congrArg (·[0]?) e1
      simpa [List.getElem?_take, List.getElem?_drop] using this
    refine ⟨s, ?_, by rw [World.var?_cell hg hv]; exact h2⟩
    have h3 := congrArg (·[i]?) hx.1
    simp only [List.getElem?_map, List.getElem?_eq_getElem (show i < ys.length by omega), List.getElem?_eq_getElem (show i < xs.length by omega), Option.map_some, Option.some.injEq] at h3
    rw [e2] at h3
    simp only [DataW.lit.injEq, Lit.string.injEq] at h3
    rw [List.getElem?_eq_getElem (by omega)]
    have : xs[i].data = s.data := Array.toList_inj.1 h3
    cases hx' : xs[i] with | mk d => cases s with | mk d' => rw [hx'] at this; exact congrArg some (congrArg ByteArray.mk this)
  have hblk : aKw w g := by
    obtain ⟨y, _, h2⟩ := cell 0 hne
    show g < w.heap.size
    unfold World.cell? at h2
    split at h2
    · rename_i c t' fr hcc; exact (Array.getElem?_eq_some_iff.1 hcc).1
    · cases h2
  refine ⟨rfl, g, 0, rfl, some ⟨g, 0, none⟩, xs.length, by rfl, Nat.le_refl _, (fun h => by cases h), fun a' ha' _ => by cases ha'; rfl, fun i y hy => ?_⟩
  have hi := (List.getElem?_eq_some_iff.1 hy).1
  obtain ⟨y', e1, e2⟩ := cell i (by omega)
  obtain rfl := Option.some.inj (hy.symm.trans e1)
  refine ⟨⟨g, 0, none⟩, [.string y], rfl, hblk, fun j u hj => ?_, rfl⟩
  have : j = 0 := by
    have := (List.getElem?_eq_some_iff.1 hj).1
    simp at this; omega
  subst this
  obtain rfl : Value.string y = u := by simpa using hj
  simpa [Ty.sz] using e2
end
end Go.Eng
