/- The engine, part 8c: struct literals. -/
import Derived.Test.YtlobbofhlcjlmaaZ8b
set_option linter.unusedSimpArgs false
set_option linter.unusedVariables false
namespace Go.Eng
open Go.RowKit

/-- Where a part lies. -/
def placeE (P : Program) (t : TypeId) (i : Nat) : Option (Nat × Nat) := match P.underlying t with
  | some (.struct fs) => match fs[i]? with
    | some f => match sizeT P f.type with
      | some n => some (f.offset, n)
      | none => none
    | none => none
  | some (.array _ e) => match sizeT P e with
    | some n => some (i * n, n)
    | none => none
  | _ => none

def sizesOk (P : Program) (t : TypeId) : Bool := match P.underlying t with
  | some (.struct fs) => fs.toList.all fun f => (sizeT P f.type).isSome
  | some (.array _ e) => (sizeT P e).isSome
  | _ => false

def fillE (place : Nat → Option (Nat × Nat)) : List Nat → List RV → List AV → Option (List Prop × List AV)
  | [], [], cs => some ([], cs)
  | i :: is, v :: vs, cs => match place i, onesE v with
    | some (off, size), some ns => if (cellsV v.1).length = size ∧ off + size ≤ cs.length then
        match fillE place is vs (cs.take off ++ cellsV v.1 ++ cs.drop (off + size)) with
        | some (ms, r) => some (ns ++ ms, r)
        | none => none
      else none
    | _, _ => none
  | _, _, _ => none

/-- A struct literal. -/
def buildE (P : Program) (t : TypeId) (idxs : List Nat) (vs : List RV) : Option Core :=
  match (P.info? t).bind (·.zero) with
  | some z => if sizesOk P t then match fillE (placeE P t) idxs vs (z.cells.toList.map ofVal) with
    | some (ns, cs) => some { need := ns, val := .agg cs }
    | none => none
    else none
  | none => none

theorem run_sizes {P : Program} {w : World} : ∀ {l : List Field}, (l.all fun f => (sizeT P f.type).isSome) = true →
    ((l.mapM fun f => do pure (f.offset, ← sizeOf f.type)) : Sem (List (Nat × Nat))).run P w = .ok (l.map fun f => (f.offset, (sizeT P f.type).getD 0)) w
  | [], _ => by simp
  | f :: l, h => by
    simp only [List.all_cons, Bool.and_eq_true] at h
    obtain ⟨n, hn⟩ := Option.isSome_iff_exists.1 h.1
    have ih := run_sizes (w := w) h.2
    rw [List.mapM_cons]
    simp only [Sem.run_bind, run_sizeT hn, Result.andThen_ok, Sem.run_pure, ih, hn, Option.getD_some, List.map_cons]

theorem fillE_ok {S : Base} {σ : Sig} {w : World} {D : Nat → Prop} {E : Nat → Ent} {place : Nat → Option (Nat × Nat)} : ∀ {is : List Nat} {vs : List RV} {cs r : List AV} {ns : List Prop} {us : List Value} {A : Array Value},
    fillE place is vs cs = some (ns, r) → (∀ q ∈ ns, q) → (∀ v ∈ vs, v.2 = lookB σ.m v.1) → AV.relL S.P ⟨w, D, σ.m, E⟩ cs A.toList → AV.relL S.P ⟨w, D, σ.m, E⟩ (vs.map (·.1)) us →
    ∃ B, Instr.fill place A (is.zip us) = some B ∧ AV.relL S.P ⟨w, D, σ.m, E⟩ r B.toList
  | [], [], cs, r, ns, us, A, h, _, _, hA, hu => by
    simp only [fillE] at h
    cases h
    exact ⟨A, rfl, hA⟩
  | i :: is, v :: vs, cs, r, ns, us, A, h, hn, hv, hA, hu => by
    simp only [fillE] at h
    split at h
    case h_2 => cases h
    rename_i off size n1 hp h1
    split at h
    case isFalse => cases h
    rename_i hsz
    split at h
    case h_2 => cases h
    rename_i ms r' hr
    cases h
    obtain ⟨u, us', rfl, g1, g2⟩ := hu
    obtain ⟨zs, z1, z2, _⟩ := onesE_ok (hv v (by simp)) h1 (fun q hq => hn q (List.mem_append.2 (.inl hq))) g1
    have hl := AV.relL_length hA
    have hlz := AV.relL_length z2
    have hoff : off + zs.length ≤ A.size := by rw [← Array.length_toList, ← hl, ← hlz]; omega
    have hset := foldl_set zs A off 0 (by simpa using hoff)
    generalize hA' : (zs.zipIdx 0).foldl (fun a (c, j) => a.setIfInBounds (off + j) c) A = A' at hset
    simp only [Nat.add_zero] at hset
    have hrel : AV.relL S.P ⟨w, D, σ.m, E⟩ (cs.take off ++ cellsV v.1 ++ cs.drop (off + size)) A'.toList := by
      rw [hset, ← hlz, hsz.1]
      exact AV.relL_append (AV.relL_append (AV.relL_take hA off) z2) (AV.relL_drop hA (off + size))
    obtain ⟨B, b1, b2⟩ := fillE_ok hr (fun q hq => hn q (List.mem_append.2 (.inr hq))) (fun q hq => hv q (by simp [hq])) hrel g2
    refine ⟨B, ?_, b2⟩
    simp only [List.zip_cons_cons, Instr.fill, hp, z1]
    have hx : zs.toArray.size = size := by rw [List.size_toArray, ← hlz]; exact hsz.1
    have hx2 : zs.length = size := by simpa using hx
    have hif : ¬ (zs.toArray.size ≠ size ∨ off + zs.toArray.size > A.size) := by rw [hx]; omega
    rw [if_neg (by simpa using hif)]
    have hz : zs.toArray.zipIdx.foldl (fun cs x => cs.setIfInBounds (off + x.2) x.1) A = A' := by
      rw [← hA', ← Array.foldl_toList]
      simp
    rw [hz]; exact b1
  | [], _ :: _, _, _, _, _, _, h, _, _, _, _ => by simp [fillE] at h
  | _ :: _, [], _, _, _, _, _, h, _, _, _, _ => by simp [fillE] at h

theorem buildE_ok {S : Base} {σ : Sig} {w : World} {D : Nat → Prop} {E : Nat → Ent} {t : TypeId} {idxs : List Nat} {vs : List RV} {us : List Value} {c : Core}
    (hc : buildE S.P t idxs vs = some c) (hn : ∀ q ∈ c.need, q) (hv : ∀ v ∈ vs, v.2 = lookB σ.m v.1) (hu : AV.relL S.P ⟨w, D, σ.m, E⟩ (vs.map (·.1)) us) :
    ∃ r, (Instr.build t (idxs.zip us).toArray).run S.P w = .ok r w ∧ c.val.rel S.P ⟨w, D, σ.m, E⟩ r ∧ c.upd = [] ∧ c.new = none := by
  unfold buildE at hc
  split at hc
  case h_2 => cases hc
  rename_i z hz
  split at hc
  case isFalse => cases hc
  rename_i hso
  split at hc
  case h_2 => cases hc
  rename_i ns cs hf
  cases hc
  obtain ⟨i, hi, hiz⟩ := Option.bind_eq_some_iff.1 hz
  have zrun : (zeroValue t).run S.P w = .ok z w := by simp [zeroValue, typeInfo, hi, hiz]
  obtain ⟨B, b1, b2⟩ := fillE_ok (A := z.cells) hf hn hv (relL_ofVal _) hu
  refine ⟨.agg B, ?_, ⟨B.toList, by simp, b2⟩, rfl, rfl⟩
  unfold sizesOk at hso
  split at hso
  · rename_i fs hu
    have hr := run_sizes (w := w) hso
    have hr2 : ((fs.mapM fun f => do pure (f.offset, ← sizeOf f.type)) : Sem (Array (Nat × Nat))).run S.P w = .ok (fs.toList.map fun f => (f.offset, (sizeT S.P f.type).getD 0)).toArray w := by
      rw [Array.mapM_eq_mapM_toList, map_eq_pure_bind]
      simp only [Sem.run_bind, hr, Result.andThen_ok, Sem.run_pure]
    have hpl : (fun x => (fs.toList.map fun f => (f.offset, (sizeT S.P f.type).getD 0)).toArray[x]?) = placeE S.P t := by
      funext j
      unfold placeE
      rw [hu]
      simp only [List.getElem?_toArray, List.getElem?_map, Array.getElem?_toList]
      cases hj : fs[j]? with
      | none => rfl
      | some f =>
        have := List.all_eq_true.1 hso f (by rw [← Array.getElem?_toList] at hj; exact List.mem_of_getElem? hj)
        obtain ⟨n, hn⟩ := Option.isSome_iff_exists.1 this
        simp [hn]
    simp only [Instr.build, Sem.run_bind, zrun, Result.andThen_ok, run_underlying hu, hr2, hpl, b1, Sem.run_pure]
  · rename_i n e hu
    obtain ⟨m, hm⟩ := Option.isSome_iff_exists.1 hso
    have hpl : (fun i => some (i * m, m)) = placeE S.P t := by
      funext j
      unfold placeE
      rw [hu]
      simp only [hm]
    simp only [Instr.build, Sem.run_bind, zrun, Result.andThen_ok, run_underlying hu, run_sizeT hm, hpl, b1, Sem.run_pure]
  · cases hso

/-! ### make of a slice that is data from the first -/

/-- make of a slice, whose elements nobody will write. -/
def makeDatE (P : Program) (t : TypeId) (l c : AV) (same : Bool) : Option Core :=
  match isSliceT P t with
  | some e => match tyAt P e with
    | some ty => match zeroOk P e ty with
      | some bytes => match l, c with
        | .dat (.int _) _, .dat (.int _) c => if same then some { need := [0 ≤ c, (bytes : Int) * c ≤ 281474976710656, c ≤ 9223372036854775807], val := .dat (.sl ty) (D.rep c ty.dflt) } else none
        | _, _ => none
      | none => none
    | none => none
  | none => none

theorem makeDatE_ok {S : Base} {σ : Sig} {a : Act} {w : World} {D : Nat → Prop} {E : Nat → Ent} (h : SimD S σ a w D E) {t : TypeId} {l c : AV} {same : Bool} {co : Core} {vl vc : Value}
    (hsame : same = true → vl = vc) (hc : makeDatE S.P t l c same = some co) (hn : ∀ q ∈ co.need, q) (hl : l.rel S.P ⟨w, D, σ.m, E⟩ vl) (hcr : c.rel S.P ⟨w, D, σ.m, E⟩ vc) :
    ∃ r w', (Instr.makeSlice t vl vc).run S.P w = .ok r w' ∧ Outcome S ⟨σ.T, upM σ.m co.upd, σ.sv⟩ a co.val r w' := by
  unfold makeDatE at hc
  split at hc
  case h_2 => cases hc
  rename_i e he
  split at hc
  case h_2 => cases hc
  rename_i ty hty
  split at hc
  case h_2 => cases hc
  rename_i bytes hz
  obtain ⟨i, z, hi, hz1, hz2, hz3, hz4⟩ := zeroOk_spec hz
  have hue := isSliceT_eq he
  have hzs : z.cells.size = ty.sz := by rw [← Array.length_toList, hz4, zeroCells_length]
  split at hc
  case h_2 => cases hc
  rename_i kl l kc c
  simp only [AV.rel, relCells, List.cons.injEq, and_true] at hl hcr
  subst hl hcr
  obtain ⟨c, rfl⟩ : ∃ j : Int, j = c := ⟨c, rfl⟩
  obtain ⟨l, rfl⟩ : ∃ j : Int, j = l := ⟨l, rfl⟩
  split at hc
  case isFalse => cases hc
  rename_i hsm
  cases hc
  have h0 : (0 : Int) ≤ c := hn _ (.head _)
  have h1 : (bytes : Int) * c ≤ 281474976710656 := hn _ (.tail _ (.head _))
  have h2 : c ≤ 9223372036854775807 := hn _ (.tail _ (.tail _ (.head _)))
  have hlc := hsame hsm
  simp only [Value.int.injEq] at hlc
  obtain ⟨rfl, rfl⟩ := hlc
  obtain ⟨n, rfl⟩ := Int.eq_ofNat_of_zero_le h0
  have hb : i.bytes * n ≤ 281474976710656 := by rw [hz3]; have h3 : ((bytes * n : Nat) : Int) ≤ 281474976710656 := (by rw [Int.natCast_mul]; exact h1); omega
  obtain ⟨w', r1, r2, r3⟩ := run_make_full (P := S.P) w 0 t e i z ty.sz hue hi hz1 hz2 kl kl n hb (by unfold maxLen; omega) (Nat.zero_le _)
  have hrows : (madeCells z.cells (n * ty.sz)).toList = (List.replicate n (zeroCells ty)).flatten := by
    rw [madeCells_rows z.cells ty.sz hzs (Ty.sz_pos ty) n, hz4]
  rw [hrows] at r2
  have hbw : Below w.heap.size w w' := ⟨r3.os, r3.tape, r3.output, r3.size, fun k hk => r3.block k hk (by simp)⟩
  have hlt : w.heap.size < w'.heap.size := by
    rcases r2.2 with ⟨hv, _⟩ | ⟨g, cap, cur, hv, _, hh, _⟩
    · cases hv
    · simp only [Value.slice.injEq, Option.some.injEq, Addr.mk.injEq, and_true, true_and] at hv
      rw [hv.1]; exact (Array.getElem?_eq_some_iff.1 hh).1
  refine ⟨_, w', r1, fun b => D b ∨ b = w.heap.size, E, h.world hbw (fun b => ⟨fun g => ?_, fun g => ?_⟩) (fun b g => ?_), ?_⟩
  · rcases g with g | g
    · exact .inl g
    · exact .inr ⟨⟨by omega, by omega⟩, .inr g⟩
  · rcases g with g | g
    · exact .inl g
    · exact g.2
  · rcases g with g | g
    · have := h.dlt b g; omega
    · omega
  · have hall : ∀ us ∈ List.replicate n (zeroCells ty), us.length = ty.sz := fun us hus => by rw [(List.mem_replicate.1 hus).2, zeroCells_length]
    have hrl : (List.replicate n ty.dflt).length = n := List.length_replicate
    show relCells _ _ (.sl ty) (List.replicate (n : Int).toNat ty.dflt) _
    rw [Int.toNat_natCast]
    refine ⟨some ⟨w.heap.size, 0, none⟩, n, by rw [hrl], by rw [hrl]; exact Nat.le_refl _, fun g => (by cases g), fun ad g _ => (by cases g; rfl), fun j y hy => ?_⟩
    have hj : j < n := by have := (List.getElem?_eq_some_iff.1 hy).1; rwa [hrl] at this
    have ey : y = ty.dflt := by
      have := (List.getElem?_eq_some_iff.1 hy).2
      simpa using this.symm
    refine ⟨_, zeroCells ty, rfl, .inr rfl, fun q u hq => ?_, by rw [ey]; exact zeroCells_rel _ _ ty⟩
    have hcell := r2.cells rfl
    have hq2 : q < ty.sz := by have := (List.getElem?_eq_some_iff.1 hq).1; rwa [zeroCells_length] at this
    have hseg := flatten_seg ty.sz _ hall j (zeroCells ty) (by rw [List.getElem?_replicate, if_pos hj])
    have hfl : ((List.replicate n (zeroCells ty)).flatten)[j * ty.sz + q]? = some u := by
      rw [← hseg, List.getElem?_take, if_pos hq2, List.getElem?_drop] at hq
      exact hq
    have := hcell (j * ty.sz + q) u hfl
    simp only [Addr.add_mid, Nat.zero_add] at this ⊢
    exact this

end Go.Eng
