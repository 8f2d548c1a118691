/- PeMp4 -/
import Derived.Test.YthdihjmpibfmgaaEng18
import Derived.Test.YthdihjmpibfmgaaMp3
namespace Go.Eng.Mp
open Go.Proofs

noncomputable def starN (m : List (List Int)) : Nat → List (List Int)
  | 0 => buildF (star1 m) m.length
  | k + 1 => buildF (star2 (starN m k) k) m.length
noncomputable def starK (m : List (List Int)) (k : Int) : List (List Int) := starN m k.toNat
noncomputable def starBad (m : List (List Int)) : Bool := (List.range (m.length + 1)).any fun k => cyclicF (starN m k)
noncomputable def starF (m : List (List Int)) : List (List Int) × Int := bif validF m then bif starBad m then ([], 120) else (starN m m.length, 0) else ([], 1)
noncomputable def starS (m : List (List Int)) : List (List Int) := (starF m).1
noncomputable def starE (m : List (List Int)) : Int := (starF m).2
noncomputable def starP (m : List (List Int)) : Prop := m.length ≤ 20
noncomputable def starTo (m : List (List Int)) (k : Int) : Prop := 0 ≤ k ∧ k ≤ m.length ∧ validF m = true ∧ ∀ j : Nat, (j : Int) ≤ k → cyclicF (starN m j) = false
noncomputable def applyF (m : List (List Int)) (v : List Int) : List Int := bif validF m then bif decide ((v.length : Int) = m.length) then bif wrongF v then [] else (List.range m.length).map fun i : Nat => foldI plusF (aterm m i v) (-1099511627776) v.length else [] else []
noncomputable def applyTo (m : List (List Int)) (v : List Int) (k : Int) : List Int := ((List.range m.length).map fun i : Nat => foldI plusF (aterm m i v) (-1099511627776) v.length).take k.toNat ++ List.replicate (m.length - k.toNat) 0

noncomputable def K6 : Kt := fun f args => match f, args with
  | 40, [.dat (.sl (.sl (.int .i64))) a, .dat (.sl (.sl (.int .i64))) b] => some ⟨True, .dat .bool (alikeF a b)⟩
  | 35, [.dat (.sl (.sl (.int .i64))) m] => some ⟨cycP m, .dat .bool (cyclicF m)⟩
  | 32, [.dat (.int .i64) n, .fn 43 [.ip (.sl (.sl (.int .i64))) a, .ip (.sl (.sl (.int .i64))) b]] => some ⟨preBuild n (dotP a b), .dat M (buildF (dotF a b) n)⟩
  | _, _ => K5 f args
noncomputable def c6 : Cfg := ⟨Try.prog, K6, fun _ => false⟩

noncomputable def starA (m : List (List Int)) : Ann := ⟨fun id s => match id with
  | 8 => some { α := Int, inv := fun k => starTo m k, st := fun k => put s [(19, .dat I k), (5, .dat M (starK m k))], μ := fun k => D.nat (D.sub (D.ilen m) k) }
  | _ => none, fun id s => match id with
  | 11 => some (frz [0, 1] s)
  | _ => none, fun _ _ => none⟩
noncomputable def applyA (m : List (List Int)) (v : List Int) : Ann := ⟨fun id s => match id with
  | 5 => some { α := Int, inv := fun k => upto k (D.ilen m), st := fun k => putM (put s [(26, .dat I k)]) 0 (.buf 3 I (applyTo m v k) []), μ := fun k => D.nat (D.sub (D.ilen m) k) }
  | _ => none, fun id s => match id with
  | 7 => some (frz [1] s)
  | _ => none, fun _ _ => none⟩

theorem vc_sum (a b : List (List Int)) (h :
     true = true ∧ true = true ∧ (True → True ∧ (D.not (alikeF a b) = true → sumF a b = D.nil (List Int) ∧ True) ∧ (D.not (alikeF a b) = false → (preBuild
    (D.ilen a) fun i j ↦ idx2 i j a ∧ idx2 i j b) ∧ buildF (plus2 a b) (D.ilen a) = sumF a b ∧ True))) :
    evF c6 noAnn 19 [.dat M a, .dat M b] ⟨True, .dat M (sumF a b)⟩ := of_eq (by kernel_rfl) h

theorem vc_prod (a b : List (List Int)) (h :
     true = true ∧ true = true ∧ (True → True ∧ (D.not (alikeF a b) = true → prodF a b = D.nil (List Int) ∧ True) ∧ (D.not (alikeF a b) = false → preBuild
    (D.ilen a) (dotP a b) ∧ buildF (dotF a b) (D.ilen a) = prodF a b ∧ True))) :
    evF c6 noAnn 21 [.dat M a, .dat M b] ⟨True, .dat M (prodF a b)⟩ := of_eq (by kernel_rfl) h

theorem vc_star (m : List (List Int)) (h :
     true = true ∧ true = true ∧ (starP m → True ∧ (D.not (validF m) = true → starS m = D.nil (List Int) ∧ (1 : Int) = starE m ∧ True) ∧ (D.not (validF m) =
    false → (preBuild (D.ilen m) fun i j ↦ idx2 i j m) ∧ cycP (buildF (star1 m) (D.ilen m)) ∧ (cyclicF (buildF (star1 m) (D.ilen m)) = true → starS m = D.nil (List
    Int) ∧ (120 : Int) = starE m ∧ True) ∧ (cyclicF (buildF (star1 m) (D.ilen m)) = false → (∃ x, starTo m x ∧ m = m ∧ m = m ∧ D.ilen m = D.ilen m ∧ buildF (star1
    m) (D.ilen m) = starK m x ∧ m = m ∧ validF m = validF m ∧ D.not (validF m) = D.not (validF m) ∧ m = m ∧ D.ilen m = D.ilen m ∧ D.ilen m = D.ilen m ∧ m = m ∧
    buildF (star1 m) (D.ilen m) = buildF (star1 m) (D.ilen m) ∧ buildF (star1 m) (D.ilen m) = buildF (star1 m) (D.ilen m) ∧ cyclicF (buildF (star1 m) (D.ilen m)) =
    cyclicF (buildF (star1 m) (D.ilen m)) ∧ D.ilen m = D.ilen m ∧ (0 : Int) = x ∧ True) ∧ ∀ (x : Int), starTo m x → (D.lt x (D.ilen m) = true → 1 = 1 ∧ 0 = 0 ∧ 1 =
    1 ∧ 0 = 0 ∧ m = m ∧ m = m ∧ D.ilen m = D.ilen m ∧ starK m x = starK m x ∧ 1 = 1 ∧ 0 = 0 ∧ x = x ∧ 1 = 1 ∧ 0 = 0 ∧ starK m x = starK m x ∧ m = m ∧ validF m =
    validF m ∧ D.not (validF m) = D.not (validF m) ∧ m = m ∧ D.ilen m = D.ilen m ∧ D.ilen m = D.ilen m ∧ m = m ∧ buildF (star1 m) (D.ilen m) = buildF (star1 m)
    (D.ilen m) ∧ buildF (star1 m) (D.ilen m) = buildF (star1 m) (D.ilen m) ∧ cyclicF (buildF (star1 m) (D.ilen m)) = cyclicF (buildF (star1 m) (D.ilen m)) ∧ D.ilen
    m = D.ilen m ∧ x = x ∧ D.lt x (D.ilen m) = D.lt x (D.ilen m) ∧ x = x ∧ starK m x = starK m x ∧ preBuild (D.ilen m) (star2P (starK m x) x) ∧ cycP (buildF (star2
    (starK m x) x) (D.ilen m)) ∧ (cyclicF (buildF (star2 (starK m x) x) (D.ilen m)) = true → starS m = D.nil (List Int) ∧ (120 : Int) = starE m ∧ True) ∧ (cyclicF
    (buildF (star2 (starK m x) x) (D.ilen m)) = false → inR IntKind.i64 (D.add x (1 : Int)) ∧ ∃ y, starTo m y ∧ (m = m ∧ m = m ∧ D.ilen m = D.ilen m ∧ buildF (star2
    (starK m x) x) (D.ilen m) = starK m y ∧ m = m ∧ validF m = validF m ∧ D.not (validF m) = D.not (validF m) ∧ m = m ∧ D.ilen m = D.ilen m ∧ D.ilen m = D.ilen m ∧
    m = m ∧ buildF (star1 m) (D.ilen m) = buildF (star1 m) (D.ilen m) ∧ buildF (star1 m) (D.ilen m) = buildF (star1 m) (D.ilen m) ∧ cyclicF (buildF (star1 m)
    (D.ilen m)) = cyclicF (buildF (star1 m) (D.ilen m)) ∧ D.ilen m = D.ilen m ∧ D.add x (1 : Int) = y ∧ True) ∧ D.nlt (D.nat (D.sub (D.ilen m) y)) (D.nat (D.sub
    (D.ilen m) x)))) ∧ (D.lt x (D.ilen m) = false → starK m x = starS m ∧ (0 : Int) = starE m ∧ True))))) :
    evF c6 (starA m) 14 [.dat M m] ⟨starP m, .tup [.dat M (starS m), .dat I (starE m)]⟩ := of_eq (by kernel_rfl) h

theorem vc_apply (m : List (List Int)) (v : List Int) (h :
     true = true ∧ true = true ∧ (True → True ∧ (D.not (D.not (validF m)) = true → D.not (D.not (validF m)) = true → D.not (D.not (validF m)) = true) ∧
    (D.not (D.not (validF m)) = true → D.not (D.not (validF m)) = true → D.not (D.not (validF m)) = true) ∧ (D.not (D.not (validF m)) = true → D.not (D.not (validF
    m)) = true → D.not (D.not (validF m)) = true) ∧ (D.not (D.not (validF m)) = true → D.not (D.not (validF m)) = true → D.not (D.not (validF m)) = true) ∧ (D.and
    true (D.not (D.not (validF m))) = true → D.not (D.not (validF m)) = true) ∧ (D.not (D.cnd (D.not (validF m)) true (D.ne (D.ilen v) (D.ilen m))) = true → D.not
    (D.cnd (D.not (validF m)) true (D.ne (D.ilen v) (D.ilen m))) = true → D.not (D.cnd (D.not (validF m)) true (D.ne (D.ilen v) (D.ilen m))) = true) ∧ (D.not (D.cnd
    (D.not (validF m)) true (D.ne (D.ilen v) (D.ilen m))) = true → lenOk v) ∧ (D.and true (D.not (D.cnd (D.not (validF m)) true (D.ne (D.ilen v) (D.ilen m)))) =
    true → D.not (D.cnd (D.not (validF m)) true (D.ne (D.ilen v) (D.ilen m))) = true) ∧ (D.cnd (D.cnd (D.not (validF m)) true (D.ne (D.ilen v) (D.ilen m))) true
    (wrongF v) = true → applyF m v = D.nil Int ∧ True) ∧ (D.cnd (D.cnd (D.not (validF m)) true (D.ne (D.ilen v) (D.ilen m))) true (wrongF v) = false → D.ile (0 :
    Int) (D.ilen m) ∧ D.ile (D.mul (D.ofN (8)) (D.ilen m)) (281474976710656 : Int) ∧ D.ile (D.ilen m) (9223372036854775807 : Int) ∧ (∃ x, upto x (D.ilen m) ∧ m = m
    ∧ v = v ∧ m = m ∧ v = v ∧ Value.slice none (0) (0) = Value.slice none (0) (0) ∧ D.nat (D.ilen m) = D.nat (D.ilen m) ∧ m = m ∧ validF m = validF m ∧ D.not
    (validF m) = D.not (validF m) ∧ D.not (validF m) = D.not (validF m) ∧ D.cnd (D.not (validF m)) true (D.ne (D.ilen v) (D.ilen m)) = D.cnd (D.not (validF m)) true
    (D.ne (D.ilen v) (D.ilen m)) ∧ D.cnd (D.not (validF m)) true (D.ne (D.ilen v) (D.ilen m)) = D.cnd (D.not (validF m)) true (D.ne (D.ilen v) (D.ilen m)) ∧ D.cnd
    (D.cnd (D.not (validF m)) true (D.ne (D.ilen v) (D.ilen m))) true (wrongF v) = D.cnd (D.cnd (D.not (validF m)) true (D.ne (D.ilen v) (D.ilen m))) true (wrongF
    v) ∧ m = m ∧ D.ilen m = D.ilen m ∧ D.nat (D.ilen m) = D.nat (D.ilen m) ∧ m = m ∧ D.ilen m = D.ilen m ∧ (0 : Int) = x ∧ D.rep (D.ilen m) (0 : Int) = applyTo m v
    x ∧ True) ∧ ∀ (x : Int), upto x (D.ilen m) → (D.lt x (D.ilen m) = true → 1 = 1 ∧ 0 = 0 ∧ m = m ∧ v = v ∧ m = m ∧ v = v ∧ Value.slice none (0) (0) = Value.slice
    none (0) (0) ∧ D.nat (D.ilen m) = D.nat (D.ilen m) ∧ 1 = 1 ∧ 0 = 0 ∧ x = x ∧ m = m ∧ validF m = validF m ∧ D.not (validF m) = D.not (validF m) ∧ D.not (validF
    m) = D.not (validF m) ∧ D.cnd (D.not (validF m)) true (D.ne (D.ilen v) (D.ilen m)) = D.cnd (D.not (validF m)) true (D.ne (D.ilen v) (D.ilen m)) ∧ D.cnd (D.not
    (validF m)) true (D.ne (D.ilen v) (D.ilen m)) = D.cnd (D.not (validF m)) true (D.ne (D.ilen v) (D.ilen m)) ∧ D.cnd (D.cnd (D.not (validF m)) true (D.ne (D.ilen
    v) (D.ilen m))) true (wrongF v) = D.cnd (D.cnd (D.not (validF m)) true (D.ne (D.ilen v) (D.ilen m))) true (wrongF v) ∧ m = m ∧ D.ilen m = D.ilen m ∧ D.nat
    (D.ilen m) = D.nat (D.ilen m) ∧ m = m ∧ D.ilen m = D.ilen m ∧ x = x ∧ D.lt x (D.ilen m) = D.lt x (D.ilen m) ∧ x = x ∧ applyTo m v x = applyTo m v x ∧ preFold
    (D.ilen v) (fun x x_3 ↦ True) (atermP m x v) (aterm m x v) ∧ D.len (applyTo m v x) = D.nat (D.ilen m) ∧ D.ile (0 : Int) x ∧ D.ilt x (D.ofN (D.len (applyTo m v
    x))) ∧ D.len (applyTo m v x) = D.nat (D.ilen m) ∧ inR IntKind.i64 (D.add x (1 : Int)) ∧ ∃ y, upto y (D.ilen m) ∧ (m = m ∧ v = v ∧ m = m ∧ v = v ∧ Value.slice
    none (0) (0) = Value.slice none (0) (0) ∧ D.nat (D.ilen m) = D.nat (D.ilen m) ∧ m = m ∧ validF m = validF m ∧ D.not (validF m) = D.not (validF m) ∧ D.not
    (validF m) = D.not (validF m) ∧ D.cnd (D.not (validF m)) true (D.ne (D.ilen v) (D.ilen m)) = D.cnd (D.not (validF m)) true (D.ne (D.ilen v) (D.ilen m)) ∧ D.cnd
    (D.not (validF m)) true (D.ne (D.ilen v) (D.ilen m)) = D.cnd (D.not (validF m)) true (D.ne (D.ilen v) (D.ilen m)) ∧ D.cnd (D.cnd (D.not (validF m)) true (D.ne
    (D.ilen v) (D.ilen m))) true (wrongF v) = D.cnd (D.cnd (D.not (validF m)) true (D.ne (D.ilen v) (D.ilen m))) true (wrongF v) ∧ m = m ∧ D.ilen m = D.ilen m ∧
    D.nat (D.ilen m) = D.nat (D.ilen m) ∧ m = m ∧ D.ilen m = D.ilen m ∧ D.add x (1 : Int) = y ∧ D.set (applyTo m v x) (D.nat x) (foldI plusF (aterm m x v)
    (-1099511627776 : Int) (D.ilen v)) = applyTo m v y ∧ True) ∧ D.nlt (D.nat (D.sub (D.ilen m) y)) (D.nat (D.sub (D.ilen m) x))) ∧ (D.lt x (D.ilen m) = false →
    D.len (applyTo m v x) = D.nat (D.ilen m) ∧ applyTo m v x = applyF m v ∧ True)))) :
    evF c6 (applyA m v) 24 [.dat M m, .dat R v] ⟨True, .dat R (applyF m v)⟩ := of_eq (by kernel_rfl) h

theorem foldN_either {g : Int → Bool} (n : Nat) : foldN eitherF g false n = false ↔ ∀ k : Nat, k < n → g k = false := by
  induction n with
  | zero => simp [foldN]
  | succ n ih =>
    simp only [foldN, eitherF, Bool.or_eq_false_iff, ih]
    constructor
    · rintro ⟨h1, h2⟩ k hk
      by_cases e : k = n
      · subst e; exact h2
      · exact h1 k (by omega)
    · exact fun h => ⟨fun k hk => h k (by omega), h n (by omega)⟩
theorem foldB_either {g : Int → Bool} {n : Int} : foldB eitherF g false n = false ↔ ∀ k : Int, 0 ≤ k → k < n → g k = false := by
  unfold foldB
  rw [foldN_either]
  constructor
  · intro h k h0 h1
    have := h k.toNat (by omega)
    rwa [Int.toNat_of_nonneg h0] at this
  · exact fun h k hk => h k (by omega) (by omega)
theorem wrongF_false {row : List Int} : wrongF row = false ↔ ∀ k : Int, 0 ≤ k → k < row.length → elemF (at1 row k) = true := by
  unfold wrongF
  rw [foldB_either]
  simp [notElem]

structure Sq (n : Nat) (m : List (List Int)) : Prop where
  len : m.length = n
  row : ∀ i : Int, 0 ≤ i → i < n → (m.getD i.toNat []).length = n

theorem Sq.idx2 {n : Nat} {m : List (List Int)} (h : Sq n m) {i j : Int} (h0 : 0 ≤ i) (h1 : i < n) (h2 : 0 ≤ j) (h3 : j < n) : idx2 i j m :=
  ⟨h0, by rw [h.len]; exact h1, h2, by rw [h.row i h0 h1]; exact h3⟩

theorem valid_sq {m : List (List Int)} (h : validF m = true) : Sq m.length m ∧ m.length ≤ 40 ∧ ∀ i j : Int, 0 ≤ i → i < m.length → 0 ≤ j → j < m.length → elemF (at2 m i j) = true := by
  unfold validF at h
  simp only [Bool.and_eq_true, Bool.not_eq_true', decide_eq_false_iff_not] at h
  obtain ⟨h1, h2⟩ := h
  have hrow : ∀ i : Int, 0 ≤ i → i < m.length → rowBad m (m.getD i.toNat []) = false := by
    intro i h0 hi
    have hlt : i.toNat < m.length := by omega
    rw [List.any_eq_false] at h2
    rw [List.getD_eq_getElem?_getD, List.getElem?_eq_getElem hlt]
    simpa using h2 _ (List.getElem_mem hlt)
  have hr2 : ∀ i : Int, 0 ≤ i → i < m.length → (m.getD i.toNat []).length = m.length ∧ wrongF (m.getD i.toNat []) = false := by
    intro i h0 hi
    have := hrow i h0 hi
    unfold rowBad at this
    simp only [Bool.or_eq_false_iff, decide_eq_false_iff_not, ne_eq, Decidable.not_not] at this
    exact ⟨by have := this.1; omega, this.2⟩
  refine ⟨⟨rfl, fun i h0 hi => (hr2 i h0 hi).1⟩, by omega, fun i j h0 hi h3 hj => ?_⟩
  obtain ⟨g1, g2⟩ := hr2 i h0 hi
  exact wrongF_false.1 g2 j h3 (by rw [g1]; exact hj)

theorem buildF_row (g : Int → Int → Int) (n : Nat) (i : Int) (h0 : 0 ≤ i) (hi : i < n) : (buildF g n).getD i.toNat [] = (List.range n).map fun j : Nat => g i j := by
  unfold buildF
  simp only [Int.toNat_natCast]
  rw [List.getD_eq_getElem?_getD, List.getElem?_map, List.getElem?_range (by omega)]
  simp [Int.toNat_of_nonneg h0]
theorem buildF_sq (g : Int → Int → Int) (n : Nat) : Sq n (buildF g n) := ⟨by simp [buildF], fun i h0 hi => by rw [buildF_row g n i h0 hi]; simp⟩
theorem buildF_at (g : Int → Int → Int) (n : Nat) (i j : Int) (h0 : 0 ≤ i) (hi : i < n) (h1 : 0 ≤ j) (hj : j < n) : at2 (buildF g n) i j = g i j := by
  unfold at2
  rw [buildF_row g n i h0 hi, List.getD_eq_getElem?_getD, List.getElem?_map, List.getElem?_range (by omega)]
  simp [Int.toNat_of_nonneg h1]

theorem elem_times {x y : Int} (hx : elemF x = true) (hy : elemF y = true) : timesP x y := by
  intro h1 h2
  simp only [elemF, h1, h2, Bool.false_or, Bool.and_eq_true, decide_eq_true_eq] at hx hy
  simp only [inR]; omega

theorem alike_iff {a b : List (List Int)} : alikeF a b = true ↔ validF a = true ∧ validF b = true ∧ a.length = b.length := by
  unfold alikeF
  cases h : validF a <;> cases h2 : validF b <;> simp
  omega

theorem KS6 : KSound Try.prog K6 := by
  intro f args c h
  unfold K6 at h
  split at h
  · cases h; exact s_alike _ _
  · cases h; exact s_cyclic _
  · cases h; exact s_build_fn _ _ _ (by kernel_rfl) rfl (fun i j => s_dot i j _ _)
  · exact KS5 _ _ _ h

theorem s_sum (a b : List (List Int)) : SoundC Try.prog 19 [.dat M a, .dat M b] ⟨True, .dat M (sumF a b)⟩ :=
  sound_of_ev (c := c6) KS6 hm (vc_sum a b ⟨rfl, rfl, fun _ => ⟨trivial, fun h => ⟨by
      have h : alikeF a b = false := by simpa using h
      simp [sumF, h], trivial⟩, fun h => by
      have h : alikeF a b = true := by simpa using h
      obtain ⟨h1, h2, h3⟩ := alike_iff.1 h
      obtain ⟨sa, la, _⟩ := valid_sq h1
      obtain ⟨sb, _, _⟩ := valid_sq h2
      refine ⟨⟨by simp only [D.ilen]; omega, by simp only [D.ilen]; omega, fun i j h0 hi h4 hj => ⟨sa.idx2 h0 hi h4 hj, sb.idx2 h0 (by rw [← h3]; exact hi) h4 (by rw [← h3]; exact hj)⟩⟩, by simp [sumF, h], trivial⟩⟩⟩)

theorem dot_ok {a b : List (List Int)} (h : alikeF a b = true) : preBuild a.length (dotP a b) := by
  obtain ⟨h1, h2, h3⟩ := alike_iff.1 h
  obtain ⟨sa, la, ea⟩ := valid_sq h1
  obtain ⟨sb, _, eb⟩ := valid_sq h2
  refine ⟨by omega, by omega, fun i j h0 hi h4 hj => ⟨by omega, fun k h5 hk => ⟨⟨sa.idx2 h0 hi h5 hk, sb.idx2 h5 (by omega) h4 (by omega), elem_times (ea i k h0 hi h5 hk) (eb k j h5 (by omega) h4 (by omega))⟩, fun _ => trivial⟩⟩⟩

theorem s_prod (a b : List (List Int)) : SoundC Try.prog 21 [.dat M a, .dat M b] ⟨True, .dat M (prodF a b)⟩ :=
  sound_of_ev (c := c6) KS6 hm (vc_prod a b ⟨rfl, rfl, fun _ => ⟨trivial, fun h => ⟨by
      have h : alikeF a b = false := by simpa using h
      simp [prodF, h], trivial⟩, fun h => by
      have h : alikeF a b = true := by simpa using h
      exact ⟨dot_ok h, by simp [prodF, h], trivial⟩⟩⟩)

theorem applyTo_len (m : List (List Int)) (v : List Int) (x : Int) (h : upto x m.length) : (applyTo m v x).length = m.length := by
  have := h.1; have := h.2
  simp only [applyTo, List.length_append, List.length_take, List.length_replicate, List.length_map, List.length_range]; omega
theorem applyTo_succ (m : List (List Int)) (v : List Int) (x : Int) (h0 : 0 ≤ x) (h1 : x < m.length) : (applyTo m v x).set x.toNat (foldI plusF (aterm m x v) (-1099511627776) v.length) = applyTo m v (x + 1) := by
  have e : (x + 1).toNat = x.toNat + 1 := by omega
  have := fill_set ((List.range m.length).map fun i : Nat => foldI plusF (aterm m i v) (-1099511627776) v.length) 0 (foldI plusF (aterm m x v) (-1099511627776) v.length) x.toNat (by
    rw [List.getElem?_map, List.getElem?_range (by omega)]; simp [Int.toNat_of_nonneg h0])
  simp only [List.length_map, List.length_range] at this
  unfold applyTo; rw [e]; exact this

theorem s_apply (m : List (List Int)) (v : List Int) : SoundC Try.prog 24 [.dat M m, .dat R v] ⟨True, .dat R (applyF m v)⟩ := by
  refine sound_of_ev (c := c6) KS6 hm (vc_apply m v ⟨rfl, rfl, fun _ => ?_⟩)
  have hval : ∀ {x : Bool}, D.not (D.not x) = true → x = true := fun {x} h => by simpa using h
  have hc : D.not (D.cnd (D.not (validF m)) true (D.ne (D.ilen v) (D.ilen m))) = true → validF m = true ∧ v.length = m.length := by
    intro h
    cases hv : validF m with
    | false => rw [hv] at h; simp at h
    | true =>
      rw [hv] at h
      simp [D.ne, D.ilen] at h
      exact ⟨rfl, by omega⟩
  refine ⟨trivial, fun _ h => h, fun _ h => h, fun _ h => h, fun _ h => h, fun h => by simpa using h, fun _ h => h, fun h => ?_, fun h => by simpa using h, fun h => ⟨?_, trivial⟩, fun h => ?_⟩
  · obtain ⟨h1, h2⟩ := hc h
    have := (valid_sq h1).2.1
    show (v.length : Int) ≤ _
    omega
  · cases hv : validF m with
    | false => simp [applyF, hv]
    | true =>
      rw [hv] at h
      by_cases e : (v.length : Int) = m.length
      · simp [D.ne, D.ilen, e] at h
        simp [applyF, hv, e, h]
      · simp [applyF, hv, e]
  · obtain ⟨h1, h2, h3⟩ : validF m = true ∧ v.length = m.length ∧ wrongF v = false := by
      cases hv : validF m with
      | false => rw [hv] at h; simp at h
      | true =>
        rw [hv] at h
        by_cases e : (v.length : Int) = m.length
        · simp [D.ne, D.ilen, e] at h
          exact ⟨rfl, by omega, h⟩
        · simp [D.ne, D.ilen, e] at h
    obtain ⟨sq, le, el⟩ := valid_sq h1
    have ev := wrongF_false.1 h3
    have eval : applyF m v = (List.range m.length).map fun i : Nat => foldI plusF (aterm m i v) (-1099511627776) v.length := by simp [applyF, h1, h2, h3]
    refine ⟨by simp only [D.ile, D.ilen]; omega, by simp only [D.ile, D.ilen, D.mul, D.ofN]; omega, by simp only [D.ile, D.ilen]; omega, ⟨0, ⟨by omega, .inr rfl⟩, ?_⟩, fun x hx => ⟨fun hlt => ?_, fun hge => ?_⟩⟩
    · simp [applyTo]
    · have hlt : x < m.length := by simpa using hlt
      have h0 := hx.1
      have hl := applyTo_len m v x hx
      have hp : preFold (D.ilen v) (fun _ _ => True) (atermP m x v) (aterm m x v) := ⟨by simp only [D.ilen]; omega, fun k h4 hk => ⟨⟨sq.idx2 h0 hlt h4 (by simp only [D.ilen] at hk; omega), ⟨h4, hk⟩, elem_times (el x k h0 hlt h4 (by simp only [D.ilen] at hk; omega)) (ev k h4 hk)⟩, fun _ => trivial⟩⟩
      simp only [true_and, and_true, eq_self]
      refine ⟨hp, by simpa using hl, h0, by simp only [D.ilt, D.ofN, D.len]; omega, by simpa using hl, by simp only [inR, D.add]; omega, x + 1, ⟨by omega, .inl (by simp only [D.ilen]; omega)⟩, ⟨rfl, ?_⟩, ?_⟩
      · exact applyTo_succ m v x h0 hlt
      · simp only [D.nlt, D.nat, D.sub, D.ilen]; omega
    · have hge : ¬ x < m.length := by simpa using hge
      have hl := applyTo_len m v x hx
      refine ⟨by simpa using hl, ?_, trivial⟩
      have := hx.1; have := hx.2
      have e : x.toNat = m.length := by simp only [D.ilen] at this; omega
      rw [eval]
      unfold applyTo
      rw [e, List.take_of_length_le (by simp)]; simp
theorem starN_sq (m : List (List Int)) (k : Nat) : Sq m.length (starN m k) := by
  cases k <;> exact buildF_sq _ _
noncomputable def bd (k : Nat) : Int := ((1099511627776 * 2 ^ k : Nat) : Int)
theorem bd_pos (k : Nat) : 1099511627776 ≤ bd k := by
  unfold bd
  have : 1 ≤ 2 ^ k := Nat.one_le_two_pow
  omega
theorem bd_succ (k : Nat) : bd (k + 1) = 2 * bd k := by
  unfold bd
  rw [Nat.pow_succ]; omega
theorem bd_top {k : Nat} (h : k ≤ 20) : bd k ≤ 1152921504606846976 := by
  unfold bd
  have := Nat.pow_le_pow_right (n := 2) (by omega) h
  omega
theorem plusF_bd {x y b : Int} (hb : 1099511627776 ≤ b) (hx : -b ≤ x ∧ x ≤ b) (hy : -b ≤ y ∧ y ≤ b) : -b ≤ plusF x y ∧ plusF x y ≤ b := by
  unfold plusF
  cases infF x && infF y
  · simp only [cond_false]; omega
  · simp only [cond_true]; omega
theorem timesF_bd {x y b : Int} (hb : 1099511627776 ≤ b) (hx : -b ≤ x ∧ x ≤ b) (hy : -b ≤ y ∧ y ≤ b) : -(2 * b) ≤ timesF x y ∧ timesF x y ≤ 2 * b := by
  unfold timesF
  cases infF x || infF y
  · simp only [cond_false]; omega
  · simp only [cond_true]; omega
theorem plus_low {c x : Int} (hc : -1099511627776 ≤ c ∧ c ≤ 0) (hx : elemF x = true) : -1099511627776 ≤ plusF c x ∧ plusF c x ≤ 1099511627776 := by
  unfold plusF
  cases h : infF x
  · simp only [elemF, h, Bool.false_or, Bool.and_eq_true, decide_eq_true_eq] at hx
    simp only [Bool.and_false, cond_false]; omega
  · simp only [infF, decide_eq_true_eq] at h
    cases infF c && true
    · simp only [cond_false]; omega
    · simp only [cond_true]; omega
theorem starN_bd {m : List (List Int)} (h : validF m = true) : ∀ (k : Nat), k ≤ m.length → ∀ i j : Int, 0 ≤ i → i < m.length → 0 ≤ j → j < m.length → -(bd k) ≤ at2 (starN m k) i j ∧ at2 (starN m k) i j ≤ bd k
  | 0, _, i, j, h0, hi, h1, hj => by
    have e := (valid_sq h).2.2 i j h0 hi h1 hj
    show -(bd 0) ≤ at2 (buildF (star1 m) m.length) i j ∧ at2 (buildF (star1 m) m.length) i j ≤ bd 0
    rw [buildF_at _ _ _ _ h0 hi h1 hj]
    have e0 : bd 0 = 1099511627776 := rfl
    rw [e0]
    unfold star1
    cases decide (i = j)
    · exact plus_low (c := -1099511627776) (by omega) e
    · exact plus_low (c := 0) (by omega) e
  | k + 1, hk, i, j, h0, hi, h1, hj => by
    show -(bd (k + 1)) ≤ at2 (buildF (star2 (starN m k) k) m.length) i j ∧ at2 (buildF (star2 (starN m k) k) m.length) i j ≤ bd (k + 1)
    rw [buildF_at _ _ _ _ h0 hi h1 hj, bd_succ]
    have hb := bd_pos k
    have g1 := starN_bd h k (by omega) i j h0 hi h1 hj
    have g2 := starN_bd h k (by omega) i k h0 hi (by omega) (by omega)
    have g3 := starN_bd h k (by omega) k j (by omega) (by omega) h1 hj
    exact plusF_bd (by omega) (by omega) (timesF_bd hb g2 g3)

theorem cyc_ok {n : Nat} {m : List (List Int)} (h : Sq n m) (hn : n ≤ 20) : cycP m :=
  ⟨by rw [h.len]; omega, fun k h0 hk => ⟨h.idx2 h0 (by rw [← h.len]; exact hk) h0 (by rw [← h.len]; exact hk), fun _ => trivial⟩⟩

theorem starBad_at {m : List (List Int)} (k : Nat) (hk : k ≤ m.length) (h : cyclicF (starN m k) = true) : starBad m = true :=
  List.any_eq_true.2 ⟨k, List.mem_range.2 (by omega), h⟩

theorem s_star (m : List (List Int)) : SoundC Try.prog 14 [.dat M m] ⟨starP m, .tup [.dat M (starS m), .dat I (starE m)]⟩ := by
  refine sound_of_ev (c := c6) KS6 hm (vc_star m ⟨rfl, rfl, fun hp => ⟨trivial, fun h => ?_, fun h => ?_⟩⟩)
  · have h : validF m = false := by simpa using h
    simp [starS, starE, starF, h]
  · have h : validF m = true := by simpa using h
    unfold starP at hp
    obtain ⟨sq, _, el⟩ := valid_sq h
    have sK : ∀ k : Nat, cycP (starN m k) := fun k => cyc_ok (starN_sq m k) hp
    have bad : ∀ k : Nat, k ≤ m.length → cyclicF (starN m k) = true → starS m = [] ∧ (120 : Int) = starE m ∧ True := fun k hk hc => by
      have := starBad_at k hk hc
      simp [starS, starE, starF, h, this]
    refine ⟨⟨by simp only [D.ilen]; omega, by simp only [D.ilen]; omega, fun i j h0 hi h1 hj => sq.idx2 h0 hi h1 hj⟩, sK 0, bad 0 (by omega), fun h0 => ⟨⟨0, ⟨by omega, by omega, h, fun j hj => ?_⟩, ?_⟩, fun x hx => ⟨fun hlt => ?_, fun hge => ?_⟩⟩⟩
    · have : j = 0 := by omega
      subst this; exact h0
    · simp only [true_and, and_true, eq_self]; rfl
    · have hlt : x < m.length := by simpa using hlt
      obtain ⟨g0, g1, g2, g3⟩ := hx
      have ex : starK m x = starN m x.toNat := rfl
      have es : buildF (star2 (starK m x) x) (D.ilen m) = starN m (x.toNat + 1) := by
        rw [ex]
        show buildF (star2 (starN m x.toNat) x) m.length = buildF (star2 (starN m x.toNat) (x.toNat : Int)) m.length
        rw [Int.toNat_of_nonneg g0]
      rw [es]
      simp only [true_and, and_true, eq_self]
      refine ⟨⟨by simp only [D.ilen]; omega, by simp only [D.ilen]; omega, fun i j h0 hi h1 hj => ?_⟩, sK _, fun hc => by simpa using bad (x.toNat + 1) (by omega) hc, fun hc => ⟨by simp only [inR, D.add]; omega, x + 1, ⟨by omega, by omega, h, fun j hj => ?_⟩, ⟨?_, rfl⟩, ?_⟩⟩
      · rw [ex]
        have sN := starN_sq m x.toNat
        refine ⟨sN.idx2 h0 hi h1 hj, sN.idx2 h0 hi g0 hlt, sN.idx2 g0 hlt h1 hj, fun _ _ => ?_⟩
        have b1 := starN_bd h x.toNat (by omega) i x h0 hi g0 hlt
        have b2 := starN_bd h x.toNat (by omega) x j g0 hlt h1 hj
        have b3 := bd_top (k := x.toNat) (by omega)
        simp only [inR]; omega
      · by_cases e : (j : Int) ≤ x
        · exact g3 j e
        · have : j = x.toNat + 1 := by omega
          rw [this]; exact hc
      · show starN m (x.toNat + 1) = starN m (x + 1).toNat
        rw [show (x + 1).toNat = x.toNat + 1 by omega]
      · simp only [D.nlt, D.nat, D.sub, D.ilen]; omega
    · have hge : ¬ x < m.length := by simpa using hge
      obtain ⟨g0, g1, g2, g3⟩ := hx
      have hb : starBad m = false := by
        unfold starBad
        rw [List.any_eq_false]
        intro k hk
        have := g3 k (by have := List.mem_range.1 hk; omega)
        simp [this]
      have e : x.toNat = m.length := by omega
      have : starF m = (starN m m.length, 0) := by simp [starF, h, hb]
      refine ⟨?_, ?_, trivial⟩
      · unfold starS; rw [this]; show starN m x.toNat = _; rw [e]
      · unfold starE; rw [this]
end Go.Eng.Mp
