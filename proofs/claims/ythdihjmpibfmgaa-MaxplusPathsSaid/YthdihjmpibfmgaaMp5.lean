/- PeMp5 -/
import Derived.Test.YthdihjmpibfmgaaEng18
import Derived.Test.YthdihjmpibfmgaaMp4
namespace Go.Eng.Mp
open Go.Proofs

noncomputable def intsF (a b : List Int) : Bool := decide (a = b)
noncomputable def intsTo (a b : List Int) (k : Int) : Prop := 0 ≤ k ∧ k ≤ a.length ∧ a.length = b.length ∧ a.take k.toNat = b.take k.toNat
noncomputable def sameF (a b : List (List Int)) : Bool := decide (a = b)
noncomputable def lensOk (a : List (List Int)) : Prop := (a.length : Int) ≤ 9223372036854775807 ∧ ∀ r ∈ a, lenOk r
noncomputable def sameTo (a b : List (List Int)) (k : Int) : Prop := 0 ≤ k ∧ k ≤ a.length ∧ a.length = b.length ∧ a.take k.toNat = b.take k.toNat
noncomputable def longer (n : Int) (r : List Int) : Bool := decide ((r.length : Int) > n)
noncomputable def fewF (m : List (List Int)) (n : Int) : Bool := !decide ((m.length : Int) > n) && !m.any (longer n)
noncomputable def fewTo (m : List (List Int)) (n k : Int) : Prop := 0 ≤ k ∧ k ≤ m.length ∧ m.length ≤ n ∧ (m.take k.toNat).any (longer n) = false
noncomputable def fewP (n : Int) : Prop := n ≤ 1000000
noncomputable def rowTo (m : List (List Int)) (i k : Int) : Prop := 0 ≤ k ∧ (k ≤ (m.getD i.toNat []).length) ∧ ((m.getD i.toNat []).length : Int) = m.length ∧ ∀ j : Int, 0 ≤ j → j < k → elemF (at2 m i j) = true
noncomputable def fineF (m : List (List Int)) : Bool := bif fewF m 10 then validF m else false
noncomputable def clean1 (x : Int) : Int := plusF x (-1099511627776)
noncomputable def cleanR (r : List Int) : List Int := r.map clean1
noncomputable def cleanF (m : List (List Int)) : List (List Int) := m.map cleanR
noncomputable def cleanTo (m : List (List Int)) (k : Int) : List (List Int) := (cleanF m).take k.toNat
noncomputable def cleanRTo (m : List (List Int)) (i k : Int) : List Int := (cleanR (m.getD i.toNat [])).take k.toNat
noncomputable def kTo (k n : Int) : Prop := 0 ≤ k ∧ k ≤ n
noncomputable def cleanP (m : List (List Int)) : Prop := (m.length : Int) ≤ 1000000 ∧ ∀ r ∈ m, (r.length : Int) ≤ 1000000
noncomputable def over (x y : Int) : Bool := !(infF x) && decide (x > y)
noncomputable def rowBelow (a b : List Int) : Bool := decide (a.length = b.length) && (List.range a.length).all fun k : Nat => !(over (at1 a k) (at1 b k))
noncomputable def belowF (a b : List (List Int)) : Bool := decide (a.length = b.length) && (List.range a.length).all fun i : Nat => rowBelow (a.getD i []) (b.getD i [])
noncomputable def belowTo (a b : List (List Int)) (k : Int) : Prop := 0 ≤ k ∧ k ≤ a.length ∧ a.length = b.length ∧ ∀ i : Int, 0 ≤ i → i < k → rowBelow (a.getD i.toNat []) (b.getD i.toNat []) = true
noncomputable def belowRTo (a b : List (List Int)) (i k : Int) : Prop := 0 ≤ k ∧ k ≤ (a.getD i.toNat []).length ∧ (a.getD i.toNat []).length = (b.getD i.toNat []).length ∧ ∀ j : Int, 0 ≤ j → j < k → over (at2 a i j) (at2 b i j) = false

noncomputable def K7 : Kt := fun f args => match f, args with
  | 19, [.dat (.sl (.sl (.int .i64))) a, .dat (.sl (.sl (.int .i64))) b] => some ⟨True, .dat M (sumF a b)⟩
  | 21, [.dat (.sl (.sl (.int .i64))) a, .dat (.sl (.sl (.int .i64))) b] => some ⟨True, .dat M (prodF a b)⟩
  | 14, [.dat (.sl (.sl (.int .i64))) m] => some ⟨starP m, .tup [.dat M (starS m), .dat I (starE m)]⟩
  | 24, [.dat (.sl (.sl (.int .i64))) m, .dat (.sl (.int .i64)) v] => some ⟨True, .dat R (applyF m v)⟩
  | 31, [.dat (.int .i64) x] => some ⟨True, .dat .bool (infF x)⟩
  | _, _ => K6 f args
noncomputable def c7 : Cfg := ⟨Try.prog, K7, fun _ => false⟩

noncomputable def intsA (a b : List Int) : Ann := ⟨fun id s => match id with
  | 4 => some { α := Int, inv := fun k => intsTo a b k, st := fun k => put s [(5, .dat I k)], μ := fun k => D.nat (D.sub (D.ilen a) k) }
  | _ => none, fun _ _ => none, fun _ _ => none⟩

theorem vc_rinf (x : Int) (h :
     true = true ∧ true = true ∧ (True → D.le x (-549755813888 : Int) = infF x ∧ True)) :
    evF c0 noAnn 31 [.dat I x] ⟨True, .dat .bool (infF x)⟩ := of_eq (by kernel_rfl) h

theorem s_rinf (x : Int) : SoundC Try.prog 31 [.dat I x] ⟨True, .dat .bool (infF x)⟩ :=
  sound_of_ev (c := c0) KS0 hm (vc_rinf x ⟨rfl, rfl, fun _ => ⟨rfl, trivial⟩⟩)
theorem KS7 : KSound Try.prog K7 := by
  intro f args c h
  unfold K7 at h
  split at h
  · cases h; exact s_sum _ _
  · cases h; exact s_prod _ _
  · cases h; exact s_star _
  · cases h; exact s_apply _ _
  · cases h; exact s_rinf _
  · exact KS6 _ _ _ h
theorem vc_relem (x : Int) (h :
     true = true ∧ true = true ∧ (True → True ∧ (D.not (infF x) = true → D.not (infF x) = true → D.not (infF x) = true) ∧ (D.not (infF x) = true → D.not
    (infF x) = true → D.not (infF x) = true) ∧ (D.and (D.not (infF x)) (D.ge x (-1000000000 : Int)) = true → D.and (D.not (infF x)) (D.ge x (-1000000000 : Int)) =
    true → D.and (D.not (infF x)) (D.ge x (-1000000000 : Int)) = true) ∧ (D.not (infF x) = true → D.not (infF x) = true → D.not (infF x) = true) ∧ (D.not (infF x) =
    true → D.and (D.not (infF x)) (D.ge x (-1000000000 : Int)) = true → D.and (D.not (infF x)) (D.ge x (-1000000000 : Int)) = true) ∧ (D.and true (D.not (infF x)) =
    true → D.not (infF x) = true) ∧ D.cnd (infF x) true (D.cnd (D.ge x (-1000000000 : Int)) (D.le x (1000000000 : Int)) false) = elemF x ∧ True)) :
    evF c7 noAnn 39 [.dat I x] ⟨True, .dat .bool (elemF x)⟩ := of_eq (by kernel_rfl) h

theorem s_relem (x : Int) : SoundC Try.prog 39 [.dat I x] ⟨True, .dat .bool (elemF x)⟩ :=
  sound_of_ev (c := c7) KS7 hm (vc_relem x (by cases h : infF x <;> simp [elemF, h, Bool.cond_eq_ite]))
theorem vc_rplus (x y : Int) (h :
     true = true ∧ true = true ∧ (True → True ∧ (infF x = true → infF x = true → infF x = true) ∧ (infF x = true → True) ∧ (D.and true (infF x) = true →
    infF x = true) ∧ (D.cnd (infF x) (infF y) false = true → (-1099511627776 : Int) = plusF x y ∧ True) ∧ (D.cnd (infF x) (infF y) false = false → D.mx x y = plusF
    x y ∧ True))) :
    evF c7 noAnn 42 [.dat I x, .dat I y] ⟨True, .dat I (plusF x y)⟩ := of_eq (by kernel_rfl) h

theorem s_rplus (x y : Int) : SoundC Try.prog 42 [.dat I x, .dat I y] ⟨True, .dat I (plusF x y)⟩ :=
  sound_of_ev (c := c7) KS7 hm (vc_rplus x y (by cases h : infF x <;> cases h2 : infF y <;> simp [plusF, h, h2]))
theorem vc_rtimes (x y : Int) (h :
     true = true ∧ true = true ∧ (timesP x y → True ∧ (D.not (infF x) = true → D.not (infF x) = true → D.not (infF x) = true) ∧ (D.not (infF x) = true →
    True) ∧ (D.and true (D.not (infF x)) = true → D.not (infF x) = true) ∧ (D.cnd (infF x) true (infF y) = true → (-1099511627776 : Int) = timesF x y ∧ True) ∧
    (D.cnd (infF x) true (infF y) = false → inR IntKind.i64 (D.add x y) ∧ D.add x y = timesF x y ∧ True))) :
    evF c7 noAnn 30 [.dat I x, .dat I y] ⟨timesP x y, .dat I (timesF x y)⟩ := of_eq (by kernel_rfl) h

theorem s_rtimes (x y : Int) : SoundC Try.prog 30 [.dat I x, .dat I y] ⟨timesP x y, .dat I (timesF x y)⟩ :=
  sound_of_ev (c := c7) KS7 hm (vc_rtimes x y (by cases h : infF x <;> cases h2 : infF y <;> simp [timesF, timesP, h, h2]))
theorem vc_ints (a b : List Int) (h :
     true = true ∧ true = true ∧ (lenOk a → (D.ne (D.ilen a) (D.ilen b) = true → false = intsF a b ∧ True) ∧ (D.ne (D.ilen a) (D.ilen b) = false → (∃ x,
    intsTo a b x ∧ a = a ∧ b = b ∧ (0 : Int) = x ∧ a = a ∧ D.ilen a = D.ilen a ∧ b = b ∧ D.ilen b = D.ilen b ∧ D.ne (D.ilen a) (D.ilen b) = D.ne (D.ilen a) (D.ilen
    b) ∧ True) ∧ ∀ (x : Int), intsTo a b x → (D.lt x (D.ilen a) = true → D.ile (0 : Int) x ∧ D.ilt x (D.ilen a) ∧ D.ile (0 : Int) x ∧ D.ilt x (D.ilen b) ∧ (D.ne
    (D.get a (D.nat x) (0 : Int)) (D.get b (D.nat x) (0 : Int)) = true → false = intsF a b ∧ True) ∧ (D.ne (D.get a (D.nat x) (0 : Int)) (D.get b (D.nat x) (0 :
    Int)) = false → inR IntKind.i64 (D.add x (1 : Int)) ∧ ∃ y, intsTo a b y ∧ (a = a ∧ b = b ∧ D.add x (1 : Int) = y ∧ a = a ∧ D.ilen a = D.ilen a ∧ b = b ∧ D.ilen
    b = D.ilen b ∧ D.ne (D.ilen a) (D.ilen b) = D.ne (D.ilen a) (D.ilen b) ∧ True) ∧ D.nlt (D.nat (D.sub (D.ilen a) y)) (D.nat (D.sub (D.ilen a) x)))) ∧ (D.lt x
    (D.ilen a) = false → true = intsF a b ∧ True)))) :
    evF c7 (intsA a b) 23 [.dat R a, .dat R b] ⟨lenOk a, .dat .bool (intsF a b)⟩ := of_eq (by kernel_rfl) h

theorem take_succ_getD {α : Type} (xs : List α) (d : α) (k : Nat) (h : k < xs.length) : xs.take (k + 1) = xs.take k ++ [xs.getD k d] := by
  rw [List.take_add_one, List.getD_eq_getElem?_getD, List.getElem?_eq_getElem h]; rfl
theorem s_ints (a b : List Int) : SoundC Try.prog 23 [.dat R a, .dat R b] ⟨lenOk a, .dat .bool (intsF a b)⟩ := by
  refine sound_of_ev (c := c7) KS7 hm (vc_ints a b ⟨rfl, rfl, fun hp => ⟨fun h => ⟨?_, trivial⟩, fun h => ?_⟩⟩)
  · have : (a.length : Int) ≠ b.length := by simpa [D.ne, D.ilen] using h
    have : a ≠ b := fun e => this (by rw [e])
    simp [intsF, this]
  · have hl : (a.length : Int) = b.length := by simpa [D.ne, D.ilen] using h
    have hl : a.length = b.length := by omega
    simp only [eq_self, true_and, and_true, imp_self]
    refine ⟨⟨0, ⟨by omega, by omega, hl, by simp⟩, rfl⟩, fun x hx => ⟨fun hlt => ?_, fun hge => ?_⟩⟩
    · have hlt : x < a.length := by simpa using hlt
      obtain ⟨g0, g1, _, g2⟩ := hx
      refine ⟨g0, hlt, g0, by simp only [D.ilt, D.ilen]; omega, fun hne => ?_, fun heq => ⟨?_, x + 1, ⟨by omega, by omega, hl, ?_⟩, rfl, ?_⟩⟩
      · have : a ≠ b := by rintro rfl; simp [D.ne] at hne
        simp [intsF, this]
      · unfold lenOk at hp; simp only [inR, D.add]; omega
      · rw [show (x + 1).toNat = x.toNat + 1 by omega, take_succ_getD a 0 _ (by omega), take_succ_getD b 0 _ (by omega), g2]
        have : a.getD x.toNat 0 = b.getD x.toNat 0 := by simpa [D.ne, D.get, D.nat] using heq
        rw [this]
      · simp only [D.nlt, D.nat, D.sub, D.ilen]; omega
    · have hge : ¬ x < a.length := by simpa using hge
      obtain ⟨g0, g1, _, g2⟩ := hx
      rw [List.take_of_length_le (by omega), List.take_of_length_le (by omega)] at g2
      simp [intsF, g2]

noncomputable def fewA (m : List (List Int)) (n : Int) : Ann := ⟨fun id s => match id with
  | 4 => some { α := Int, inv := fun k => fewTo m n k, st := fun k => put s [(5, .dat I k)], μ := fun k => D.nat (D.sub (D.ilen m) k) }
  | _ => none, fun _ _ => none, fun _ _ => none⟩
theorem vc_few (m : List (List Int)) (n : Int) (h :
     true = true ∧ true = true ∧ (fewP n → (D.gt (D.ilen m) n = true → false = fewF m n ∧ True) ∧ (D.gt (D.ilen m) n = false → (∃ x, fewTo m n x ∧ m = m ∧
    n = n ∧ (0 : Int) = x ∧ m = m ∧ D.ilen m = D.ilen m ∧ n = n ∧ D.gt (D.ilen m) n = D.gt (D.ilen m) n ∧ True) ∧ ∀ (x : Int), fewTo m n x → (D.lt x (D.ilen m) =
    true → D.ile (0 : Int) x ∧ D.ilt x (D.ilen m) ∧ (D.gt (D.ilen (D.get m (D.nat x) (D.nil Int))) n = true → false = fewF m n ∧ True) ∧ (D.gt (D.ilen (D.get m
    (D.nat x) (D.nil Int))) n = false → inR IntKind.i64 (D.add x (1 : Int)) ∧ ∃ y, fewTo m n y ∧ (m = m ∧ n = n ∧ D.add x (1 : Int) = y ∧ m = m ∧ D.ilen m = D.ilen
    m ∧ n = n ∧ D.gt (D.ilen m) n = D.gt (D.ilen m) n ∧ True) ∧ D.nlt (D.nat (D.sub (D.ilen m) y)) (D.nat (D.sub (D.ilen m) x)))) ∧ (D.lt x (D.ilen m) = false →
    true = fewF m n ∧ True)))) :
    evF c7 (fewA m n) 12 [.dat M m, .dat I n] ⟨fewP n, .dat .bool (fewF m n)⟩ := of_eq (by kernel_rfl) h

theorem s_few (m : List (List Int)) (n : Int) : SoundC Try.prog 12 [.dat M m, .dat I n] ⟨fewP n, .dat .bool (fewF m n)⟩ := by
  refine sound_of_ev (c := c7) KS7 hm (vc_few m n ⟨rfl, rfl, fun hp => ⟨fun h => ⟨?_, trivial⟩, fun h => ?_⟩⟩)
  · have : (m.length : Int) > n := by simpa [D.gt, D.ilen] using h
    simp only [fewF, this, decide_true]; rfl
  · have hl : ¬ (m.length : Int) > n := by simpa [D.gt, D.ilen] using h
    simp only [eq_self, true_and, and_true, imp_self]
    refine ⟨⟨0, ⟨by omega, by omega, by omega, by simp⟩, rfl⟩, fun x hx => ⟨fun hlt => ?_, fun hge => ?_⟩⟩
    · have hlt : x < m.length := by simpa using hlt
      obtain ⟨g0, g1, g3, g2⟩ := hx
      have hmem : m.getD x.toNat [] ∈ m := by
        rw [List.getD_eq_getElem?_getD, List.getElem?_eq_getElem (show x.toNat < m.length by omega)]
        exact List.getElem_mem _
      refine ⟨g0, hlt, fun hne => ?_, fun heq => ⟨?_, x + 1, ⟨by omega, by omega, g3, ?_⟩, rfl, ?_⟩⟩
      · have : m.any (longer n) = true := List.any_eq_true.2 ⟨_, hmem, hne⟩
        simp [fewF, this]
      · unfold fewP at hp; simp only [inR, D.add]; omega
      · rw [show (x + 1).toNat = x.toNat + 1 by omega, take_succ_getD m [] _ (by omega), List.any_append, g2]
        have : longer n (m.getD x.toNat []) = false := heq
        rw [List.any_cons, this]; rfl
      · simp only [D.nlt, D.nat, D.sub, D.ilen]; omega
    · have hge : ¬ x < m.length := by simpa using hge
      obtain ⟨g0, g1, g3, g2⟩ := hx
      rw [List.take_of_length_le (by omega)] at g2
      simp only [fewF, g2, hl, decide_false]; rfl

noncomputable def K8 : Kt := fun f args => match f, args with
  | 39, [.dat (.int .i64) x] => some ⟨True, .dat .bool (elemF x)⟩
  | 42, [.dat (.int .i64) x, .dat (.int .i64) y] => some ⟨True, .dat I (plusF x y)⟩
  | 30, [.dat (.int .i64) x, .dat (.int .i64) y] => some ⟨timesP x y, .dat I (timesF x y)⟩
  | 23, [.dat (.sl (.int .i64)) a, .dat (.sl (.int .i64)) b] => some ⟨lenOk a, .dat .bool (intsF a b)⟩
  | 12, [.dat (.sl (.sl (.int .i64))) m, .dat (.int .i64) n] => some ⟨fewP n, .dat .bool (fewF m n)⟩
  | _, _ => K7 f args
noncomputable def c8 : Cfg := ⟨Try.prog, K8, fun _ => false⟩

noncomputable def sameA (a b : List (List Int)) : Ann := ⟨fun id s => match id with
  | 4 => some { α := Int, inv := fun k => sameTo a b k, st := fun k => put s [(5, .dat I k)], μ := fun k => D.nat (D.sub (D.ilen a) k) }
  | _ => none, fun _ _ => none, fun _ _ => none⟩
noncomputable def rvalidA (m : List (List Int)) : Ann := ⟨fun id s => match id with
  | 4 => some { α := Int, inv := fun k => okTo m k, st := fun k => put s [(3, .dat I k)], μ := fun k => D.nat (D.sub (D.ilen m) k) }
  | 9 => match s.sig.T 3 with
    | .dat (.int .i64) i => some { α := Int, inv := fun k => rowTo m i k, st := fun k => put s [(4, .dat I k)], μ := fun k => D.nat (D.sub (D.ilen m) k) }
    | _ => none
  | _ => none, fun _ _ => none, fun _ _ => none⟩
noncomputable def cleanA (m : List (List Int)) : Ann := ⟨fun id s => match id with
  | 3 => some { α := Int, inv := fun k => kTo k (D.ilen m), st := fun k => putM (put s [(4, .dat I k), (3, .buf 0 (D.len (cleanTo m k)))]) 0 (.buf 23 R (cleanTo m k) []), μ := fun k => D.nat (D.sub (D.ilen m) k) }
  | 7 => match s.sig.T 4 with
    | .dat (.int .i64) i => some { α := Int, inv := fun k => kTo k (D.ilen (D.get m (D.nat i) [])), st := fun k => putM (put s [(6, .dat I k), (5, .buf 1 (D.len (cleanRTo m i k)))]) 1 (.buf 3 I (cleanRTo m i k) []), μ := fun k => D.nat (D.sub (D.ilen (D.get m (D.nat i) [])) k) }
    | _ => none
  | _ => none, fun id s => match id with
  | 10 => some (frz [1] s)
  | _ => none, fun _ _ => none⟩
noncomputable def belowA (a b : List (List Int)) : Ann := ⟨fun id s => match id with
  | 4 => some { α := Int, inv := fun k => belowTo a b k, st := fun k => put s [(5, .dat I k)], μ := fun k => D.nat (D.sub (D.ilen a) k) }
  | 9 => match s.sig.T 5 with
    | .dat (.int .i64) i => some { α := Int, inv := fun k => belowRTo a b i k, st := fun k => put s [(6, .dat I k)], μ := fun k => D.nat (D.sub (D.ilen (D.get a (D.nat i) [])) k) }
    | _ => none
  | _ => none, fun _ _ => none, fun _ _ => none⟩

theorem vc_same (a b : List (List Int)) (h :
     true = true ∧ true = true ∧ (lensOk a → (D.ne (D.ilen a) (D.ilen b) = true → false = sameF a b ∧ True) ∧ (D.ne (D.ilen a) (D.ilen b) = false → (∃ x,
    sameTo a b x ∧ a = a ∧ b = b ∧ (0 : Int) = x ∧ a = a ∧ D.ilen a = D.ilen a ∧ b = b ∧ D.ilen b = D.ilen b ∧ D.ne (D.ilen a) (D.ilen b) = D.ne (D.ilen a) (D.ilen
    b) ∧ True) ∧ ∀ (x : Int), sameTo a b x → (D.lt x (D.ilen a) = true → D.ile (0 : Int) x ∧ D.ilt x (D.ilen a) ∧ D.ile (0 : Int) x ∧ D.ilt x (D.ilen b) ∧ lenOk
    (D.get a (D.nat x) (D.nil Int)) ∧ (D.not (intsF (D.get a (D.nat x) (D.nil Int)) (D.get b (D.nat x) (D.nil Int))) = true → false = sameF a b ∧ True) ∧ (D.not
    (intsF (D.get a (D.nat x) (D.nil Int)) (D.get b (D.nat x) (D.nil Int))) = false → inR IntKind.i64 (D.add x (1 : Int)) ∧ ∃ y, sameTo a b y ∧ (a = a ∧ b = b ∧
    D.add x (1 : Int) = y ∧ a = a ∧ D.ilen a = D.ilen a ∧ b = b ∧ D.ilen b = D.ilen b ∧ D.ne (D.ilen a) (D.ilen b) = D.ne (D.ilen a) (D.ilen b) ∧ True) ∧ D.nlt
    (D.nat (D.sub (D.ilen a) y)) (D.nat (D.sub (D.ilen a) x)))) ∧ (D.lt x (D.ilen a) = false → true = sameF a b ∧ True)))) :
    evF c8 (sameA a b) 16 [.dat M a, .dat M b] ⟨lensOk a, .dat .bool (sameF a b)⟩ := of_eq (by kernel_rfl) h

theorem KS8 : KSound Try.prog K8 := by
  intro f args c h
  unfold K8 at h
  split at h
  · cases h; exact s_relem _
  · cases h; exact s_rplus _ _
  · cases h; exact s_rtimes _ _
  · cases h; exact s_ints _ _
  · cases h; exact s_few _ _
  · exact KS7 _ _ _ h
theorem s_same (a b : List (List Int)) : SoundC Try.prog 16 [.dat M a, .dat M b] ⟨lensOk a, .dat .bool (sameF a b)⟩ := by
  refine sound_of_ev (c := c8) KS8 hm (vc_same a b ⟨rfl, rfl, fun hp => ⟨fun h => ⟨?_, trivial⟩, fun h => ?_⟩⟩)
  · have : (a.length : Int) ≠ b.length := by simpa [D.ne, D.ilen] using h
    have : a ≠ b := fun e => this (by rw [e])
    simp [sameF, this]
  · have hl : (a.length : Int) = b.length := by simpa [D.ne, D.ilen] using h
    have hl : a.length = b.length := by omega
    simp only [eq_self, true_and, and_true, imp_self]
    refine ⟨⟨0, ⟨by omega, by omega, hl, by simp⟩, rfl⟩, fun x hx => ⟨fun hlt => ?_, fun hge => ?_⟩⟩
    · have hlt : x < a.length := by simpa using hlt
      obtain ⟨g0, g1, _, g2⟩ := hx
      refine ⟨g0, hlt, g0, by simp only [D.ilt, D.ilen]; omega, ?_, fun hne => ?_, fun heq => ⟨?_, x + 1, ⟨by omega, by omega, hl, ?_⟩, rfl, ?_⟩⟩
      · refine hp.2 _ ?_
        show a.getD x.toNat [] ∈ a
        rw [List.getD_eq_getElem?_getD, List.getElem?_eq_getElem (show x.toNat < a.length by omega)]
        exact List.getElem_mem _
      · have : a ≠ b := by rintro rfl; simp [intsF] at hne
        simp [sameF, this]
      · have := hp.1; simp only [inR, D.add]; omega
      · rw [show (x + 1).toNat = x.toNat + 1 by omega, take_succ_getD a [] _ (by omega), take_succ_getD b [] _ (by omega), g2]
        have : a.getD x.toNat [] = b.getD x.toNat [] := by
          have : intsF (a.getD x.toNat []) (b.getD x.toNat []) = true := by simpa only [D.not, Bool.not_eq_false'] using heq
          exact of_decide_eq_true this
        rw [this]
      · simp only [D.nlt, D.nat, D.sub, D.ilen]; omega
    · have hge : ¬ x < a.length := by simpa using hge
      obtain ⟨g0, g1, _, g2⟩ := hx
      rw [List.take_of_length_le (by omega), List.take_of_length_le (by omega)] at g2
      simp [sameF, g2]
theorem vc_rvalid (m : List (List Int)) (h :
     true = true ∧ true = true ∧ (True → (D.gt (D.ilen m) (40 : Int) = true → false = validF m ∧ True) ∧ (D.gt (D.ilen m) (40 : Int) = false → (∃ x, okTo m x
    ∧ m = m ∧ (0 : Int) = x ∧ m = m ∧ D.ilen m = D.ilen m ∧ D.gt (D.ilen m) (40 : Int) = D.gt (D.ilen m) (40 : Int) ∧ True) ∧ ∀ (x : Int), okTo m x → (D.lt x
    (D.ilen m) = true → D.ile (0 : Int) x ∧ D.ilt x (D.ilen m) ∧ (D.ne (D.ilen (D.get m (D.nat x) (D.nil Int))) (D.ilen m) = true → false = validF m ∧ True) ∧ (D.ne
    (D.ilen (D.get m (D.nat x) (D.nil Int))) (D.ilen m) = false → (∃ x_4, rowTo m x x_4 ∧ m = m ∧ x = x ∧ (0 : Int) = x_4 ∧ m = m ∧ D.ilen m = D.ilen m ∧ D.gt
    (D.ilen m) (40 : Int) = D.gt (D.ilen m) (40 : Int) ∧ x = x ∧ m = m ∧ D.ilen m = D.ilen m ∧ D.lt x (D.ilen m) = D.lt x (D.ilen m) ∧ m = m ∧ x = x ∧ D.get m
    (D.nat x) (D.nil Int) = D.get m (D.nat x) (D.nil Int) ∧ D.get m (D.nat x) (D.nil Int) = D.get m (D.nat x) (D.nil Int) ∧ D.ilen (D.get m (D.nat x) (D.nil Int)) =
    D.ilen (D.get m (D.nat x) (D.nil Int)) ∧ m = m ∧ D.ilen m = D.ilen m ∧ D.ne (D.ilen (D.get m (D.nat x) (D.nil Int))) (D.ilen m) = D.ne (D.ilen (D.get m (D.nat
    x) (D.nil Int))) (D.ilen m) ∧ True) ∧ ∀ (x_4 : Int), rowTo m x x_4 → D.ile (0 : Int) x ∧ D.ilt x (D.ilen m) ∧ (D.lt x_4 (D.ilen (D.get m (D.nat x) (D.nil Int)))
    = true → D.ile (0 : Int) x ∧ D.ilt x (D.ilen m) ∧ D.ile (0 : Int) x_4 ∧ D.ilt x_4 (D.ilen (D.get m (D.nat x) (D.nil Int))) ∧ True ∧ (D.not (elemF (D.get (D.get
    m (D.nat x) (D.nil Int)) (D.nat x_4) (0 : Int))) = true → false = validF m ∧ True) ∧ (D.not (elemF (D.get (D.get m (D.nat x) (D.nil Int)) (D.nat x_4) (0 :
    Int))) = false → inR IntKind.i64 (D.add x_4 (1 : Int)) ∧ ∃ y, rowTo m x y ∧ (m = m ∧ x = x ∧ D.add x_4 (1 : Int) = y ∧ m = m ∧ D.ilen m = D.ilen m ∧ D.gt
    (D.ilen m) (40 : Int) = D.gt (D.ilen m) (40 : Int) ∧ x = x ∧ m = m ∧ D.ilen m = D.ilen m ∧ D.lt x (D.ilen m) = D.lt x (D.ilen m) ∧ m = m ∧ x = x ∧ D.get m
    (D.nat x) (D.nil Int) = D.get m (D.nat x) (D.nil Int) ∧ D.get m (D.nat x) (D.nil Int) = D.get m (D.nat x) (D.nil Int) ∧ D.ilen (D.get m (D.nat x) (D.nil Int)) =
    D.ilen (D.get m (D.nat x) (D.nil Int)) ∧ m = m ∧ D.ilen m = D.ilen m ∧ D.ne (D.ilen (D.get m (D.nat x) (D.nil Int))) (D.ilen m) = D.ne (D.ilen (D.get m (D.nat
    x) (D.nil Int))) (D.ilen m) ∧ True) ∧ D.nlt (D.nat (D.sub (D.ilen m) y)) (D.nat (D.sub (D.ilen m) x_4)))) ∧ (D.lt x_4 (D.ilen (D.get m (D.nat x) (D.nil Int))) =
    false → inR IntKind.i64 (D.add x (1 : Int)) ∧ ∃ y, okTo m y ∧ (m = m ∧ D.add x (1 : Int) = y ∧ m = m ∧ D.ilen m = D.ilen m ∧ D.gt (D.ilen m) (40 : Int) = D.gt
    (D.ilen m) (40 : Int) ∧ True) ∧ D.nlt (D.nat (D.sub (D.ilen m) y)) (D.nat (D.sub (D.ilen m) x))))) ∧ (D.lt x (D.ilen m) = false → true = validF m ∧ True)))) :
    evF c8 (rvalidA m) 18 [.dat M m] ⟨True, .dat .bool (validF m)⟩ := of_eq (by kernel_rfl) h

theorem at2_eq (m : List (List Int)) (i j : Int) : D.get (D.get m (D.nat i) []) (D.nat j) 0 = at2 m i j := rfl
theorem row_wrong {m : List (List Int)} {x k : Int} (h : rowTo m x k) (hk : ¬ k < (m.getD x.toNat []).length) : rowBad m (m.getD x.toNat []) = false := by
  obtain ⟨g0, g1, g2, g3⟩ := h
  have : wrongF (m.getD x.toNat []) = false := wrongF_false.2 fun j h0 hj => g3 j h0 (by omega)
  unfold rowBad
  rw [this]
  simp only [g2, ne_eq, not_true_eq_false, decide_false]; rfl
theorem s_rvalid (m : List (List Int)) : SoundC Try.prog 18 [.dat M m] ⟨True, .dat .bool (validF m)⟩ := by
  refine sound_of_ev (c := c8) KS8 hm (vc_rvalid m ⟨rfl, rfl, fun _ => ⟨fun h => ⟨?_, trivial⟩, fun h => ?_⟩⟩)
  · have : (m.length : Int) > 40 := by simpa using h
    simp only [validF, this, decide_true]; rfl
  · simp only [eq_self, true_and, and_true, imp_self]
    refine ⟨⟨0, okTo_zero (by simpa using h), rfl⟩, fun x hx => ⟨fun hlt => ?_, fun hge => ?_⟩⟩
    · have hlt : x < m.length := by simpa using hlt
      have g0 := hx.1
      refine ⟨g0, hlt, fun hne => ?_, fun heq => ⟨⟨0, ⟨by omega, by omega, by simpa [D.ne, D.ilen] using heq, fun j h0 hj => by omega⟩, rfl⟩, fun y hy => ⟨g0, hlt, fun hlt2 => ⟨g0, hlt, hy.1, hlt2 |> of_decide_eq_true, fun hb => ?_, fun hb => ⟨?_, y + 1, ⟨?_, ?_, hy.2.2.1, fun j h0 hj => ?_⟩, rfl, ?_⟩⟩, fun hge => ⟨?_, x + 1, ?_, rfl, ?_⟩⟩⟩⟩
      · have : rowBad m (m.getD x.toNat []) = true := by
          have : ((m.getD x.toNat []).length : Int) ≠ m.length := by simpa [D.ne, D.ilen] using hne
          unfold rowBad; simp only [this, ne_eq, not_false_eq_true, decide_true]; rfl
        exact (validF_bad hx hlt this).symm
      · have hlt2 : y < (m.getD x.toNat []).length := of_decide_eq_true hlt2
        have hb : elemF (at1 (m.getD x.toNat []) y) = false := by simpa [at1] using hb
        have : wrongF (m.getD x.toNat []) = true := by
          cases hw : wrongF (m.getD x.toNat []) with
          | true => rfl
          | false => rw [wrongF_false.1 hw y hy.1 hlt2] at hb; cases hb
        have : rowBad m (m.getD x.toNat []) = true := by unfold rowBad; rw [this]; simp
        exact (validF_bad hx hlt this).symm
      · have := hy.2.1; have := hy.2.2.1; have := hx.2.2.1; have := hy.1; simp only [inR, D.add]; omega
      · have := hy.1; omega
      · have hlt2 : y < (m.getD x.toNat []).length := of_decide_eq_true hlt2
        omega
      · by_cases e : j < y
        · exact hy.2.2.2 j h0 e
        · have : j = y := by omega
          subst this
          have hb : elemF (at2 m x j) = true := by simpa [at2] using hb
          exact hb
      · have hlt2 : y < (m.getD x.toNat []).length := of_decide_eq_true hlt2
        have := hy.2.2.1; have := hy.1
        simp only [D.nlt, D.nat, D.sub, D.ilen]; omega
      · have := hx.2.2.1; simp only [inR, D.add]; omega
      · exact okTo_succ hx hlt (row_wrong hy (by simpa using hge))
      · simp only [D.nlt, D.nat, D.sub, D.ilen]; omega
    · exact (validF_end hx (by simpa using hge)).symm
theorem vc_clean (m : List (List Int)) (h :
     true = true ∧ true = true ∧ (cleanP m → (∃ x, kTo x (D.ilen m) ∧ m = m ∧ Value.slice none (0) (0) = Value.slice none (0) (0) ∧ D.len (cleanTo m x) = 0 ∧
    cleanTo m x = D.nil (List Int) ∧ (0 : Int) = x ∧ cleanTo m x = D.nil (List Int) ∧ True) ∧ ∀ (x : Int), kTo x (D.ilen m) → (D.lt x (D.ilen m) = true → (∃ x_3,
    kTo x_3 (D.ilen (D.get m (D.nat x) (D.nil Int))) ∧ m = m ∧ Value.slice none (0) (0) = Value.slice none (0) (0) ∧ D.len (cleanTo m x) = D.len (cleanTo m x) ∧ x =
    x ∧ D.len (cleanRTo m x x_3) = 0 ∧ cleanRTo m x x_3 = D.nil Int ∧ (0 : Int) = x_3 ∧ x = x ∧ m = m ∧ D.ilen m = D.ilen m ∧ D.lt x (D.ilen m) = D.lt x (D.ilen m)
    ∧ cleanTo m x = cleanTo m x ∧ cleanRTo m x x_3 = D.nil Int ∧ True) ∧ ∀ (x_3 : Int), kTo x_3 (D.ilen (D.get m (D.nat x) (D.nil Int))) → D.ile (0 : Int) x ∧ D.ilt
    x (D.ilen m) ∧ (D.lt x_3 (D.ilen (D.get m (D.nat x) (D.nil Int))) = true → D.ile (0 : Int) x ∧ D.ilt x (D.ilen m) ∧ D.ile (0 : Int) x_3 ∧ D.ilt x_3 (D.ilen
    (D.get m (D.nat x) (D.nil Int))) ∧ True ∧ D.len (cleanRTo m x x_3) = D.len (cleanRTo m x x_3) ∧ D.nle (D.nmul (D.nadd (D.len (cleanRTo m x x_3)) (D.len [plusF
    (D.get (D.get m (D.nat x) (D.nil Int)) (D.nat x_3) (0 : Int)) (-1099511627776 : Int)])) (8)) (140737488355328) ∧ D.nle (D.nadd (D.len (cleanRTo m x x_3)) (D.len
    [plusF (D.get (D.get m (D.nat x) (D.nil Int)) (D.nat x_3) (0 : Int)) (-1099511627776 : Int)])) (9223372036854775807) ∧ inR IntKind.i64 (D.add x_3 (1 : Int)) ∧ ∃
    y, kTo y (D.ilen (D.get m (D.nat x) (D.nil Int))) ∧ (m = m ∧ Value.slice none (0) (0) = Value.slice none (0) (0) ∧ D.len (cleanTo m x) = D.len (cleanTo m x) ∧ x
    = x ∧ D.nadd (D.len (cleanRTo m x x_3)) (D.len [plusF (D.get (D.get m (D.nat x) (D.nil Int)) (D.nat x_3) (0 : Int)) (-1099511627776 : Int)]) = D.len (cleanRTo m
    x y) ∧ D.add x_3 (1 : Int) = y ∧ x = x ∧ m = m ∧ D.ilen m = D.ilen m ∧ D.lt x (D.ilen m) = D.lt x (D.ilen m) ∧ cleanTo m x = cleanTo m x ∧ D.app (cleanRTo m x
    x_3) [plusF (D.get (D.get m (D.nat x) (D.nil Int)) (D.nat x_3) (0 : Int)) (-1099511627776 : Int)] = cleanRTo m x y ∧ True) ∧ D.nlt (D.nat (D.sub (D.ilen (D.get
    m (D.nat x) (D.nil Int))) y)) (D.nat (D.sub (D.ilen (D.get m (D.nat x) (D.nil Int))) x_3))) ∧ (D.lt x_3 (D.ilen (D.get m (D.nat x) (D.nil Int))) = false → m = m
    ∧ Value.slice none (0) (0) = Value.slice none (0) (0) ∧ D.len (cleanTo m x) = D.len (cleanTo m x) ∧ x = x ∧ D.len (cleanRTo m x x_3) = D.len (cleanRTo m x x_3)
    ∧ cleanRTo m x x_3 = cleanRTo m x x_3 ∧ x_3 = x_3 ∧ x = x ∧ m = m ∧ D.ilen m = D.ilen m ∧ D.lt x (D.ilen m) = D.lt x (D.ilen m) ∧ x_3 = x_3 ∧ m = m ∧ x = x ∧
    D.get m (D.nat x) (D.nil Int) = D.get m (D.nat x) (D.nil Int) ∧ D.get m (D.nat x) (D.nil Int) = D.get m (D.nat x) (D.nil Int) ∧ D.ilen (D.get m (D.nat x) (D.nil
    Int)) = D.ilen (D.get m (D.nat x) (D.nil Int)) ∧ D.lt x_3 (D.ilen (D.get m (D.nat x) (D.nil Int))) = D.lt x_3 (D.ilen (D.get m (D.nat x) (D.nil Int))) ∧ cleanTo
    m x = cleanTo m x ∧ D.len (cleanTo m x) = D.len (cleanTo m x) ∧ D.nle (D.nmul (D.nadd (D.len (cleanTo m x)) (D.len [cleanRTo m x x_3])) (24)) (140737488355328)
    ∧ D.nle (D.nadd (D.len (cleanTo m x)) (D.len [cleanRTo m x x_3])) (9223372036854775807) ∧ inR IntKind.i64 (D.add x (1 : Int)) ∧ ∃ y, kTo y (D.ilen m) ∧ (m = m ∧
    Value.slice none (0) (0) = Value.slice none (0) (0) ∧ D.nadd (D.len (cleanTo m x)) (D.len [cleanRTo m x x_3]) = D.len (cleanTo m y) ∧ D.add x (1 : Int) = y ∧
    D.app (cleanTo m x) [cleanRTo m x x_3] = cleanTo m y ∧ True) ∧ D.nlt (D.nat (D.sub (D.ilen m) y)) (D.nat (D.sub (D.ilen m) x)))) ∧ (D.lt x (D.ilen m) = false →
    D.len (cleanTo m x) = D.len (cleanTo m x) ∧ cleanTo m x = cleanF m ∧ True))) :
    evF c8 (cleanA m) 27 [.dat M m] ⟨cleanP m, .dat M (cleanF m)⟩ := of_eq (by kernel_rfl) h

theorem cleanTo_len {m : List (List Int)} {k : Int} (h : kTo k m.length) : (cleanTo m k).length = k.toNat := by
  have := h.1; have := h.2
  simp only [cleanTo, cleanF, List.length_take, List.length_map]; omega
theorem cleanRTo_len {m : List (List Int)} {i k : Int} (h : kTo k (m.getD i.toNat []).length) : (cleanRTo m i k).length = k.toNat := by
  have := h.1; have := h.2
  simp only [cleanRTo, cleanR, List.length_take, List.length_map]; omega
theorem cleanTo_succ {m : List (List Int)} {k : Int} (h0 : 0 ≤ k) (hk : k < m.length) : cleanTo m (k + 1) = cleanTo m k ++ [cleanR (m.getD k.toNat [])] := by
  unfold cleanTo
  rw [show (k + 1).toNat = k.toNat + 1 by omega, take_succ_getD _ [] _ (by simp [cleanF]; omega)]
  congr 2
  simp only [cleanF, List.getD_eq_getElem?_getD, List.getElem?_map, List.getElem?_eq_getElem (show k.toNat < m.length by omega)]; rfl
theorem cleanRTo_succ {m : List (List Int)} {i k : Int} (h0 : 0 ≤ k) (hk : k < (m.getD i.toNat []).length) : cleanRTo m i (k + 1) = cleanRTo m i k ++ [plusF (at2 m i k) (-1099511627776)] := by
  unfold cleanRTo
  rw [show (k + 1).toNat = k.toNat + 1 by omega, take_succ_getD _ 0 _ (by simp only [cleanR, List.length_map]; omega)]
  congr 2
  unfold at2
  generalize m.getD i.toNat [] = row at *
  simp only [cleanR, List.getD_eq_getElem?_getD, List.getElem?_map, List.getElem?_eq_getElem (show k.toNat < row.length by omega)]; rfl
theorem s_clean (m : List (List Int)) : SoundC Try.prog 27 [.dat M m] ⟨cleanP m, .dat M (cleanF m)⟩ := by
  refine sound_of_ev (c := c8) KS8 hm (vc_clean m ⟨rfl, rfl, fun hp => ?_⟩)
  simp only [eq_self, true_and, and_true, imp_self]
  refine ⟨⟨0, ⟨by omega, by simp only [D.ilen]; omega⟩, by simp [cleanTo], by simp [cleanTo], rfl, by simp [cleanTo]⟩, fun x hx => ⟨fun hlt => ?_, fun hge => ?_⟩⟩
  · have hlt : x < m.length := by simpa using hlt
    have g0 := hx.1
    have hrow : ((m.getD x.toNat []).length : Int) ≤ 1000000 := by
      refine hp.2 _ ?_
      rw [List.getD_eq_getElem?_getD, List.getElem?_eq_getElem (show x.toNat < m.length by omega)]
      exact List.getElem_mem _
    have hlen := hp.1
    refine ⟨⟨0, ⟨by omega, by simp only [D.ilen]; omega⟩, by simp [cleanRTo], by simp [cleanRTo], rfl, by simp [cleanRTo]⟩, fun y hy => ⟨g0, hlt, fun hlt2 => ?_, fun hge => ?_⟩⟩
    · have hlt2 : y < (m.getD x.toNat []).length := by simpa using hlt2
      have h1 := hy.1
      have hy1 := cleanRTo_len (m := m) (i := x) (k := y) hy
      have hy2 : kTo (y + 1) (m.getD x.toNat []).length := ⟨by omega, by omega⟩
      have hs := cleanRTo_succ (m := m) (i := x) h1 hlt2
      refine ⟨g0, hlt, h1, hlt2, ?_, ?_, by simp only [inR, D.add]; omega, y + 1, hy2, ⟨?_, rfl, ?_⟩, ?_⟩
      · simp only [D.nle, D.nmul, D.nadd, D.len, hy1, List.length_singleton]; omega
      · simp only [D.nle, D.nadd, D.len, hy1, List.length_singleton]; omega
      · simp only [D.nadd, D.len, hy1, cleanRTo_len hy2, List.length_singleton]; omega
      · exact hs.symm
      · simp only [D.nlt, D.nat, D.sub, D.ilen, D.get, D.nil]; omega
    · have hge : ¬ y < (m.getD x.toNat []).length := by simpa using hge
      have hx1 := cleanTo_len (m := m) (k := x) hx
      have hx2 : kTo (x + 1) m.length := ⟨by omega, by omega⟩
      have hr : cleanRTo m x y = cleanR (m.getD x.toNat []) := by
        unfold cleanRTo
        rw [List.take_of_length_le]
        have := hy.1
        simp only [cleanR, List.length_map]; omega
      refine ⟨?_, ?_, by simp only [inR, D.add]; omega, x + 1, hx2, ⟨?_, rfl, ?_⟩, ?_⟩
      · simp only [D.nle, D.nmul, D.nadd, D.len, hx1, List.length_singleton]; omega
      · simp only [D.nle, D.nadd, D.len, hx1, List.length_singleton]; omega
      · simp only [D.nadd, D.len, hx1, cleanTo_len hx2, List.length_singleton]; omega
      · rw [hr]; exact (cleanTo_succ g0 hlt).symm
      · simp only [D.nlt, D.nat, D.sub, D.ilen]; omega
  · have hge : ¬ x < m.length := by simpa using hge
    unfold cleanTo
    rw [List.take_of_length_le]
    have := hx.1
    simp only [cleanF, List.length_map]; omega
theorem vc_below (a b : List (List Int)) (h :
     true = true ∧ true = true ∧ (lensOk a → (D.ne (D.ilen a) (D.ilen b) = true → false = belowF a b ∧ True) ∧ (D.ne (D.ilen a) (D.ilen b) = false → (∃ x,
    belowTo a b x ∧ a = a ∧ b = b ∧ (0 : Int) = x ∧ a = a ∧ D.ilen a = D.ilen a ∧ b = b ∧ D.ilen b = D.ilen b ∧ D.ne (D.ilen a) (D.ilen b) = D.ne (D.ilen a) (D.ilen
    b) ∧ True) ∧ ∀ (x : Int), belowTo a b x → (D.lt x (D.ilen a) = true → D.ile (0 : Int) x ∧ D.ilt x (D.ilen a) ∧ D.ile (0 : Int) x ∧ D.ilt x (D.ilen b) ∧ (D.ne
    (D.ilen (D.get a (D.nat x) (D.nil Int))) (D.ilen (D.get b (D.nat x) (D.nil Int))) = true → false = belowF a b ∧ True) ∧ (D.ne (D.ilen (D.get a (D.nat x) (D.nil
    Int))) (D.ilen (D.get b (D.nat x) (D.nil Int))) = false → (∃ x_4, belowRTo a b x x_4 ∧ a = a ∧ b = b ∧ x = x ∧ (0 : Int) = x_4 ∧ a = a ∧ D.ilen a = D.ilen a ∧ b
    = b ∧ D.ilen b = D.ilen b ∧ D.ne (D.ilen a) (D.ilen b) = D.ne (D.ilen a) (D.ilen b) ∧ x = x ∧ a = a ∧ D.ilen a = D.ilen a ∧ D.lt x (D.ilen a) = D.lt x (D.ilen
    a) ∧ a = a ∧ x = x ∧ D.get a (D.nat x) (D.nil Int) = D.get a (D.nat x) (D.nil Int) ∧ D.get a (D.nat x) (D.nil Int) = D.get a (D.nat x) (D.nil Int) ∧ D.ilen
    (D.get a (D.nat x) (D.nil Int)) = D.ilen (D.get a (D.nat x) (D.nil Int)) ∧ b = b ∧ x = x ∧ D.get b (D.nat x) (D.nil Int) = D.get b (D.nat x) (D.nil Int) ∧ D.get
    b (D.nat x) (D.nil Int) = D.get b (D.nat x) (D.nil Int) ∧ D.ilen (D.get b (D.nat x) (D.nil Int)) = D.ilen (D.get b (D.nat x) (D.nil Int)) ∧ D.ne (D.ilen (D.get
    a (D.nat x) (D.nil Int))) (D.ilen (D.get b (D.nat x) (D.nil Int))) = D.ne (D.ilen (D.get a (D.nat x) (D.nil Int))) (D.ilen (D.get b (D.nat x) (D.nil Int))) ∧
    True) ∧ ∀ (x_4 : Int), belowRTo a b x x_4 → D.ile (0 : Int) x ∧ D.ilt x (D.ilen a) ∧ (D.lt x_4 (D.ilen (D.get a (D.nat x) (D.nil Int))) = true → D.ile (0 : Int)
    x ∧ D.ilt x (D.ilen a) ∧ D.ile (0 : Int) x_4 ∧ D.ilt x_4 (D.ilen (D.get a (D.nat x) (D.nil Int))) ∧ True ∧ (D.not (infF (D.get (D.get a (D.nat x) (D.nil Int))
    (D.nat x_4) (0 : Int))) = true → D.not (infF (D.get (D.get a (D.nat x) (D.nil Int)) (D.nat x_4) (0 : Int))) = true → D.not (infF (D.get (D.get a (D.nat x)
    (D.nil Int)) (D.nat x_4) (0 : Int))) = true) ∧ (D.not (infF (D.get (D.get a (D.nat x) (D.nil Int)) (D.nat x_4) (0 : Int))) = true → D.not (infF (D.get (D.get a
    (D.nat x) (D.nil Int)) (D.nat x_4) (0 : Int))) = true → D.not (infF (D.get (D.get a (D.nat x) (D.nil Int)) (D.nat x_4) (0 : Int))) = true) ∧ (D.not (infF (D.get
    (D.get a (D.nat x) (D.nil Int)) (D.nat x_4) (0 : Int))) = true → D.ile (0 : Int) x) ∧ (D.not (infF (D.get (D.get a (D.nat x) (D.nil Int)) (D.nat x_4) (0 :
    Int))) = true → D.ilt x (D.ilen a)) ∧ (D.not (infF (D.get (D.get a (D.nat x) (D.nil Int)) (D.nat x_4) (0 : Int))) = true → D.not (infF (D.get (D.get a (D.nat x)
    (D.nil Int)) (D.nat x_4) (0 : Int))) = true → D.not (infF (D.get (D.get a (D.nat x) (D.nil Int)) (D.nat x_4) (0 : Int))) = true) ∧ (D.not (infF (D.get (D.get a
    (D.nat x) (D.nil Int)) (D.nat x_4) (0 : Int))) = true → D.not (infF (D.get (D.get a (D.nat x) (D.nil Int)) (D.nat x_4) (0 : Int))) = true → D.not (infF (D.get
    (D.get a (D.nat x) (D.nil Int)) (D.nat x_4) (0 : Int))) = true) ∧ (D.not (infF (D.get (D.get a (D.nat x) (D.nil Int)) (D.nat x_4) (0 : Int))) = true → D.not
    (infF (D.get (D.get a (D.nat x) (D.nil Int)) (D.nat x_4) (0 : Int))) = true → D.not (infF (D.get (D.get a (D.nat x) (D.nil Int)) (D.nat x_4) (0 : Int))) = true)
    ∧ (D.not (infF (D.get (D.get a (D.nat x) (D.nil Int)) (D.nat x_4) (0 : Int))) = true → D.ile (0 : Int) x_4) ∧ (D.not (infF (D.get (D.get a (D.nat x) (D.nil
    Int)) (D.nat x_4) (0 : Int))) = true → D.ilt x_4 (D.ilen (D.get a (D.nat x) (D.nil Int)))) ∧ (D.not (infF (D.get (D.get a (D.nat x) (D.nil Int)) (D.nat x_4) (0
    : Int))) = true → D.not (infF (D.get (D.get a (D.nat x) (D.nil Int)) (D.nat x_4) (0 : Int))) = true → D.not (infF (D.get (D.get a (D.nat x) (D.nil Int)) (D.nat
    x_4) (0 : Int))) = true) ∧ (D.not (infF (D.get (D.get a (D.nat x) (D.nil Int)) (D.nat x_4) (0 : Int))) = true → D.not (infF (D.get (D.get a (D.nat x) (D.nil
    Int)) (D.nat x_4) (0 : Int))) = true → D.not (infF (D.get (D.get a (D.nat x) (D.nil Int)) (D.nat x_4) (0 : Int))) = true) ∧ (D.not (infF (D.get (D.get a (D.nat
    x) (D.nil Int)) (D.nat x_4) (0 : Int))) = true → D.not (infF (D.get (D.get a (D.nat x) (D.nil Int)) (D.nat x_4) (0 : Int))) = true → D.not (infF (D.get (D.get a
    (D.nat x) (D.nil Int)) (D.nat x_4) (0 : Int))) = true) ∧ (D.not (infF (D.get (D.get a (D.nat x) (D.nil Int)) (D.nat x_4) (0 : Int))) = true → D.ile (0 : Int) x)
    ∧ (D.not (infF (D.get (D.get a (D.nat x) (D.nil Int)) (D.nat x_4) (0 : Int))) = true → D.ilt x (D.ilen b)) ∧ (D.not (infF (D.get (D.get a (D.nat x) (D.nil Int))
    (D.nat x_4) (0 : Int))) = true → D.not (infF (D.get (D.get a (D.nat x) (D.nil Int)) (D.nat x_4) (0 : Int))) = true → D.not (infF (D.get (D.get a (D.nat x)
    (D.nil Int)) (D.nat x_4) (0 : Int))) = true) ∧ (D.not (infF (D.get (D.get a (D.nat x) (D.nil Int)) (D.nat x_4) (0 : Int))) = true → D.not (infF (D.get (D.get a
    (D.nat x) (D.nil Int)) (D.nat x_4) (0 : Int))) = true → D.not (infF (D.get (D.get a (D.nat x) (D.nil Int)) (D.nat x_4) (0 : Int))) = true) ∧ (D.not (infF (D.get
    (D.get a (D.nat x) (D.nil Int)) (D.nat x_4) (0 : Int))) = true → D.not (infF (D.get (D.get a (D.nat x) (D.nil Int)) (D.nat x_4) (0 : Int))) = true → D.not (infF
    (D.get (D.get a (D.nat x) (D.nil Int)) (D.nat x_4) (0 : Int))) = true) ∧ (D.not (infF (D.get (D.get a (D.nat x) (D.nil Int)) (D.nat x_4) (0 : Int))) = true →
    D.ile (0 : Int) x_4) ∧ (D.not (infF (D.get (D.get a (D.nat x) (D.nil Int)) (D.nat x_4) (0 : Int))) = true → D.ilt x_4 (D.ilen (D.get b (D.nat x) (D.nil Int))))
    ∧ (D.not (infF (D.get (D.get a (D.nat x) (D.nil Int)) (D.nat x_4) (0 : Int))) = true → D.not (infF (D.get (D.get a (D.nat x) (D.nil Int)) (D.nat x_4) (0 :
    Int))) = true → D.not (infF (D.get (D.get a (D.nat x) (D.nil Int)) (D.nat x_4) (0 : Int))) = true) ∧ (D.not (infF (D.get (D.get a (D.nat x) (D.nil Int)) (D.nat
    x_4) (0 : Int))) = true → D.not (infF (D.get (D.get a (D.nat x) (D.nil Int)) (D.nat x_4) (0 : Int))) = true → D.not (infF (D.get (D.get a (D.nat x) (D.nil Int))
    (D.nat x_4) (0 : Int))) = true) ∧ (D.not (infF (D.get (D.get a (D.nat x) (D.nil Int)) (D.nat x_4) (0 : Int))) = true → D.not (infF (D.get (D.get a (D.nat x)
    (D.nil Int)) (D.nat x_4) (0 : Int))) = true → D.not (infF (D.get (D.get a (D.nat x) (D.nil Int)) (D.nat x_4) (0 : Int))) = true) ∧ (D.and true (D.not (infF
    (D.get (D.get a (D.nat x) (D.nil Int)) (D.nat x_4) (0 : Int)))) = true → D.not (infF (D.get (D.get a (D.nat x) (D.nil Int)) (D.nat x_4) (0 : Int))) = true) ∧
    (D.cnd (D.not (infF (D.get (D.get a (D.nat x) (D.nil Int)) (D.nat x_4) (0 : Int)))) (D.gt (D.get (D.get a (D.nat x) (D.nil Int)) (D.nat x_4) (0 : Int)) (D.get
    (D.get b (D.nat x) (D.nil Int)) (D.nat x_4) (0 : Int))) false = true → false = belowF a b ∧ True) ∧ (D.cnd (D.not (infF (D.get (D.get a (D.nat x) (D.nil Int))
    (D.nat x_4) (0 : Int)))) (D.gt (D.get (D.get a (D.nat x) (D.nil Int)) (D.nat x_4) (0 : Int)) (D.get (D.get b (D.nat x) (D.nil Int)) (D.nat x_4) (0 : Int)))
    false = false → inR IntKind.i64 (D.add x_4 (1 : Int)) ∧ ∃ y, belowRTo a b x y ∧ (a = a ∧ b = b ∧ x = x ∧ D.add x_4 (1 : Int) = y ∧ a = a ∧ D.ilen a = D.ilen a ∧
    b = b ∧ D.ilen b = D.ilen b ∧ D.ne (D.ilen a) (D.ilen b) = D.ne (D.ilen a) (D.ilen b) ∧ x = x ∧ a = a ∧ D.ilen a = D.ilen a ∧ D.lt x (D.ilen a) = D.lt x (D.ilen
    a) ∧ a = a ∧ x = x ∧ D.get a (D.nat x) (D.nil Int) = D.get a (D.nat x) (D.nil Int) ∧ D.get a (D.nat x) (D.nil Int) = D.get a (D.nat x) (D.nil Int) ∧ D.ilen
    (D.get a (D.nat x) (D.nil Int)) = D.ilen (D.get a (D.nat x) (D.nil Int)) ∧ b = b ∧ x = x ∧ D.get b (D.nat x) (D.nil Int) = D.get b (D.nat x) (D.nil Int) ∧ D.get
    b (D.nat x) (D.nil Int) = D.get b (D.nat x) (D.nil Int) ∧ D.ilen (D.get b (D.nat x) (D.nil Int)) = D.ilen (D.get b (D.nat x) (D.nil Int)) ∧ D.ne (D.ilen (D.get
    a (D.nat x) (D.nil Int))) (D.ilen (D.get b (D.nat x) (D.nil Int))) = D.ne (D.ilen (D.get a (D.nat x) (D.nil Int))) (D.ilen (D.get b (D.nat x) (D.nil Int))) ∧
    True) ∧ D.nlt (D.nat (D.sub (D.ilen (D.get a (D.nat x) (D.nil Int))) y)) (D.nat (D.sub (D.ilen (D.get a (D.nat x) (D.nil Int))) x_4)))) ∧ (D.lt x_4 (D.ilen
    (D.get a (D.nat x) (D.nil Int))) = false → inR IntKind.i64 (D.add x (1 : Int)) ∧ ∃ y, belowTo a b y ∧ (a = a ∧ b = b ∧ D.add x (1 : Int) = y ∧ a = a ∧ D.ilen a
    = D.ilen a ∧ b = b ∧ D.ilen b = D.ilen b ∧ D.ne (D.ilen a) (D.ilen b) = D.ne (D.ilen a) (D.ilen b) ∧ True) ∧ D.nlt (D.nat (D.sub (D.ilen a) y)) (D.nat (D.sub
    (D.ilen a) x))))) ∧ (D.lt x (D.ilen a) = false → true = belowF a b ∧ True)))) :
    evF c8 (belowA a b) 28 [.dat M a, .dat M b] ⟨lensOk a, .dat .bool (belowF a b)⟩ := of_eq (by kernel_rfl) h

theorem getD_mem {α : Type} (xs : List α) (d : α) (k : Nat) (h : k < xs.length) : xs.getD k d ∈ xs := by
  rw [List.getD_eq_getElem?_getD, List.getElem?_eq_getElem h]; exact List.getElem_mem _
theorem rowBelow_iff {a b : List Int} : rowBelow a b = true ↔ a.length = b.length ∧ ∀ k : Nat, k < a.length → over (at1 a k) (at1 b k) = false := by
  unfold rowBelow
  simp [List.all_eq_true, List.mem_range]
theorem belowF_iff {a b : List (List Int)} : belowF a b = true ↔ a.length = b.length ∧ ∀ k : Nat, k < a.length → rowBelow (a.getD k []) (b.getD k []) = true := by
  unfold belowF
  simp [List.all_eq_true, List.mem_range]
theorem cnd_over (x y : Int) : D.cnd (D.not (infF x)) (D.gt x y) false = over x y := by
  unfold over; cases infF x <;> rfl
theorem belowF_bad {a b : List (List Int)} {x : Int} (h0 : 0 ≤ x) (hx : x < a.length) (hr : rowBelow (a.getD x.toNat []) (b.getD x.toNat []) = false) : belowF a b = false := by
  cases h : belowF a b with
  | false => rfl
  | true => rw [(belowF_iff.1 h).2 x.toNat (by omega)] at hr; cases hr
theorem s_below (a b : List (List Int)) : SoundC Try.prog 28 [.dat M a, .dat M b] ⟨lensOk a, .dat .bool (belowF a b)⟩ := by
  refine sound_of_ev (c := c8) KS8 hm (vc_below a b ⟨rfl, rfl, fun hp => ⟨fun h => ⟨?_, trivial⟩, fun h => ?_⟩⟩)
  · have : (a.length : Int) ≠ b.length := by simpa [D.ne, D.ilen] using h
    have : ¬ a.length = b.length := by omega
    simp [belowF, this]
  · have hl : (a.length : Int) = b.length := by simpa [D.ne, D.ilen] using h
    have hl : a.length = b.length := by omega
    simp only [cnd_over]
    simp only [eq_self, true_and, and_true, imp_self, implies_true]
    refine ⟨⟨0, ⟨by omega, by omega, hl, fun i h0 hi => by omega⟩, rfl⟩, fun x hx => ⟨fun hlt => ?_, fun hge => ?_⟩⟩
    · have hlt : x < a.length := by simpa using hlt
      obtain ⟨g0, g1, _, g2⟩ := hx
      have hxb : D.ilt x (D.ilen b) := by simp only [D.ilt, D.ilen]; omega
      refine ⟨g0, hlt, g0, hxb, fun hne => ?_, fun heq => ?_⟩
      · have : ((a.getD x.toNat []).length : Int) ≠ (b.getD x.toNat []).length := by simpa [D.ne, D.ilen] using hne
        have : ¬ (a.getD x.toNat []).length = (b.getD x.toNat []).length := by omega
        refine (belowF_bad g0 hlt ?_).symm
        simp only [rowBelow, this, decide_false]; rfl
      · have hr : ((a.getD x.toNat []).length : Int) = (b.getD x.toNat []).length := by simpa [D.ne, D.ilen] using heq
        have hr : (a.getD x.toNat []).length = (b.getD x.toNat []).length := by omega
        refine ⟨⟨0, ⟨by omega, by omega, hr, fun j h0 hj => by omega⟩, rfl⟩, fun y hy => ⟨g0, hlt, fun hlt2 => ?_, fun hge => ?_⟩⟩
        · have hlt2 : y < (a.getD x.toNat []).length := of_decide_eq_true hlt2
          obtain ⟨k0, k1, _, k2⟩ := hy
          have hlt3 : y < (b.getD x.toNat []).length := by omega
          have hrow : lenOk (a.getD x.toNat []) := hp.2 _ (getD_mem _ _ _ (by omega))
          refine ⟨g0, hlt, k0, hlt2, fun _ => g0, fun _ => hlt, fun _ => k0, fun _ => hlt2, fun _ => g0, fun _ => hxb, fun _ => k0, fun _ => hlt3, fun h => by simpa using h, fun ho => ?_, fun ho => ⟨?_, y + 1, ⟨by omega, by omega, hr, fun j h0 hj => ?_⟩, rfl, ?_⟩⟩
          · refine (belowF_bad g0 hlt ?_).symm
            cases hb : rowBelow (a.getD x.toNat []) (b.getD x.toNat []) with
            | false => rfl
            | true =>
              have := (rowBelow_iff.1 hb).2 y.toNat (by omega)
              simp only [at1, Int.toNat_natCast] at this
              have ho : over ((a.getD x.toNat []).getD y.toNat 0) ((b.getD x.toNat []).getD y.toNat 0) = true := ho
              rw [this] at ho; cases ho
          · unfold lenOk at hrow; simp only [inR, D.add]; omega
          · by_cases e : j < y
            · exact k2 j h0 e
            · have : j = y := by omega
              subst this
              exact ho
          · simp only [D.nlt, D.nat, D.sub, D.ilen, D.get, D.nil]; omega
        · have hge : ¬ y < (a.getD x.toNat []).length := by simpa using hge
          obtain ⟨k0, k1, _, k2⟩ := hy
          have hal := hp.1
          refine ⟨by simp only [inR, D.add]; omega, x + 1, ⟨by omega, by omega, hl, fun i h0 hi => ?_⟩, rfl, ?_⟩
          · by_cases e : i < x
            · exact g2 i h0 e
            · have : i = x := by omega
              subst this
              refine rowBelow_iff.2 ⟨hr, fun k hk => ?_⟩
              exact k2 k (by omega) (by omega)
          · simp only [D.nlt, D.nat, D.sub, D.ilen]; omega
    · have hge : ¬ x < a.length := by simpa using hge
      obtain ⟨g0, g1, _, g2⟩ := hx
      exact (belowF_iff.2 ⟨hl, fun k hk => by have := g2 k (by omega) (by omega); simpa using this⟩).symm
end Go.Eng.Mp
