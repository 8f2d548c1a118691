/- PeMm2m -/
import Derived.Test.YtgphkkpblecfgaaY22
import Derived.Test.YtgphkkpblecfgaaMm1m
set_option linter.unusedSimpArgs false
set_option linter.unusedVariables false
set_option maxRecDepth 100000
namespace Go.Eng.Mp
open Go.Proofs
open Go.Eng.Sv (I R M G0 KI0)
open Go.Eng.Sv (KI0s hm)

noncomputable def intsF (a b : List Int) : Bool := decide (a = b)
noncomputable def intsTo (a b : List Int) (k : Int) : Prop := 0 ≤ k ∧ k ≤ a.length ∧ a.length = b.length ∧ a.take k.toNat = b.take k.toNat
noncomputable def sameF (a b : List (List Int)) : Bool := decide (a = b)
noncomputable def lensOk (a : List (List Int)) : Prop := (a.length : Int) ≤ 9223372036854775807 ∧ ∀ r ∈ a, lenOk r
noncomputable def sameTo (a b : List (List Int)) (k : Int) : Prop := 0 ≤ k ∧ k ≤ a.length ∧ a.length = b.length ∧ a.take k.toNat = b.take k.toNat
noncomputable def longer (n : Int) (r : List Int) : Bool := decide ((r.length : Int) > n)
noncomputable def fewF (m : List (List Int)) (n : Int) : Bool := !decide ((m.length : Int) > n) && !m.any (longer n)
noncomputable def fewTo (m : List (List Int)) (n k : Int) : Prop := 0 ≤ k ∧ k ≤ m.length ∧ m.length ≤ n ∧ (m.take k.toNat).any (longer n) = false
noncomputable def fewP (n : Int) : Prop := n ≤ 1000000
noncomputable def rowTo (m : List (List Int)) (i k : Int) : Prop := 0 ≤ k ∧ (k ≤ (m.getD i.toNat []).length) ∧ ((m.getD i.toNat []).length : Int) = m.length ∧ ∀ j : Int, 0 ≤ j → j < k → elemF (at2 m i j) = true

noncomputable def K7 : Kt := fun f args m => match f, args, m with
  | 19, [.dat (.sl (.sl (.int .i64))) a, .dat (.sl (.sl (.int .i64))) b], [] => some ⟨True, .dat M (sumF a b), []⟩
  | 21, [.dat (.sl (.sl (.int .i64))) a, .dat (.sl (.sl (.int .i64))) b], [] => some ⟨True, .dat M (prodF a b), []⟩
  | 14, [.dat (.sl (.sl (.int .i64))) m], [] => some ⟨starP m, .tup [.dat M (starS m), .dat I (starE m)], []⟩
  | 24, [.dat (.sl (.sl (.int .i64))) m, .dat (.sl (.int .i64)) v], [] => some ⟨True, .dat R (applyF m v), []⟩
  | 31, [.dat (.int .i64) x], [] => some ⟨True, .dat .bool (infF x), []⟩
  | _, _, _ => K6b f args m
noncomputable def c7 : Cfg := Sv.mkc K7

noncomputable def intsA (a b : List Int) : Ann := ⟨fun id s => match id with
  | 4 => some { α := Int, inv := fun k => intsTo a b k, st := fun k => put s [(5, .dat I k)], μ := fun k => D.nat (D.sub (D.ilen a) k) }
  | _ => none, fun _ _ => none, fun _ _ => none⟩

set_option maxRecDepth 100000 in
theorem vc_rinf (x : Int) (hvc :
  true = true ∧ (True → D.le x (-549755813888 : Int) = infF x ∧ True)) :
    evF c0 noAnn 31 [.dat I x] [] ⟨True, .dat .bool (infF x), []⟩ := of_eq (by kernel_rfl) hvc

theorem s_rinf (x : Int) : SoundC Try.prog G0 31 [.dat I x] [] ⟨True, .dat .bool (infF x), []⟩ :=
  sound_of_ev (c := c0) KS0 KI0s hm (vc_rinf x ⟨rfl, fun _ => ⟨rfl, trivial⟩⟩)
theorem KS7 : KSound Try.prog G0 K7 := by
  intro f args m c h
  unfold K7 at h
  split at h
  · cases h; exact s_sum _ _
  · cases h; exact s_prod _ _
  · cases h; exact s_star _
  · cases h; exact s_apply _ _
  · cases h; exact s_rinf _
  · exact KS6b _ _ _ _ h
set_option maxRecDepth 100000 in
theorem vc_relem (x : Int) (hvc :
 let c1 := D.ge x (-1000000000 : Int); true = true ∧ (True → True ∧ (D.not (infF x) = true → D.not (infF x) = true → D.not (infF x) = true) ∧ (D.not (infF x) =
  true → D.not (infF x) = true → D.not (infF x) = true) ∧ (D.and (D.not (infF x)) c1 = true → D.and (D.not (infF x)) c1 = true → D.and (D.not (infF x)) c1 =
  true) ∧ (D.not (infF x) = true → D.not (infF x) = true → D.not (infF x) = true) ∧ (D.not (infF x) = true → D.and (D.not (infF x)) c1 = true → D.and (D.not
  (infF x)) c1 = true) ∧ (D.and true (D.not (infF x)) = true → D.not (infF x) = true) ∧ D.cnd (infF x) true (D.cnd c1 (D.le x (1000000000 : Int)) false) = elemF
  x ∧ True)) :
    evF c7 noAnn 39 [.dat I x] [] ⟨True, .dat .bool (elemF x), []⟩ := of_eq (by kernel_rfl) hvc

theorem s_relem (x : Int) : SoundC Try.prog G0 39 [.dat I x] [] ⟨True, .dat .bool (elemF x), []⟩ :=
  sound_of_ev (c := c7) KS7 KI0s hm (vc_relem x (by cases h : infF x <;> simp [elemF, h, Bool.cond_eq_ite]))
set_option maxRecDepth 100000 in
theorem vc_rplus (x y : Int) (hvc :
 let c1 := D.cnd (infF x) (infF y) false; true = true ∧ (True → True ∧ (infF x = true → infF x = true → infF x = true) ∧ (infF x = true → True) ∧ (D.and true
  (infF x) = true → infF x = true) ∧ (c1 = true → (-1099511627776 : Int) = plusF x y ∧ True) ∧ (c1 = false → D.mx x y = plusF x y ∧ True))) :
    evF c7 noAnn 42 [.dat I x, .dat I y] [] ⟨True, .dat I (plusF x y), []⟩ := of_eq (by kernel_rfl) hvc

theorem s_rplus (x y : Int) : SoundC Try.prog G0 42 [.dat I x, .dat I y] [] ⟨True, .dat I (plusF x y), []⟩ :=
  sound_of_ev (c := c7) KS7 KI0s hm (vc_rplus x y (by cases h : infF x <;> cases h2 : infF y <;> simp [plusF, h, h2]))
set_option maxRecDepth 100000 in
theorem vc_rtimes (x y : Int) (hvc :
 let c1 := D.cnd (infF x) true (infF y); true = true ∧ (timesP x y → True ∧ (D.not (infF x) = true → D.not (infF x) = true → D.not (infF x) = true) ∧ (D.not
  (infF x) = true → True) ∧ (D.and true (D.not (infF x)) = true → D.not (infF x) = true) ∧ (c1 = true → (-1099511627776 : Int) = timesF x y ∧ True) ∧ (c1 = false
  → inR IntKind.i64 (D.add x y) ∧ D.add x y = timesF x y ∧ True))) :
    evF c7 noAnn 30 [.dat I x, .dat I y] [] ⟨timesP x y, .dat I (timesF x y), []⟩ := of_eq (by kernel_rfl) hvc

theorem s_rtimes (x y : Int) : SoundC Try.prog G0 30 [.dat I x, .dat I y] [] ⟨timesP x y, .dat I (timesF x y), []⟩ :=
  sound_of_ev (c := c7) KS7 KI0s hm (vc_rtimes x y (by cases h : infF x <;> cases h2 : infF y <;> simp [timesF, timesP, h, h2]))
set_option maxRecDepth 100000 in
theorem vc_ints (a b : List Int) (hvc :
 let c1 := D.ne (D.ilen a) (D.ilen b); true = true ∧ (lenOk a → (c1 = true → false = intsF a b ∧ True) ∧ (c1 = false → (∃ x, intsTo a b x ∧ a = a ∧ b = b ∧ (0 :
  Int) = x ∧ a = a ∧ D.ilen a = D.ilen a ∧ b = b ∧ D.ilen b = D.ilen b ∧ c1 = c1 ∧ True) ∧ ∀ (x : Int),
 let c2 := D.lt x (D.ilen a);
 let c3 := D.ne (D.get a (D.nat x) (0 : Int)) (D.get b (D.nat x) (0 : Int));
 let c4 := D.add x (1 : Int); intsTo a b x → (c2 = true → D.ile (0 : Int) x ∧ D.ilt x (D.ilen a) ∧ D.ile (0 : Int) x ∧ D.ilt x (D.ilen b) ∧ (c3 = true → false =
  intsF a b ∧ True) ∧ (c3 = false → inR IntKind.i64 c4 ∧ ∃ y, intsTo a b y ∧ (a = a ∧ b = b ∧ c4 = y ∧ a = a ∧ D.ilen a = D.ilen a ∧ b = b ∧ D.ilen b = D.ilen b
  ∧ c1 = c1 ∧ True) ∧ D.nlt (D.nat (D.sub (D.ilen a) y)) (D.nat (D.sub (D.ilen a) x)))) ∧ (c2 = false → true = intsF a b ∧ True)))) :
    evF c7 (intsA a b) 23 [.dat R a, .dat R b] [] ⟨lenOk a, .dat .bool (intsF a b), []⟩ := of_eq (by kernel_rfl) hvc

theorem take_succ_getD {α : Type} (xs : List α) (d : α) (k : Nat) (h : k < xs.length) : xs.take (k + 1) = xs.take k ++ [xs.getD k d] := by
  rw [List.take_add_one, List.getD_eq_getElem?_getD, List.getElem?_eq_getElem h]; rfl
theorem s_ints (a b : List Int) : SoundC Try.prog G0 23 [.dat R a, .dat R b] [] ⟨lenOk a, .dat .bool (intsF a b), []⟩ := by
  refine sound_of_ev (c := c7) KS7 KI0s hm (vc_ints a b ⟨rfl, fun hp => ⟨fun h => ⟨?_, trivial⟩, fun h => ?_⟩⟩)
  · have : (a.length : Int) ≠ b.length := by simpa [D.ne, D.ilen] using h
    have : a ≠ b := fun e => this (by rw [e])
    simp [intsF, this]
  · have hl : (a.length : Int) = b.length := by simpa [D.ne, D.ilen] using h
    have hl : a.length = b.length := by omega
    simp only [eq_self, true_and, and_true, imp_self]
    refine ⟨⟨0, ⟨by omega, by omega, hl, by simp⟩, rfl⟩, fun x hx => ⟨fun hlt => ?_, fun hge => ?_⟩⟩
    · have hlt : x < a.length := by simpa using hlt
      obtain ⟨g0, g1, _, g2⟩ := hx
      refine ⟨g0, hlt, g0, by simp only [D.ilt, D.ilen]; omega, fun hne => ?_, fun heq => ⟨?_, x + 1, ⟨by omega, by omega, hl, ?_⟩, rfl, ?_⟩⟩
      · have : a ≠ b := by rintro rfl; simp [D.ne] at hne
        simp [intsF, this]
      · unfold lenOk at hp; simp only [inR, D.add]; omega
      · rw [show (x + 1).toNat = x.toNat + 1 by omega, take_succ_getD a 0 _ (by omega), take_succ_getD b 0 _ (by omega), g2]
        have : a.getD x.toNat 0 = b.getD x.toNat 0 := by simpa [D.ne, D.get, D.nat] using heq
        rw [this]
      · simp only [D.nlt, D.nat, D.sub, D.ilen]; omega
    · have hge : ¬ x < a.length := by simpa using hge
      obtain ⟨g0, g1, _, g2⟩ := hx
      rw [List.take_of_length_le (by omega), List.take_of_length_le (by omega)] at g2
      simp [intsF, g2]

noncomputable def fewA (m : List (List Int)) (n : Int) : Ann := ⟨fun id s => match id with
  | 4 => some { α := Int, inv := fun k => fewTo m n k, st := fun k => put s [(5, .dat I k)], μ := fun k => D.nat (D.sub (D.ilen m) k) }
  | _ => none, fun _ _ => none, fun _ _ => none⟩
set_option maxRecDepth 100000 in
theorem vc_few (m : List (List Int)) (n : Int) (hvc :
 let c1 := D.gt (D.ilen m) n; true = true ∧ (fewP n → (c1 = true → false = fewF m n ∧ True) ∧ (c1 = false → (∃ x, fewTo m n x ∧ m = m ∧ n = n ∧ (0 : Int) = x ∧ m
  = m ∧ D.ilen m = D.ilen m ∧ n = n ∧ c1 = c1 ∧ True) ∧ ∀ (x : Int),
 let c2 := D.lt x (D.ilen m);
 let c3 := D.gt (D.ilen (D.get m (D.nat x) (D.nil Int))) n;
 let c4 := D.add x (1 : Int); fewTo m n x → (c2 = true → D.ile (0 : Int) x ∧ D.ilt x (D.ilen m) ∧ (c3 = true → false = fewF m n ∧ True) ∧ (c3 = false → inR
  IntKind.i64 c4 ∧ ∃ y, fewTo m n y ∧ (m = m ∧ n = n ∧ c4 = y ∧ m = m ∧ D.ilen m = D.ilen m ∧ n = n ∧ c1 = c1 ∧ True) ∧ D.nlt (D.nat (D.sub (D.ilen m) y)) (D.nat
  (D.sub (D.ilen m) x)))) ∧ (c2 = false → true = fewF m n ∧ True)))) :
    evF c7 (fewA m n) 12 [.dat M m, .dat I n] [] ⟨fewP n, .dat .bool (fewF m n), []⟩ := of_eq (by kernel_rfl) hvc

theorem s_few (m : List (List Int)) (n : Int) : SoundC Try.prog G0 12 [.dat M m, .dat I n] [] ⟨fewP n, .dat .bool (fewF m n), []⟩ := by
  refine sound_of_ev (c := c7) KS7 KI0s hm (vc_few m n ⟨rfl, fun hp => ⟨fun h => ⟨?_, trivial⟩, fun h => ?_⟩⟩)
  · have : (m.length : Int) > n := by simpa [D.gt, D.ilen] using h
    simp only [fewF, this, decide_true]; rfl
  · have hl : ¬ (m.length : Int) > n := by simpa [D.gt, D.ilen] using h
    simp only [eq_self, true_and, and_true, imp_self]
    refine ⟨⟨0, ⟨by omega, by omega, by omega, by simp⟩, rfl⟩, fun x hx => ⟨fun hlt => ?_, fun hge => ?_⟩⟩
    · have hlt : x < m.length := by simpa using hlt
      obtain ⟨g0, g1, g3, g2⟩ := hx
      have hmem : m.getD x.toNat [] ∈ m := by
        rw [List.getD_eq_getElem?_getD, List.getElem?_eq_getElem (show x.toNat < m.length by omega)]
        exact List.getElem_mem _
      refine ⟨g0, hlt, fun hne => ?_, fun heq => ⟨?_, x + 1, ⟨by omega, by omega, g3, ?_⟩, rfl, ?_⟩⟩
      · have : m.any (longer n) = true := List.any_eq_true.2 ⟨_, hmem, hne⟩
        simp [fewF, this]
      · unfold fewP at hp; simp only [inR, D.add]; omega
      · rw [show (x + 1).toNat = x.toNat + 1 by omega, take_succ_getD m [] _ (by omega), List.any_append, g2]
        have : longer n (m.getD x.toNat []) = false := heq
        rw [List.any_cons, this]; rfl
      · simp only [D.nlt, D.nat, D.sub, D.ilen]; omega
    · have hge : ¬ x < m.length := by simpa using hge
      obtain ⟨g0, g1, g3, g2⟩ := hx
      rw [List.take_of_length_le (by omega)] at g2
      simp only [fewF, g2, hl, decide_false]; rfl

noncomputable def K8 : Kt := fun f args m => match f, args, m with
  | 39, [.dat (.int .i64) x], [] => some ⟨True, .dat .bool (elemF x), []⟩
  | 42, [.dat (.int .i64) x, .dat (.int .i64) y], [] => some ⟨True, .dat I (plusF x y), []⟩
  | 30, [.dat (.int .i64) x, .dat (.int .i64) y], [] => some ⟨timesP x y, .dat I (timesF x y), []⟩
  | 23, [.dat (.sl (.int .i64)) a, .dat (.sl (.int .i64)) b], [] => some ⟨lenOk a, .dat .bool (intsF a b), []⟩
  | 12, [.dat (.sl (.sl (.int .i64))) m, .dat (.int .i64) n], [] => some ⟨fewP n, .dat .bool (fewF m n), []⟩
  | _, _, _ => K7 f args m
noncomputable def c8 : Cfg := Sv.mkc K8

noncomputable def sameA (a b : List (List Int)) : Ann := ⟨fun id s => match id with
  | 4 => some { α := Int, inv := fun k => sameTo a b k, st := fun k => put s [(5, .dat I k)], μ := fun k => D.nat (D.sub (D.ilen a) k) }
  | _ => none, fun _ _ => none, fun _ _ => none⟩
noncomputable def rvalidA (m : List (List Int)) : Ann := ⟨fun id s => match id with
  | 4 => some { α := Int, inv := fun k => okTo m k, st := fun k => put s [(3, .dat I k)], μ := fun k => D.nat (D.sub (D.ilen m) k) }
  | 9 => match s.sig.T 3 with
    | .dat (.int .i64) i => some { α := Int, inv := fun k => rowTo m i k, st := fun k => put s [(4, .dat I k)], μ := fun k => D.nat (D.sub (D.ilen m) k) }
    | _ => none
  | _ => none, fun _ _ => none, fun _ _ => none⟩

set_option maxRecDepth 100000 in
theorem vc_same (a b : List (List Int)) (hvc :
 let c1 := D.ne (D.ilen a) (D.ilen b); true = true ∧ (lensOk a → (c1 = true → false = sameF a b ∧ True) ∧ (c1 = false → (∃ x, sameTo a b x ∧ a = a ∧ b = b ∧ (0 :
  Int) = x ∧ a = a ∧ D.ilen a = D.ilen a ∧ b = b ∧ D.ilen b = D.ilen b ∧ c1 = c1 ∧ True) ∧ ∀ (x : Int),
 let c2 := D.lt x (D.ilen a);
 let c3 := D.get a (D.nat x) (D.nil Int);
 let c4 := D.not (intsF c3 (D.get b (D.nat x) (D.nil Int)));
 let c5 := D.add x (1 : Int); sameTo a b x → (c2 = true → D.ile (0 : Int) x ∧ D.ilt x (D.ilen a) ∧ D.ile (0 : Int) x ∧ D.ilt x (D.ilen b) ∧ lenOk c3 ∧ (c4 = true
  → false = sameF a b ∧ True) ∧ (c4 = false → inR IntKind.i64 c5 ∧ ∃ y, sameTo a b y ∧ (a = a ∧ b = b ∧ c5 = y ∧ a = a ∧ D.ilen a = D.ilen a ∧ b = b ∧ D.ilen b =
  D.ilen b ∧ c1 = c1 ∧ True) ∧ D.nlt (D.nat (D.sub (D.ilen a) y)) (D.nat (D.sub (D.ilen a) x)))) ∧ (c2 = false → true = sameF a b ∧ True)))) :
    evF c8 (sameA a b) 16 [.dat M a, .dat M b] [] ⟨lensOk a, .dat .bool (sameF a b), []⟩ := of_eq (by kernel_rfl) hvc

theorem KS8 : KSound Try.prog G0 K8 := by
  intro f args m c h
  unfold K8 at h
  split at h
  · cases h; exact s_relem _
  · cases h; exact s_rplus _ _
  · cases h; exact s_rtimes _ _
  · cases h; exact s_ints _ _
  · cases h; exact s_few _ _
  · exact KS7 _ _ _ _ h
theorem s_same (a b : List (List Int)) : SoundC Try.prog G0 16 [.dat M a, .dat M b] [] ⟨lensOk a, .dat .bool (sameF a b), []⟩ := by
  refine sound_of_ev (c := c8) KS8 KI0s hm (vc_same a b ⟨rfl, fun hp => ⟨fun h => ⟨?_, trivial⟩, fun h => ?_⟩⟩)
  · have : (a.length : Int) ≠ b.length := by simpa [D.ne, D.ilen] using h
    have : a ≠ b := fun e => this (by rw [e])
    simp [sameF, this]
  · have hl : (a.length : Int) = b.length := by simpa [D.ne, D.ilen] using h
    have hl : a.length = b.length := by omega
    simp only [eq_self, true_and, and_true, imp_self]
    refine ⟨⟨0, ⟨by omega, by omega, hl, by simp⟩, rfl⟩, fun x hx => ⟨fun hlt => ?_, fun hge => ?_⟩⟩
    · have hlt : x < a.length := by simpa using hlt
      obtain ⟨g0, g1, _, g2⟩ := hx
      refine ⟨g0, hlt, g0, by simp only [D.ilt, D.ilen]; omega, ?_, fun hne => ?_, fun heq => ⟨?_, x + 1, ⟨by omega, by omega, hl, ?_⟩, rfl, ?_⟩⟩
      · refine hp.2 _ ?_
        show a.getD x.toNat [] ∈ a
        rw [List.getD_eq_getElem?_getD, List.getElem?_eq_getElem (show x.toNat < a.length by omega)]
        exact List.getElem_mem _
      · have : a ≠ b := by rintro rfl; simp [intsF] at hne
        simp [sameF, this]
      · have := hp.1; simp only [inR, D.add]; omega
      · rw [show (x + 1).toNat = x.toNat + 1 by omega, take_succ_getD a [] _ (by omega), take_succ_getD b [] _ (by omega), g2]
        have : a.getD x.toNat [] = b.getD x.toNat [] := by
          have : intsF (a.getD x.toNat []) (b.getD x.toNat []) = true := by simpa only [D.not, Bool.not_eq_false'] using heq
          exact of_decide_eq_true this
        rw [this]
      · simp only [D.nlt, D.nat, D.sub, D.ilen]; omega
    · have hge : ¬ x < a.length := by simpa using hge
      obtain ⟨g0, g1, _, g2⟩ := hx
      rw [List.take_of_length_le (by omega), List.take_of_length_le (by omega)] at g2
      simp [sameF, g2]
set_option maxRecDepth 100000 in
theorem vc_rvalid (m : List (List Int)) (hvc :
 let c1 := D.gt (D.ilen m) (40 : Int); true = true ∧ (True → (c1 = true → false = validF m ∧ True) ∧ (c1 = false → (∃ x, okTo m x ∧ m = m ∧ (0 : Int) = x ∧ m = m
  ∧ D.ilen m = D.ilen m ∧ c1 = c1 ∧ True) ∧ ∀ (x : Int),
 let c2 := D.lt x (D.ilen m);
 let c3 := D.get m (D.nat x) (D.nil Int);
 let c4 := D.ilen c3;
 let c5 := D.ne c4 (D.ilen m);
 let c6 := D.add x (1 : Int); okTo m x → (c2 = true → D.ile (0 : Int) x ∧ D.ilt x (D.ilen m) ∧ (c5 = true → false = validF m ∧ True) ∧ (c5 = false → (∃ x_4,
  rowTo m x x_4 ∧ m = m ∧ x = x ∧ (0 : Int) = x_4 ∧ m = m ∧ D.ilen m = D.ilen m ∧ c1 = c1 ∧ x = x ∧ m = m ∧ D.ilen m = D.ilen m ∧ c2 = c2 ∧ m = m ∧ x = x ∧ c3 =
  c3 ∧ c3 = c3 ∧ c4 = c4 ∧ m = m ∧ D.ilen m = D.ilen m ∧ c5 = c5 ∧ True) ∧ ∀ (x_4 : Int),
 let c7 := D.not (elemF (D.get c3 (D.nat x_4) (0 : Int)));
 let c8 := D.add x_4 (1 : Int); rowTo m x x_4 → D.ile (0 : Int) x ∧ D.ilt x (D.ilen m) ∧ (D.lt x_4 c4 = true → D.ile (0 : Int) x ∧ D.ilt x (D.ilen m) ∧ D.ile (0
  : Int) x_4 ∧ D.ilt x_4 c4 ∧ True ∧ (c7 = true → false = validF m ∧ True) ∧ (c7 = false → inR IntKind.i64 c8 ∧ ∃ y, rowTo m x y ∧ (m = m ∧ x = x ∧ c8 = y ∧ m =
  m ∧ D.ilen m = D.ilen m ∧ c1 = c1 ∧ x = x ∧ m = m ∧ D.ilen m = D.ilen m ∧ c2 = c2 ∧ m = m ∧ x = x ∧ c3 = c3 ∧ c3 = c3 ∧ c4 = c4 ∧ m = m ∧ D.ilen m = D.ilen m ∧
  c5 = c5 ∧ True) ∧ D.nlt (D.nat (D.sub (D.ilen m) y)) (D.nat (D.sub (D.ilen m) x_4)))) ∧ (D.lt x_4 c4 = false → inR IntKind.i64 c6 ∧ ∃ y, okTo m y ∧ (m = m ∧ c6
  = y ∧ m = m ∧ D.ilen m = D.ilen m ∧ c1 = c1 ∧ True) ∧ D.nlt (D.nat (D.sub (D.ilen m) y)) (D.nat (D.sub (D.ilen m) x))))) ∧ (c2 = false → true = validF m ∧
  True)))) :
    evF c8 (rvalidA m) 18 [.dat M m] [] ⟨True, .dat .bool (validF m), []⟩ := of_eq (by kernel_rfl) hvc

theorem at2_eq (m : List (List Int)) (i j : Int) : D.get (D.get m (D.nat i) []) (D.nat j) 0 = at2 m i j := rfl
theorem row_wrong {m : List (List Int)} {x k : Int} (h : rowTo m x k) (hk : ¬ k < (m.getD x.toNat []).length) : rowBad m (m.getD x.toNat []) = false := by
  obtain ⟨g0, g1, g2, g3⟩ := h
  have : wrongF (m.getD x.toNat []) = false := wrongF_false.2 fun j h0 hj => g3 j h0 (by omega)
  unfold rowBad
  rw [this]
  simp only [g2, ne_eq, not_true_eq_false, decide_false]; rfl
theorem s_rvalid (m : List (List Int)) : SoundC Try.prog G0 18 [.dat M m] [] ⟨True, .dat .bool (validF m), []⟩ := by
  refine sound_of_ev (c := c8) KS8 KI0s hm (vc_rvalid m ⟨rfl, fun _ => ⟨fun h => ⟨?_, trivial⟩, fun h => ?_⟩⟩)
  · have : (m.length : Int) > 40 := by simpa using h
    simp only [validF, this, decide_true]; rfl
  · simp only [eq_self, true_and, and_true, imp_self]
    refine ⟨⟨0, okTo_zero (by simpa using h), rfl⟩, fun x hx => ⟨fun hlt => ?_, fun hge => ?_⟩⟩
    · have hlt : x < m.length := by simpa using hlt
      have g0 := hx.1
      refine ⟨g0, hlt, fun hne => ?_, fun heq => ⟨⟨0, ⟨by omega, by omega, by simpa [D.ne, D.ilen] using heq, fun j h0 hj => by omega⟩, rfl⟩, fun y hy => ⟨g0, hlt, fun hlt2 => ⟨g0, hlt, hy.1, hlt2 |> of_decide_eq_true, fun hb => ?_, fun hb => ⟨?_, y + 1, ⟨?_, ?_, hy.2.2.1, fun j h0 hj => ?_⟩, rfl, ?_⟩⟩, fun hge => ⟨?_, x + 1, ?_, rfl, ?_⟩⟩⟩⟩
      · have : rowBad m (m.getD x.toNat []) = true := by
          have : ((m.getD x.toNat []).length : Int) ≠ m.length := by simpa [D.ne, D.ilen] using hne
          unfold rowBad; simp only [this, ne_eq, not_false_eq_true, decide_true]; rfl
        exact (validF_bad hx hlt this).symm
      · have hlt2 : y < (m.getD x.toNat []).length := of_decide_eq_true hlt2
        have hb : elemF (at1 (m.getD x.toNat []) y) = false := by simpa [at1] using hb
        have : wrongF (m.getD x.toNat []) = true := by
          cases hw : wrongF (m.getD x.toNat []) with
          | true => rfl
          | false => rw [wrongF_false.1 hw y hy.1 hlt2] at hb; cases hb
        have : rowBad m (m.getD x.toNat []) = true := by unfold rowBad; rw [this]; simp
        exact (validF_bad hx hlt this).symm
      · have := hy.2.1; have := hy.2.2.1; have := hx.2.2.1; have := hy.1; simp only [inR, D.add]; omega
      · have := hy.1; omega
      · have hlt2 : y < (m.getD x.toNat []).length := of_decide_eq_true hlt2
        omega
      · by_cases e : j < y
        · exact hy.2.2.2 j h0 e
        · have : j = y := by omega
          subst this
          have hb : elemF (at2 m x j) = true := by simpa [at2] using hb
          exact hb
      · have hlt2 : y < (m.getD x.toNat []).length := of_decide_eq_true hlt2
        have := hy.2.2.1; have := hy.1
        simp only [D.nlt, D.nat, D.sub, D.ilen]; omega
      · have := hx.2.2.1; simp only [inR, D.add]; omega
      · exact okTo_succ hx hlt (row_wrong hy (by simpa using hge))
      · simp only [D.nlt, D.nat, D.sub, D.ilen]; omega
    · exact (validF_end hx (by simpa using hge)).symm
end Go.Eng.Mp
