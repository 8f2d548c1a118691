/- PeRo3z -/
import Derived.Test.YtejeaokbkbfgjaaGreatDoorX22
import Derived.Test.YtejeaokbkbfgjaaGreatDoorRo2z
set_option linter.unusedSimpArgs false
set_option linter.unusedVariables false
set_option maxRecDepth 100000
noncomputable section
namespace Go.Eng.Sv
open Go.Proofs
open Go.Eng.Mp (buildF rowsF rowF preBuild upto at2 idx2 starS starE starP)
def few16 (n : Net) : Bool := fewF n && decide (n.2.2.2.1.length ≤ 5) && decide (n.2.2.2.2.1.length ≤ 12)
def sqP16 (n : Net) (d : List (List Int)) : Prop := n.2.2.2.1.length ≤ 1000000 ∧ d.length ≤ 1000000
def sq16 (n : Net) (d : List (List Int)) : Bool := decide (d.length = n.2.2.2.1.length) && d.all fun r => decide (r.length = n.2.2.2.1.length)
def sqTo16 (n : Net) (d : List (List Int)) (k : Int) : Prop := 0 ≤ k ∧ k ≤ d.length ∧ d.length ≤ 1000000 ∧ (d.take k.toNat).all (fun r => decide (r.length = n.2.2.2.1.length)) = true
theorem vc_rng16 (a b : Int) (hvc :
 let c1 := D.ge a (0 : Int);
 let c2 := D.cnd c1 (D.lt a b) false;
 let c3 := D.cnd c2 (D.le b (D.wrap IntKind.i64 (D.add a (86400 : Int)))) false; true = true ∧ (True → (c1 = true → c1 = true → c1 = true) ∧ (c1 = true → c1 =
  true → c1 = true) ∧ (D.and true c1 = true → c1 = true) ∧ (c2 = true → c2 = true → c2 = true) ∧ (c2 = true → c2 = true → c2 = true) ∧ (c2 = true → c2 = true →
  c2 = true) ∧ (D.and true c2 = true → c2 = true) ∧ (c3 = true → c3 = true → c3 = true) ∧ (D.and true c3 = true → c3 = true) ∧ D.cnd c3 (D.le b (2000000 : Int))
  false = rngF a b ∧ True)) :
    evF { mkc KQ4 with mb := fun t => t == 15 } noAnn 55 [.dat I a, .dat I b] [] ⟨True, .dat .bool (rngF a b), []⟩ := of_eq (by kernel_rfl) hvc
theorem vc_same16 (a b : List (List Int)) (hvc :
 let c1 := D.ne (D.ilen a) (D.ilen b); true = true ∧ (mild a → (c1 = true → false = sameR a b ∧ True) ∧ (c1 = false → (∃ x, sameRTo a b x ∧ a = a ∧ b = b ∧ (0 :
  Int) = x ∧ a = a ∧ D.ilen a = D.ilen a ∧ b = b ∧ D.ilen b = D.ilen b ∧ c1 = c1 ∧ True) ∧ ∀ (x : Int),
 let c2 := D.lt x (D.ilen a);
 let c3 := D.get a (D.nat x) (D.nil Int);
 let c4 := D.ilen c3;
 let c5 := D.get b (D.nat x) (D.nil Int);
 let c6 := D.ilen c5;
 let c7 := D.ne c4 c6;
 let c8 := D.add x (1 : Int); sameRTo a b x → (c2 = true → D.ile (0 : Int) x ∧ D.ilt x (D.ilen a) ∧ D.ile (0 : Int) x ∧ D.ilt x (D.ilen b) ∧ (c7 = true → false =
  sameR a b ∧ True) ∧ (c7 = false → (∃ x_4, sameCTo a b x x_4 ∧ a = a ∧ b = b ∧ x = x ∧ (0 : Int) = x_4 ∧ a = a ∧ D.ilen a = D.ilen a ∧ b = b ∧ D.ilen b = D.ilen
  b ∧ c1 = c1 ∧ x = x ∧ a = a ∧ D.ilen a = D.ilen a ∧ c2 = c2 ∧ a = a ∧ x = x ∧ c3 = c3 ∧ c3 = c3 ∧ c4 = c4 ∧ b = b ∧ x = x ∧ c5 = c5 ∧ c5 = c5 ∧ c6 = c6 ∧ c7 =
  c7 ∧ True) ∧ ∀ (x_4 : Int),
 let c9 := D.ne (D.get c3 (D.nat x_4) (0 : Int)) (D.get c5 (D.nat x_4) (0 : Int));
 let c10 := D.add x_4 (1 : Int); sameCTo a b x x_4 → D.ile (0 : Int) x ∧ D.ilt x (D.ilen a) ∧ (D.lt x_4 c4 = true → D.ile (0 : Int) x ∧ D.ilt x (D.ilen a) ∧
  D.ile (0 : Int) x_4 ∧ D.ilt x_4 c4 ∧ D.ile (0 : Int) x ∧ D.ilt x (D.ilen b) ∧ D.ile (0 : Int) x_4 ∧ D.ilt x_4 c6 ∧ (c9 = true → false = sameR a b ∧ True) ∧ (c9
  = false → inR IntKind.i64 c10 ∧ ∃ y, sameCTo a b x y ∧ (a = a ∧ b = b ∧ x = x ∧ c10 = y ∧ a = a ∧ D.ilen a = D.ilen a ∧ b = b ∧ D.ilen b = D.ilen b ∧ c1 = c1 ∧
  x = x ∧ a = a ∧ D.ilen a = D.ilen a ∧ c2 = c2 ∧ a = a ∧ x = x ∧ c3 = c3 ∧ c3 = c3 ∧ c4 = c4 ∧ b = b ∧ x = x ∧ c5 = c5 ∧ c5 = c5 ∧ c6 = c6 ∧ c7 = c7 ∧ True) ∧
  D.nlt (D.nat (D.sub c4 y)) (D.nat (D.sub c4 x_4)))) ∧ (D.lt x_4 c4 = false → inR IntKind.i64 c8 ∧ ∃ y, sameRTo a b y ∧ (a = a ∧ b = b ∧ c8 = y ∧ a = a ∧ D.ilen
  a = D.ilen a ∧ b = b ∧ D.ilen b = D.ilen b ∧ c1 = c1 ∧ True) ∧ D.nlt (D.nat (D.sub (D.ilen a) y)) (D.nat (D.sub (D.ilen a) x))))) ∧ (c2 = false → true = sameR
  a b ∧ True)))) :
    evF (mkc KQ4) (sameRA a b) 24 [.dat M a, .dat M b] [] ⟨mild a, .dat .bool (sameR a b), []⟩ := of_eq (by kernel_rfl) hvc
theorem vc_few16 (cs : LC) (ns os : LB) (fs : List Off) (ls : List Line) (ks : List Cla) (hvc :
 let c1 := (cs, ns, os, fs, ls, ks);
 let c2 := fewF c1;
 let c3 := D.cnd c2 (D.le (D.ilen fs) (5 : Int)) false; true = true ∧ (True → True ∧ (c2 = true → c2 = true → c2 = true) ∧ (c2 = true → c2 = true → c2 = true) ∧
  (c2 = true → c2 = true → c2 = true) ∧ (D.and true c2 = true → c2 = true) ∧ (c3 = true → c3 = true → c3 = true) ∧ (c3 = true → c3 = true → c3 = true) ∧ (c3 =
  true → c3 = true → c3 = true) ∧ (D.and true c3 = true → c3 = true) ∧ D.cnd c3 (D.le (D.ilen ls) (12 : Int)) false = few16 c1 ∧ True)) :
    evF (mkc KQ4) noAnn 21 [net cs ns os fs ls ks] [] ⟨True, .dat .bool (few16 (cs, ns, os, fs, ls, ks)), []⟩ := of_eq (by kernel_rfl) hvc
def shapedA (n : Net) (d : List (List Int)) : Ann := ⟨fun id st => match id with
  | 2 => some { α := Int, inv := fun k => sqTo16 n d k, st := fun k => put st [(5, .dat I k)], μ := fun k => D.nat (D.sub (D.ilen d) k) }
  | _ => none, fun _ _ => none, fun _ _ => none⟩
theorem vc_shaped (d : List (List Int)) (cs : LC) (ns os : LB) (fs : List Off) (ls : List Line) (ks : List Cla) (hvc :
 let c1 := (cs, ns, os, fs, ls, ks);
 let c2 := D.ilen fs;
 let c3 := sq16 c1 d; true = true ∧ (sqP16 c1 d → (∃ x, sqTo16 c1 d x ∧ cs = cs ∧ ns = ns ∧ os = os ∧ fs = fs ∧ ls = ls ∧ ks = ks ∧ d = d ∧ c1 = c1 ∧ (0 : Int) =
  x ∧ True) ∧ ∀ (x : Int),
 let c4 := D.lt x (D.ilen d);
 let c5 := D.ne (D.ilen (D.get d (D.nat x) (D.nil Int))) c2;
 let c6 := D.add x (1 : Int); sqTo16 c1 d x → (c4 = true → D.ile (0 : Int) x ∧ D.ilt x (D.ilen d) ∧ (c5 = true → false = c3 ∧ True) ∧ (c5 = false → inR
  IntKind.i64 c6 ∧ ∃ y, sqTo16 c1 d y ∧ (cs = cs ∧ ns = ns ∧ os = os ∧ fs = fs ∧ ls = ls ∧ ks = ks ∧ d = d ∧ c1 = c1 ∧ c6 = y ∧ True) ∧ D.nlt (D.nat (D.sub
  (D.ilen d) y)) (D.nat (D.sub (D.ilen d) x)))) ∧ (c4 = false → D.eq (D.ilen d) c2 = c3 ∧ True))) :
    evF (mkc KQ4) (shapedA (cs, ns, os, fs, ls, ks) d) 30 [net cs ns os fs ls ks, .dat M d] [] ⟨sqP16 (cs, ns, os, fs, ls, ks) d, .dat .bool (sq16 (cs, ns, os, fs, ls, ks) d), []⟩ := of_eq (by kernel_rfl) hvc
theorem vc_example16  (hvc :
 let c1 := [((0 : Int), [true, true, true, true, true, false, false], D.nil Int)];
 let c2 := [ByteArray.mk #[(99 : UInt8)]];
 let c3 := [ByteArray.mk #[(112 : UInt8)]];
 let c4 := ((0 : Int), (0 : Int), (2 : Int), (1 : Int), (10 : Int), D.nil ByteArray);
 let c5 := [(ByteArray.mk #[(97 : UInt8)], c4), (ByteArray.mk #[(98 : UInt8)], c4)];
 let c6 := [(ByteArray.mk #[(108 : UInt8)], (0 : Int), (1 : Int), (480 : Int), (120 : Int), (1 : Int)), (ByteArray.mk #[(109 : UInt8)], (1 : Int), (0 : Int),
  (600 : Int), (60 : Int), (1 : Int))];
 let c7 := [(ByteArray.mk #[(107 : UInt8)], (1020 : Int), (720 : Int))]; true = true ∧ (True → 1 = 1 ∧ 0 = 0 ∧ 1 = 1 ∧ 1 = 1 ∧ 0 = 0 ∧ 1 = 1 ∧ 1 = 1 ∧ 0 = 0 ∧ 1
  = 1 ∧ 1 = 1 ∧ 0 = 0 ∧ 1 = 1 ∧ 0 = 0 ∧ 1 = 1 ∧ 0 = 0 ∧ 1 = 1 ∧ 0 = 0 ∧ c1 = c1 ∧ c2 = c2 ∧ c3 = c3 ∧ c5 = c5 ∧ c6 = c6 ∧ c7 = c7 ∧ True)) :
    evF (mkc KQ4) noAnn 45 [] [] ⟨True, .agg [.dat (.sl C) cy, .dat (.sl S) ny, .dat (.sl S) oy, .dat (.sl Of) fy, .dat (.sl Ln) ly, .dat (.sl Kl) ky], []⟩ := of_eq (by kernel_rfl) hvc
def KQ5 : Kt := kOr 55 (dataK [.val I, .val I] (fun _ => True) fun (a, b, _) => .dat .bool (rngF a b)) <|
  kOr 24 (dataK [.val M, .val M] (fun (a, _, _) => mild a) fun (a, b, _) => .dat .bool (sameR a b)) <|
  kOr 21 (dataK [.row N] (fun _ => True) fun (n, _) => .dat .bool (few16 n)) <|
  kOr 30 (dataK [.row N, .val M] (fun (n, d, _) => sqP16 n d) fun (n, d, _) => .dat .bool (sq16 n d)) <|
  kOr 45 (dataK [] (fun _ => True) fun _ => .agg [.dat (.sl C) cy, .dat (.sl S) ny, .dat (.sl S) oy, .dat (.sl Of) fy, .dat (.sl Ln) ly, .dat (.sl Kl) ky]) KQ4
theorem vc_right16 (a b : Int) (cs : LC) (ns os : LB) (fs : List Off) (ls : List Line) (ks : List Cla) (hvc :
 let c1 := (cs, ns, os, fs, ls, ks); true = true ∧ (fewC c1 = true → True ∧ (rngF a b = true → rngF a b = true → rngF a b = true) ∧ (rngF a b = true → fewC c1 =
  true) ∧ (D.and true (rngF a b) = true → rngF a b = true) ∧ D.cnd (rngF a b) (soundF c1) false = ruseF c1 a b ∧ True)) :
    evF (mkc KQ5) noAnn 29 [net cs ns os fs ls ks, .dat I a, .dat I b] [] ⟨fewC (cs, ns, os, fs, ls, ks) = true, .dat .bool (ruseF (cs, ns, os, fs, ls, ks) a b), []⟩ := of_eq (by kernel_rfl) hvc
theorem vc_head16  (hvc :
 let c1 := ((0 : Int), (0 : Int), (2 : Int), (1 : Int), (10 : Int), D.nil ByteArray);
 let c2 := ([ByteArray.mk #[(99 : UInt8)]], [ByteArray.mk #[(112 : UInt8)]], [(ByteArray.mk #[(97 : UInt8)], c1), (ByteArray.mk #[(98 : UInt8)], c1)],
  [(ByteArray.mk #[(108 : UInt8)], (0 : Int), (1 : Int), (480 : Int), (120 : Int), (1 : Int)), (ByteArray.mk #[(109 : UInt8)], (1 : Int), (0 : Int), (600 : Int),
  (60 : Int), (1 : Int))], [(ByteArray.mk #[(107 : UInt8)], (1020 : Int), (720 : Int))]);
 let c3 := ([((0 : Int), [true, true, true, true, true, false, false], D.nil Int)], c2);
 let c4 := rcostsF c3 (0 : Int) (10080 : Int);
 let c5 := sameI c4 [(4449 : Int), (4389 : Int)];
 let c6 := rboundsF c3 (0 : Int) (10080 : Int);
 let c7 := [(0 : Int)];
 let c8 := D.cnd c5 (sameR c6 [[(0 : Int), (4449 : Int)], (4389 : Int) :: c7]) false;
 let c9 := rnextF c3 (0 : Int) (10080 : Int);
 let c10 := ([((0 : Int), D.rep (7 : Int) false, D.nil Int)], c2);
 let c11 := rcostsF c10 (0 : Int) (10 : Int);
 let c12 := sameI c11 [(-1099511627776 : Int), (-1099511627776 : Int)];
 let c13 := rboundsF c10 (0 : Int) (10 : Int);
 let c14 := [(-1 : Int)];
 let c15 := (-1 : Int) :: c7;
 let c16 := D.cnd c12 (sameR c13 [(0 : Int) :: c14, c15]) false;
 let c17 := rnextF c10 (0 : Int) (10 : Int);
 let c18 := D.cnd c8 (sameR c9 [c15, (1 : Int) :: c14]) false;
 let c19 := (-1 : Int) :: c14;
 let c20 := D.cnd c18 (D.cnd c16 (sameR c17 [c19, c19]) false) false;
 let c21 := D.cnd c20 (D.eq (D.ilen (rnextF c3 (5 : Int) (5 : Int))) (0 : Int)) false; true = true ∧ (True → True ∧ 1 = 1 ∧ 0 = 0 ∧ 1 = 1 ∧ 0 = 0 ∧ True ∧ mildI
  c4 ∧ (c5 = true → 1 = 1) ∧ (c5 = true → 0 = 0) ∧ (c5 = true → c5 = true → c5 = true) ∧ (c5 = true → True) ∧ (c5 = true → c5 = true → c5 = true) ∧ (c5 = true →
  c5 = true → c5 = true) ∧ (c5 = true → c5 = true → c5 = true) ∧ (c5 = true → c5 = true → c5 = true) ∧ (c5 = true → mild c6) ∧ (D.and true c5 = true → c5 = true)
  ∧ (c8 = true → 1 = 1) ∧ (c8 = true → 0 = 0) ∧ (c8 = true → c8 = true → c8 = true) ∧ (c8 = true → True) ∧ (c8 = true → c8 = true → c8 = true) ∧ (c8 = true → c8
  = true → c8 = true) ∧ (c8 = true → c8 = true → c8 = true) ∧ (c8 = true → c8 = true → c8 = true) ∧ (c8 = true → mild c9) ∧ (D.and true c8 = true → c8 = true) ∧
  1 = 1 ∧ 0 = 0 ∧ 1 = 1 ∧ 0 = 0 ∧ D.ile (0 : Int) (7 : Int) ∧ D.ile (D.mul (D.ofN (1)) (7 : Int)) (281474976710656 : Int) ∧ D.ile (7 : Int) (9223372036854775807
  : Int) ∧ 1 = 1 ∧ 1 = 1 ∧ 0 = 0 ∧ 1 = 1 ∧ 0 = 0 ∧ True ∧ mildI c11 ∧ (c12 = true → 1 = 1) ∧ (c12 = true → 0 = 0) ∧ (c12 = true → c12 = true → c12 = true) ∧ (c12
  = true → True) ∧ (c12 = true → c12 = true → c12 = true) ∧ (c12 = true → c12 = true → c12 = true) ∧ (c12 = true → c12 = true → c12 = true) ∧ (c12 = true → c12 =
  true → c12 = true) ∧ (c12 = true → mild c13) ∧ (D.and true c12 = true → c12 = true) ∧ (c16 = true → 1 = 1) ∧ (c16 = true → 0 = 0) ∧ (c16 = true → c16 = true →
  c16 = true) ∧ (c16 = true → True) ∧ (c16 = true → c16 = true → c16 = true) ∧ (c16 = true → c16 = true → c16 = true) ∧ (c16 = true → c16 = true → c16 = true) ∧
  (c16 = true → c16 = true → c16 = true) ∧ (c16 = true → mild c17) ∧ (D.and true c16 = true → c16 = true) ∧ (D.and true c18 = true → c18 = true) ∧ (c20 = true →
  1 = 1) ∧ (c20 = true → 0 = 0) ∧ (c20 = true → c20 = true → c20 = true) ∧ (c20 = true → True) ∧ (c20 = true → c20 = true → c20 = true) ∧ (c20 = true → c20 =
  true → c20 = true) ∧ (D.and true c20 = true → c20 = true) ∧ (c21 = true → 1 = 1) ∧ (c21 = true → 0 = 0) ∧ (c21 = true → c21 = true → c21 = true) ∧ (c21 = true
  → True) ∧ (c21 = true → c21 = true → c21 = true) ∧ (c21 = true → c21 = true → c21 = true) ∧ (D.and true c21 = true → c21 = true) ∧ D.cnd c21 (D.eq (D.ilen
  (checkF c3)) (0 : Int)) false = true ∧ True)) :
    evF { mkc KQ5 with mb := fun t => t == 27 } noAnn 20 [] [] ⟨True, .dat .bool true, []⟩ := of_eq (by kernel_rfl) hvc
def KQ6 : Kt := kOr 29 (dataK [.row N, .val I, .val I] (fun (n, _, _, _) => fewC n = true) fun (n, a, b, _) => .dat .bool (ruseF n a b)) <|
  kOr 20 (dataK [] (fun _ => True) fun _ => .dat .bool true) KQ5
theorem t_rng16 (a b : Int) : SoundC Tryz.prog G0 55 [.dat I a, .dat I b] [] ⟨True, .dat .bool (rngF a b), []⟩ := by
  refine sound_of_ev (c := { mkc KQ4 with mb := fun t => t == 15 }) KSQ4 KI0s hm (vc_rng16 a b ⟨rfl, fun _ => ?_⟩)
  have key : D.cnd (D.cnd (D.cnd (D.ge a 0) (D.lt a b) false) (D.le b (D.wrap .i64 (D.add a 86400))) false) (D.le b 2000000) false = rngF a b := by
    rw [Bool.eq_iff_iff, rng_iff]
    by_cases h : 0 ≤ a ∧ a < b ∧ b ≤ 2000000
    · have hw : D.wrap .i64 (D.add a 86400) = a + 86400 := by
        unfold D.wrap; exact wrap_inR (by unfold D.add; exact in_small (by omega))
      rw [hw]
      simp only [cnd_and, Bool.and_eq_true, D.lt, D.le, D.ge, decide_eq_true_eq]; omega
    · generalize D.wrap .i64 (D.add a 86400) = q
      simp only [cnd_and, Bool.and_eq_true, D.lt, D.le, D.ge, decide_eq_true_eq]
      constructor
      · rintro ⟨⟨⟨h1, h2⟩, _⟩, h3⟩; exact (h ⟨h1, h2, h3⟩).elim
      · rintro ⟨h1, h2, h3, _⟩; exact (h ⟨h1, h2, h3⟩).elim
  generalize D.wrap .i64 (D.add a 86400) = q at *
  simp only [imp_self, implies_true, true_and, and_true, D.and, Bool.true_and]
  exact key
theorem t_same16 (a b : List (List Int)) : SoundC Tryz.prog G0 24 [.dat M a, .dat M b] [] ⟨mild a, .dat .bool (sameR a b), []⟩ := by
  refine sound_of_ev (c := mkc KQ4) KSQ4 KI0s hm (vc_same16 a b ⟨rfl, fun ⟨hp, hp2⟩ => ?_⟩)
  simp only [eq_self, true_and, and_true, exists_eq_right', D.nil, D.ne, D.lt, D.ilen, D.ile, D.ilt, D.nlt, D.sub, D.add, D.nat, D.get, decide_eq_true_eq, decide_eq_false_iff_not, bne_iff_ne, bne_eq_false_iff_eq]
  refine ⟨fun h => sameR_no fun e => h (by rw [e]), fun h => ⟨⟨Int.le_refl _, Int.natCast_nonneg _, by omega, hp, rfl⟩, fun x ⟨g0, g1, g2, g3, g4⟩ => ⟨fun hlt => ⟨g0, hlt, g0, by omega, fun hd => sameR_no fun e => hd (by rw [e]), fun hd => ?_⟩, fun hge => ?_⟩⟩⟩
  · have hm2 := hp2 _ (getD_mem (l := a) (i := x.toNat) (d := []) (by omega))
    refine ⟨⟨Int.le_refl _, Int.natCast_nonneg _, by omega, hm2, rfl⟩, fun z ⟨f0, f1, f2, f3, f4⟩ => ⟨g0, hlt, fun hz => ⟨g0, hlt, f0, hz, g0, by omega, f0, by omega, fun hd => sameR_no fun e => hd (by rw [e]), fun he => ⟨⟨by omega, by omega⟩, z + 1, ⟨by omega, by omega, f2, f3, ?_⟩, rfl, by omega⟩⟩, fun hz => ⟨⟨by omega, by omega⟩, x + 1, ⟨by omega, by omega, g2, g3, ?_⟩, rfl, by omega⟩⟩⟩
    · rw [show (z + 1).toNat = z.toNat + 1 by omega]
      exact take_eq_next f4 (by omega) (by omega) he
    · rw [show (x + 1).toNat = x.toNat + 1 by omega]
      refine take_eq_next (d := []) g4 (by omega) (by omega) ?_
      rw [List.take_of_length_le (by omega), List.take_of_length_le (by omega)] at f4
      exact f4
  · rw [List.take_of_length_le (by omega), List.take_of_length_le (by omega)] at g4
    subst g4
    unfold sameR; simp
theorem t_few16 (cs : LC) (ns os : LB) (fs : List Off) (ls : List Line) (ks : List Cla) : SoundC Tryz.prog G0 21 [net cs ns os fs ls ks] [] ⟨True, .dat .bool (few16 (cs, ns, os, fs, ls, ks)), []⟩ := by
  refine sound_of_ev (c := mkc KQ4) KSQ4 KI0s hm (vc_few16 cs ns os fs ls ks ⟨rfl, fun _ => ?_⟩)
  have e : few16 (cs, ns, os, fs, ls, ks) = (fewF (cs, ns, os, fs, ls, ks) && decide ((fs.length : Int) ≤ 5) && decide ((ls.length : Int) ≤ 12)) := by
    unfold few16
    have e1 : decide (fs.length ≤ 5) = decide ((fs.length : Int) ≤ 5) := by rw [Bool.eq_iff_iff, decide_eq_true_eq, decide_eq_true_eq]; omega
    have e2 : decide (ls.length ≤ 12) = decide ((ls.length : Int) ≤ 12) := by rw [Bool.eq_iff_iff, decide_eq_true_eq, decide_eq_true_eq]; omega
    show (fewF _ && decide (fs.length ≤ 5) && decide (ls.length ≤ 12)) = _
    rw [e1, e2]
  simp only [cnd_and, D.and, Bool.true_and, true_and, and_true, imp_self, implies_true, Bool.and_eq_true, D.le, D.ilen, decide_eq_true_eq]
  exact e.symm
theorem t_shaped (d : List (List Int)) (cs : LC) (ns os : LB) (fs : List Off) (ls : List Line) (ks : List Cla) : SoundC Tryz.prog G0 30 [net cs ns os fs ls ks, .dat M d] [] ⟨sqP16 (cs, ns, os, fs, ls, ks) d, .dat .bool (sq16 (cs, ns, os, fs, ls, ks) d), []⟩ := by
  refine sound_of_ev (c := mkc KQ4) KSQ4 KI0s hm (vc_shaped d cs ns os fs ls ks ⟨rfl, fun ⟨hp, hp2⟩ => ?_⟩)
  simp only [eq_self, true_and, and_true, exists_eq_right', D.nil, D.eq, D.ne, D.lt, D.ilen, D.ile, D.ilt, D.nlt, D.sub, D.add, D.nat, D.get, decide_eq_true_eq, decide_eq_false_iff_not, bne_iff_ne, bne_eq_false_iff_eq]
  have hno : ∀ b : Bool, (b = true → False) → false = b := fun b h => by cases b with | false => rfl | true => exact (h rfl).elim
  refine ⟨⟨Int.le_refl _, by omega, hp2, by simp⟩, fun x ⟨g0, g1, g2, g3⟩ => ⟨fun hlt => ⟨g0, by omega, fun hd => hno _ fun e => ?_, fun hd => ⟨in_small (by omega), x + 1, ⟨by omega, by omega, g2, ?_⟩, rfl, by omega⟩⟩, fun hge => ?_⟩⟩
  · unfold sq16 at e
    rw [Bool.and_eq_true, List.all_eq_true] at e
    have := of_decide_eq_true (e.2 _ (getD_mem (l := d) (i := x.toNat) (d := []) (by omega)))
    exact hd (by rw [this])
  · rw [show (x + 1).toNat = x.toNat + 1 by omega]
    refine allTo_next (d := []) g3 (by omega) (decide_eq_true ?_)
    show (d.getD x.toNat []).length = fs.length
    omega
  · rw [List.take_of_length_le (by omega)] at g3
    unfold sq16
    rw [g3, Bool.and_true, Bool.eq_iff_iff, beq_iff_eq, decide_eq_true_eq]
    show (d.length : Int) = (fs.length : Int) ↔ d.length = fs.length
    omega
theorem t_example16 : SoundC Tryz.prog G0 45 [] [] ⟨True, .agg [.dat (.sl C) cy, .dat (.sl S) ny, .dat (.sl S) oy, .dat (.sl Of) fy, .dat (.sl Ln) ly, .dat (.sl Kl) ky], []⟩ := by
  refine sound_of_ev (c := mkc KQ4) KSQ4 KI0s hm (vc_example16 ⟨rfl, fun _ => ?_⟩)
  exact ⟨rfl, rfl, rfl, rfl, rfl, rfl, rfl, rfl, rfl, rfl, rfl, rfl, rfl, rfl, rfl, rfl, rfl, rfl, rfl, rfl, rfl, rfl, rfl, trivial⟩
theorem KSQ5 : KSound Tryz.prog G0 KQ5 := kOr_ok (dataK_ok fun (a, b, _) => t_rng16 a b) <| kOr_ok (dataK_ok fun (a, b, _) => t_same16 a b) <| kOr_ok (dataK_ok fun ((cs, ns, os, fs, ls, ks), _) => t_few16 cs ns os fs ls ks) <|
  kOr_ok (dataK_ok fun ((cs, ns, os, fs, ls, ks), d, _) => t_shaped d cs ns os fs ls ks) <| kOr_ok (dataK_ok fun _ => t_example16) KSQ4
theorem t_right16 (a b : Int) (cs : LC) (ns os : LB) (fs : List Off) (ls : List Line) (ks : List Cla) : SoundC Tryz.prog G0 29 [net cs ns os fs ls ks, .dat I a, .dat I b] [] ⟨fewC (cs, ns, os, fs, ls, ks) = true, .dat .bool (ruseF (cs, ns, os, fs, ls, ks) a b), []⟩ := by
  refine sound_of_ev (c := mkc KQ5) KSQ5 KI0s hm (vc_right16 a b cs ns os fs ls ks ⟨rfl, fun hp => ?_⟩)
  simp only [cnd_and, D.and, Bool.true_and, true_and, and_true, imp_self, implies_true]
  exact ⟨fun _ => hp, rfl⟩
theorem rey : ruseF ey 0 10080 = true := by unfold ruseF; rw [sey]; rfl
theorem rez : ruseF ez 0 10 = true := by unfold ruseF; rw [sez]; rfl
theorem uey' {i : Int} (h : idxF i 2 = true) {ts : List Int} (h2 : ts.all timeOk = true) : usableF ey i ts = true := by unfold usableF; rw [h2, sey]; show (idxF i 2 && true && true) = true; rw [h]; rfl
theorem uez' {i : Int} (h : idxF i 2 = true) {ts : List Int} (h2 : ts.all timeOk = true) : usableF ez i ts = true := by unfold usableF; rw [h2, sez]; show (idxF i 2 && true && true) = true; rw [h]; rfl
theorem wey1 : waitD ey 1 0 10080 = 4319 ∧ waitE ey 1 0 10080 = 0 := by
  have h : waitO ey 1 0 10080 = some 4319 := by decide +kernel
  unfold waitD waitE waitOk
  rw [uey' (by decide) (by decide), h]; exact ⟨rfl, rfl⟩
theorem wez0 : waitE ez 0 0 10 = 20 := by
  have h : waitO ez 0 0 10 = none := by decide +kernel
  unfold waitE waitOk
  rw [uez' (by decide) (by decide), h]; rfl
theorem wez1 : waitE ez 1 0 10 = 20 := by
  have h : waitO ez 1 0 10 = none := by decide +kernel
  unfold waitE waitOk
  rw [uez' (by decide) (by decide), h]; rfl
theorem cey : costsF ey 0 10080 = [4449, 4389] := by
  show [costF ey 0 10080 0, costF ey 0 10080 1] = _
  unfold costF
  rw [if_pos dey5.2, if_pos wey1.2, dey5.1, wey1.1]; rfl
theorem cez : costsF ez 0 10 = [noneI, noneI] := by
  show [costF ez 0 10 0, costF ez 0 10 1] = _
  unfold costF
  rw [wez0, wez1]; rfl
theorem hy1 : rcostsF ey 0 10080 = [4449, 4389] := by unfold rcostsF; rw [if_pos rey, cey]
theorem hy2 : rboundsF ey 0 10080 = [[0, 4449], [4389, 0]] := by unfold rboundsF; rw [if_pos rey, cey]; decide +kernel
theorem hy3 : rnextF ey 0 10080 = [[-1, 0], [1, -1]] := by unfold rnextF; rw [if_pos rey, cey]; decide +kernel
theorem hz1 : rcostsF ez 0 10 = [-1099511627776, -1099511627776] := by unfold rcostsF; rw [if_pos rez, cez]; rfl
theorem hz2 : rboundsF ez 0 10 = [[0, -1], [-1, 0]] := by unfold rboundsF; rw [if_pos rez, cez]; decide +kernel
theorem hz3 : rnextF ez 0 10 = [[-1, -1], [-1, -1]] := by unfold rnextF; rw [if_pos rez, cez]; decide +kernel
theorem hy4 : rnextF ey 5 5 = [] := by unfold rnextF ruseF; rfl
theorem t_head16 : SoundC Tryz.prog G0 20 [] [] ⟨True, .dat .bool true, []⟩ := by
  refine sound_of_ev (c := { mkc KQ5 with mb := fun t => t == 27 }) KSQ5 KI0s hm (vc_head16 ?_)
  intro c1 c2 c3 c4 c5 c6 c7 c8 c9 c10 c11 c12 c13 c14 c15 c16 c17 c18 c19 c20 c21
  have q4 : c4 = [4449, 4389] := hy1
  have e5 : c5 = true := by show sameI c4 [4449, 4389] = true; rw [q4]; rfl
  have q6 : c6 = [[0, 4449], [4389, 0]] := hy2
  have e8 : c8 = true := by show D.cnd c5 (sameR c6 [[0, 4449], [4389, 0]]) false = true; rw [e5, q6]; rfl
  have q9 : c9 = [[-1, 0], [1, -1]] := hy3
  have q11 : c11 = [-1099511627776, -1099511627776] := hz1
  have e12 : c12 = true := by show sameI c11 [-1099511627776, -1099511627776] = true; rw [q11]; rfl
  have q13 : c13 = [[0, -1], [-1, 0]] := hz2
  have e16 : c16 = true := by show D.cnd c12 (sameR c13 [[0, -1], [-1, 0]]) false = true; rw [e12, q13]; rfl
  have q17 : c17 = [[-1, -1], [-1, -1]] := hz3
  have e18 : c18 = true := by show D.cnd c8 (sameR c9 [[-1, 0], [1, -1]]) false = true; rw [e8, q9]; rfl
  have e20 : c20 = true := by show D.cnd c18 (D.cnd c16 (sameR c17 [[-1, -1], [-1, -1]]) false) false = true; rw [e18, e16, q17]; rfl
  have e21 : c21 = true := by show D.cnd c20 (D.eq (D.ilen (rnextF ey 5 5)) 0) false = true; rw [e20, hy4]; rfl
  have e22 : D.cnd c21 (D.eq (D.ilen (checkF c3)) (0 : Int)) false = true := by
    have : checkF ey = [] := List.isEmpty_iff.1 sey
    show D.cnd c21 (D.eq (D.ilen (checkF ey)) (0 : Int)) false = true; rw [e21, this]; rfl
  have m4 : mildI c4 := by rw [q4]; exact (by decide : (2 : Nat) ≤ 1000000)
  have m11 : mildI c11 := by rw [q11]; exact (by decide : (2 : Nat) ≤ 1000000)
  have mm : ∀ a b c d : Int, mild [[a, b], [c, d]] := fun a b c d => ⟨(by decide : (2 : Nat) ≤ 1000000), fun r hr => by
    simp only [List.mem_cons, List.not_mem_nil, or_false] at hr
    rcases hr with rfl | rfl <;> exact (by decide : (2 : Nat) ≤ 1000000)⟩
  have m6 : mild c6 := by rw [q6]; exact mm _ _ _ _
  have m9 : mild c9 := by rw [q9]; exact mm _ _ _ _
  have m13 : mild c13 := by rw [q13]; exact mm _ _ _ _
  have m17 : mild c17 := by rw [q17]; exact mm _ _ _ _
  have k7 : D.ile (D.mul (D.ofN (1)) (7 : Int)) (281474976710656 : Int) := by show (1 : Int) * 7 ≤ 281474976710656; omega
  have k8 : D.ile (7 : Int) (9223372036854775807 : Int) := by show (7 : Int) ≤ 9223372036854775807; omega
  clear_value c21 c20 c18 c17 c16 c13 c12 c11 c9 c8 c6 c5 c4
  subst e5 e8 e12 e16 e18 e20 e21
  refine ⟨rfl, fun _ => ?_⟩
  and_intros
  all_goals first
    | exact trivial
    | with_reducible rfl
    | exact k7
    | exact k8
    | exact e22
    | exact m4
    | exact m11
    | exact fun _ => m6
    | exact fun _ => m9
    | exact fun _ => m13
    | exact fun _ => m17
    | exact fun _ => trivial
    | exact fun _ _ => rfl
    | exact fun _ => rfl
    | (show (0 : Int) ≤ 7; omega)
theorem KSQ6 : KSound Tryz.prog G0 KQ6 := kOr_ok (dataK_ok fun ((cs, ns, os, fs, ls, ks), a, b, _) => t_right16 a b cs ns os fs ls ks) <| kOr_ok (dataK_ok fun _ => t_head16) KSQ5
end Go.Eng.Sv
