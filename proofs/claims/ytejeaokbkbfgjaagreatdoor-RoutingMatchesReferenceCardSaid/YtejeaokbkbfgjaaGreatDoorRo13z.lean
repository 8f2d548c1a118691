/- PeRo13z -/
import Derived.Test.YtejeaokbkbfgjaaGreatDoorX22
import Derived.Test.YtejeaokbkbfgjaaGreatDoorRo12z
set_option linter.unusedSimpArgs false
set_option linter.unusedVariables false
set_option maxRecDepth 100000
noncomputable section
namespace Go.Eng.Sv
open Go.Proofs
open Go.Eng.Mp (buildF rowsF rowF preBuild upto at2 idx2 starS starE starP)
def nxR (n : Net) (c : List Int) (b : List (List Int)) : Nat → Int → Int → Int
  | 0, _, _ => -1
  | r + 1, o, d => if o ≠ d ∧ isBest n c b o d ((n.2.2.2.2.1.length : Int) - (r + 1)) = true then (n.2.2.2.2.1.length : Int) - (r + 1) else nxR n c b r o d
def nx2 (n : Net) (c : List Int) (b : List (List Int)) (k o d : Int) : Int := nxR n c b ((n.2.2.2.2.1.length : Int) - k).toNat o d
def nxD (n : Net) (c : List Int) (b : List (List Int)) (i k o d : Int) : Int := if o = (lineOf n i).2.1 ∧ d < k then nx2 n c b i o d else nx2 n c b (i + 1) o d
def nxT (n : Net) (a b i : Int) : List (List Int) := buildF (nx2 n (rcostsF n a b) (rboundsF n a b) i) n.2.2.2.1.length
def nxDT (n : Net) (a b i k : Int) : List (List Int) := buildF (nxD n (rcostsF n a b) (rboundsF n a b) i k) n.2.2.2.1.length
def nxOk (n : Net) (a b i : Int) : Prop := fewC n = true ∧ ruseF n a b = true ∧ -1 ≤ i ∧ i < n.2.2.2.2.1.length
def nxOk2 (n : Net) (a b i k : Int) : Prop := nxOk n a b i ∧ 0 ≤ i ∧ 0 ≤ k ∧ k ≤ n.2.2.2.1.length
def KQ9 : Kt := kOr 28 (dataK [.row N, .val I, .val I] (fun (n, _, _, _) => fewC n = true) fun (n, a, b, _) => .dat M (rboundsF n a b)) KQ8
def rnext16A (n : Net) (a b : Int) : Ann := ⟨fun id s => match s.sig.T 9 with
  | .buf nm _ => match id with
    | 7 => some { α := Int, inv := fun i => nxOk n a b i, st := fun i => putM (put (flat s) [(10, .dat I i)]) nm (.mat 37 3 I (nxT n a b (D.add i 1)) []), μ := fun i => D.nat (D.add i 1) }
    | 12 => match s.sig.T 10 with
      | .dat (.int .i64) i => some { α := Int, inv := fun k => nxOk2 n a b i k, st := fun k => putM (put (flat s) [(13, .dat I k)]) nm (.mat 37 3 I (nxDT n a b i k) []), μ := fun k => D.nat (D.sub (D.ilen n.2.2.2.1) k) }
      | _ => none
    | _ => none
  | _ => none, fun id s => match id with
  | 16 => some (frz (matNames2 s) s)
  | _ => none, fun _ _ => none⟩
theorem vc_rnext16 (a b : Int) (cs : LC) (ns os : LB) (fs : List Off) (ls : List Line) (ks : List Cla) (hvc :
 let c1 := (ls, ks);
 let c2 := (cs, ns, os, fs, c1);
 let c3 := ruseF c2 a b;
 let c4 := D.not c3;
 let c5 := rnextF c2 a b;
 let c6 := D.ilen ls;
 let c7 := D.sub c6 (1 : Int);
 let c8 := rboundsF c2 a b;
 let c9 := rcostsF c2 a b;
 let c10 := D.ilen fs;
 let c11 := ctab (-1 : Int) c10 c10;
 let c12 := D.len c11;
 let c13 := (ByteArray.mk (D.nil UInt8).toArray, (0 : Int), (0 : Int), (0 : Int), (0 : Int), (0 : Int));
 let c14 := D.ilen c9;
 let c15 := D.ilen c8; true = true ∧ (fewC c2 = true → fewC c2 = true ∧ (c4 = true → c5 = D.nil (List Int) ∧ True) ∧ (c4 = false → fewC c2 = true ∧ fewC c2 =
  true ∧ tabP c2 ∧ inR IntKind.i64 c7 ∧ (∃ x, nxOk c2 a b x ∧ cs = cs ∧ ns = ns ∧ os = os ∧ fs = fs ∧ ls = ls ∧ ks = ks ∧ a = a ∧ b = b ∧ c2 = c2 ∧ Value.slice
  none (0) (0) = Value.slice none (0) (0) ∧ c8 = c8 ∧ c9 = c9 ∧ c12 = c12 ∧ c7 = x ∧ cs = cs ∧ ns = ns ∧ os = os ∧ fs = fs ∧ ls = ls ∧ ks = ks ∧ a = a ∧ b = b ∧
  c3 = c3 ∧ c4 = c4 ∧ cs = cs ∧ ns = ns ∧ os = os ∧ fs = fs ∧ ls = ls ∧ ks = ks ∧ a = a ∧ b = b ∧ c8 = c8 ∧ cs = cs ∧ ns = ns ∧ os = os ∧ fs = fs ∧ ls = ls ∧ ks
  = ks ∧ a = a ∧ b = b ∧ c9 = c9 ∧ cs = cs ∧ ns = ns ∧ os = os ∧ fs = fs ∧ ls = ls ∧ ks = ks ∧ c12 = c12 ∧ c1 = c1 ∧ ls = ls ∧ c6 = c6 ∧ c7 = c7 ∧ c11 = nxT c2 a
  b (D.add x (1 : Int)) ∧ True) ∧ ∀ (x : Int),
 let c16 := D.ge x (0 : Int);
 let c17 := D.get ls (D.nat x) c13;
 let c18 := c17.snd;
 let c19 := c18.fst;
 let c20 := c18.snd;
 let c21 := c20.fst;
 let c22 := D.add x (1 : Int);
 let c23 := nxT c2 a b c22;
 let c24 := D.get c9 (D.nat x) (0 : Int);
 let c25 := D.ne c24 (-1099511627776 : Int);
 let c26 := D.get c8 (D.nat c21) (D.nil Int);
 let c27 := D.nat c19;
 let c28 := D.get c8 c27 (D.nil Int);
 let c29 := D.sub x (1 : Int); nxOk c2 a b x → (c16 = true → D.ile (0 : Int) x ∧ D.ilt x c6 ∧ D.ile (0 : Int) x ∧ D.ilt x c6 ∧ (∃ x_3, nxOk2 c2 a b x x_3 ∧ cs =
  cs ∧ ns = ns ∧ os = os ∧ fs = fs ∧ ls = ls ∧ ks = ks ∧ a = a ∧ b = b ∧ c2 = c2 ∧ Value.slice none (0) (0) = Value.slice none (0) (0) ∧ c8 = c8 ∧ c9 = c9 ∧ c12
  = c12 ∧ x = x ∧ c19 = c19 ∧ c21 = c21 ∧ (0 : Int) = x_3 ∧ cs = cs ∧ ns = ns ∧ os = os ∧ fs = fs ∧ ls = ls ∧ ks = ks ∧ a = a ∧ b = b ∧ c3 = c3 ∧ c4 = c4 ∧ cs =
  cs ∧ ns = ns ∧ os = os ∧ fs = fs ∧ ls = ls ∧ ks = ks ∧ a = a ∧ b = b ∧ c8 = c8 ∧ cs = cs ∧ ns = ns ∧ os = os ∧ fs = fs ∧ ls = ls ∧ ks = ks ∧ a = a ∧ b = b ∧ c9
  = c9 ∧ cs = cs ∧ ns = ns ∧ os = os ∧ fs = fs ∧ ls = ls ∧ ks = ks ∧ c12 = c12 ∧ c1 = c1 ∧ ls = ls ∧ c6 = c6 ∧ c7 = c7 ∧ x = x ∧ c16 = c16 ∧ c1 = c1 ∧ ls = ls ∧
  x = x ∧ c17 = c17 ∧ c18 = c18 ∧ c19 = c19 ∧ c1 = c1 ∧ ls = ls ∧ x = x ∧ c17 = c17 ∧ c20 = c20 ∧ c21 = c21 ∧ c23 = nxDT c2 a b x x_3 ∧ True) ∧ ∀ (x_3 : Int),
 let c30 := nxDT c2 a b x x_3;
 let c31 := D.cnd c25 (D.ne c19 x_3) false;
 let c32 := D.get c26 (D.nat x_3) (0 : Int);
 let c33 := D.cnd c31 (D.ge c32 (0 : Int)) false;
 let c34 := D.add c24 c32;
 let c35 := D.cnd c33 (D.eq c34 (D.get c28 (D.nat x_3) (0 : Int))) false;
 let c36 := D.len c30;
 let c37 := D.get c30 c27 (D.nil Int);
 let c38 := D.len c37;
 let c39 := D.add x_3 (1 : Int); nxOk2 c2 a b x x_3 → D.len c30 = c12 ∧ (D.lt x_3 (Int.ofNat c12) = true → D.ile (0 : Int) x ∧ D.ilt x c14 ∧ (c25 = true → c25 =
  true → c25 = true) ∧ (c25 = true → c25 = true → c25 = true) ∧ (D.and true c25 = true → c25 = true) ∧ (c31 = true → c31 = true → c31 = true) ∧ (c31 = true → c31
  = true → c31 = true) ∧ (c31 = true → D.ile (0 : Int) c21) ∧ (c31 = true → D.ilt c21 c15) ∧ (c31 = true → c31 = true → c31 = true) ∧ (c31 = true → c31 = true →
  c31 = true) ∧ (c31 = true → c31 = true → c31 = true) ∧ (c31 = true → D.ile (0 : Int) x_3) ∧ (c31 = true → D.ilt x_3 (D.ilen c26)) ∧ (c31 = true → c31 = true →
  c31 = true) ∧ (c31 = true → c31 = true → c31 = true) ∧ (D.and true c31 = true → c31 = true) ∧ (c33 = true → c33 = true → c33 = true) ∧ (c33 = true → c33 = true
  → c33 = true) ∧ (c33 = true → D.ile (0 : Int) x) ∧ (c33 = true → D.ilt x c14) ∧ (c33 = true → c33 = true → c33 = true) ∧ (c33 = true → c33 = true → c33 = true)
  ∧ (c33 = true → c33 = true → c33 = true) ∧ (c33 = true → D.ile (0 : Int) c21) ∧ (c33 = true → D.ilt c21 c15) ∧ (c33 = true → c33 = true → c33 = true) ∧ (c33 =
  true → c33 = true → c33 = true) ∧ (c33 = true → c33 = true → c33 = true) ∧ (c33 = true → D.ile (0 : Int) x_3) ∧ (c33 = true → D.ilt x_3 (D.ilen c26)) ∧ (c33 =
  true → c33 = true → c33 = true) ∧ (c33 = true → c33 = true → c33 = true) ∧ (c33 = true → c33 = true → c33 = true) ∧ (c33 = true → inR IntKind.i64 c34) ∧ (c33 =
  true → c33 = true → c33 = true) ∧ (c33 = true → c33 = true → c33 = true) ∧ (c33 = true → D.ile (0 : Int) c19) ∧ (c33 = true → D.ilt c19 c15) ∧ (c33 = true →
  c33 = true → c33 = true) ∧ (c33 = true → c33 = true → c33 = true) ∧ (c33 = true → c33 = true → c33 = true) ∧ (c33 = true → D.ile (0 : Int) x_3) ∧ (c33 = true →
  D.ilt x_3 (D.ilen c28)) ∧ (c33 = true → c33 = true → c33 = true) ∧ (c33 = true → c33 = true → c33 = true) ∧ (c33 = true → c33 = true → c33 = true) ∧ (D.and
  true c33 = true → c33 = true) ∧ (c35 = true → c36 = c12 ∧ D.ile (0 : Int) c19 ∧ D.ilt c19 (D.ofN c36) ∧ c36 = c12 ∧ c36 = c12 ∧ D.ile (0 : Int) x_3 ∧ D.ilt x_3
  (D.ofN c38) ∧ c36 = c12 ∧ c38 = c38 ∧ inR IntKind.i64 c39 ∧ ∃ y, nxOk2 c2 a b x y ∧ (cs = cs ∧ ns = ns ∧ os = os ∧ fs = fs ∧ ls = ls ∧ ks = ks ∧ a = a ∧ b = b
  ∧ c2 = c2 ∧ Value.slice none (0) (0) = Value.slice none (0) (0) ∧ c8 = c8 ∧ c9 = c9 ∧ c12 = c12 ∧ x = x ∧ c19 = c19 ∧ c21 = c21 ∧ c39 = y ∧ cs = cs ∧ ns = ns ∧
  os = os ∧ fs = fs ∧ ls = ls ∧ ks = ks ∧ a = a ∧ b = b ∧ c3 = c3 ∧ c4 = c4 ∧ cs = cs ∧ ns = ns ∧ os = os ∧ fs = fs ∧ ls = ls ∧ ks = ks ∧ a = a ∧ b = b ∧ c8 = c8
  ∧ cs = cs ∧ ns = ns ∧ os = os ∧ fs = fs ∧ ls = ls ∧ ks = ks ∧ a = a ∧ b = b ∧ c9 = c9 ∧ cs = cs ∧ ns = ns ∧ os = os ∧ fs = fs ∧ ls = ls ∧ ks = ks ∧ c12 = c12 ∧
  c1 = c1 ∧ ls = ls ∧ c6 = c6 ∧ c7 = c7 ∧ x = x ∧ c16 = c16 ∧ c1 = c1 ∧ ls = ls ∧ x = x ∧ c17 = c17 ∧ c18 = c18 ∧ c19 = c19 ∧ c1 = c1 ∧ ls = ls ∧ x = x ∧ c17 =
  c17 ∧ c20 = c20 ∧ c21 = c21 ∧ D.set c30 c27 (D.set c37 (D.nat x_3) x) = nxDT c2 a b x y ∧ True) ∧ D.nlt (D.nat (D.sub c10 y)) (D.nat (D.sub c10 x_3))) ∧ (c35 =
  false → inR IntKind.i64 c39 ∧ ∃ y, nxOk2 c2 a b x y ∧ (cs = cs ∧ ns = ns ∧ os = os ∧ fs = fs ∧ ls = ls ∧ ks = ks ∧ a = a ∧ b = b ∧ c2 = c2 ∧ Value.slice none
  (0) (0) = Value.slice none (0) (0) ∧ c8 = c8 ∧ c9 = c9 ∧ c12 = c12 ∧ x = x ∧ c19 = c19 ∧ c21 = c21 ∧ c39 = y ∧ cs = cs ∧ ns = ns ∧ os = os ∧ fs = fs ∧ ls = ls
  ∧ ks = ks ∧ a = a ∧ b = b ∧ c3 = c3 ∧ c4 = c4 ∧ cs = cs ∧ ns = ns ∧ os = os ∧ fs = fs ∧ ls = ls ∧ ks = ks ∧ a = a ∧ b = b ∧ c8 = c8 ∧ cs = cs ∧ ns = ns ∧ os =
  os ∧ fs = fs ∧ ls = ls ∧ ks = ks ∧ a = a ∧ b = b ∧ c9 = c9 ∧ cs = cs ∧ ns = ns ∧ os = os ∧ fs = fs ∧ ls = ls ∧ ks = ks ∧ c12 = c12 ∧ c1 = c1 ∧ ls = ls ∧ c6 =
  c6 ∧ c7 = c7 ∧ x = x ∧ c16 = c16 ∧ c1 = c1 ∧ ls = ls ∧ x = x ∧ c17 = c17 ∧ c18 = c18 ∧ c19 = c19 ∧ c1 = c1 ∧ ls = ls ∧ x = x ∧ c17 = c17 ∧ c20 = c20 ∧ c21 =
  c21 ∧ c30 = nxDT c2 a b x y ∧ True) ∧ D.nlt (D.nat (D.sub c10 y)) (D.nat (D.sub c10 x_3)))) ∧ (D.lt x_3 (Int.ofNat c12) = false → inR IntKind.i64 c29 ∧ ∃ y,
 let c40 := D.add y (1 : Int); nxOk c2 a b y ∧ (cs = cs ∧ ns = ns ∧ os = os ∧ fs = fs ∧ ls = ls ∧ ks = ks ∧ a = a ∧ b = b ∧ c2 = c2 ∧ Value.slice none (0) (0) =
  Value.slice none (0) (0) ∧ c8 = c8 ∧ c9 = c9 ∧ c12 = c12 ∧ c29 = y ∧ cs = cs ∧ ns = ns ∧ os = os ∧ fs = fs ∧ ls = ls ∧ ks = ks ∧ a = a ∧ b = b ∧ c3 = c3 ∧ c4 =
  c4 ∧ cs = cs ∧ ns = ns ∧ os = os ∧ fs = fs ∧ ls = ls ∧ ks = ks ∧ a = a ∧ b = b ∧ c8 = c8 ∧ cs = cs ∧ ns = ns ∧ os = os ∧ fs = fs ∧ ls = ls ∧ ks = ks ∧ a = a ∧
  b = b ∧ c9 = c9 ∧ cs = cs ∧ ns = ns ∧ os = os ∧ fs = fs ∧ ls = ls ∧ ks = ks ∧ c12 = c12 ∧ c1 = c1 ∧ ls = ls ∧ c6 = c6 ∧ c7 = c7 ∧ c30 = nxT c2 a b c40 ∧ True)
  ∧ D.nlt (D.nat c40) (D.nat c22))) ∧ (c16 = false → cs = cs ∧ ns = ns ∧ os = os ∧ fs = fs ∧ ls = ls ∧ ks = ks ∧ a = a ∧ b = b ∧ c2 = c2 ∧ Value.slice none (0)
  (0) = Value.slice none (0) (0) ∧ c8 = c8 ∧ c9 = c9 ∧ D.len c23 = c12 ∧ c23 = c23 ∧ x = x ∧ cs = cs ∧ ns = ns ∧ os = os ∧ fs = fs ∧ ls = ls ∧ ks = ks ∧ a = a ∧
  b = b ∧ c3 = c3 ∧ c4 = c4 ∧ cs = cs ∧ ns = ns ∧ os = os ∧ fs = fs ∧ ls = ls ∧ ks = ks ∧ a = a ∧ b = b ∧ c8 = c8 ∧ cs = cs ∧ ns = ns ∧ os = os ∧ fs = fs ∧ ls =
  ls ∧ ks = ks ∧ a = a ∧ b = b ∧ c9 = c9 ∧ cs = cs ∧ ns = ns ∧ os = os ∧ fs = fs ∧ ls = ls ∧ ks = ks ∧ D.len c23 = c12 ∧ c23 = c23 ∧ c1 = c1 ∧ ls = ls ∧ c6 = c6
  ∧ c7 = c7 ∧ x = x ∧ c16 = c16 ∧ c23 = c5 ∧ True)))) :
    evF (mkc KQ9) (rnext16A (cs, ns, os, fs, ls, ks) a b) 26 [net cs ns os fs ls ks, .dat I a, .dat I b] [] ⟨fewC (cs, ns, os, fs, ls, ks) = true, .dat M (rnextF (cs, ns, os, fs, ls, ks) a b), []⟩ := of_eq (by kernel_rfl) hvc
def KQ10 : Kt := kOr 26 (dataK [.row N, .val I, .val I] (fun (n, _, _, _) => fewC n = true) fun (n, a, b, _) => .dat M (rnextF n a b)) KQ9
theorem vc_rmatch (a b : Int) (cs : LC) (ns os : LB) (fs : List Off) (ls : List Line) (ks : List Cla) (hvc :
 let c1 := (cs, ns, os, fs, ls, ks);
 let c2 := D.not (few16 c1);
 let c3 := rcostsF c1 a b;
 let c4 := D.cnd true (sameI c3 c3) false;
 let c5 := rnextF c1 a b;
 let c6 := D.cnd c4 (sameR c5 c5) false;
 let c7 := rboundsF c1 a b; true = true ∧ (True → True ∧ True ∧ (c2 = true → true = true ∧ True) ∧ (c2 = false → (true = true → true = true → true = true) ∧
  (true = true → true = true → true = true) ∧ (true = true → true = true → true = true) ∧ (true = true → True) ∧ (true = true → true = true → true = true) ∧
  (true = true → true = true → true = true) ∧ (true = true → true = true → true = true) ∧ (true = true → fewC c1 = true) ∧ (true = true → true = true → true =
  true) ∧ (true = true → true = true → true = true) ∧ (true = true → mildI c3) ∧ (D.and true true = true → true = true) ∧ (c4 = true → c4 = true → c4 = true) ∧
  (c4 = true → c4 = true → c4 = true) ∧ (c4 = true → c4 = true → c4 = true) ∧ (c4 = true → True) ∧ (c4 = true → c4 = true → c4 = true) ∧ (c4 = true → c4 = true →
  c4 = true) ∧ (c4 = true → c4 = true → c4 = true) ∧ (c4 = true → fewC c1 = true) ∧ (c4 = true → c4 = true → c4 = true) ∧ (c4 = true → c4 = true → c4 = true) ∧
  (c4 = true → mild c5) ∧ (D.and true c4 = true → c4 = true) ∧ (c6 = true → c6 = true → c6 = true) ∧ (c6 = true → c6 = true → c6 = true) ∧ (c6 = true → c6 = true
  → c6 = true) ∧ (c6 = true → True) ∧ (c6 = true → c6 = true → c6 = true) ∧ (c6 = true → c6 = true → c6 = true) ∧ (c6 = true → c6 = true → c6 = true) ∧ (c6 =
  true → fewC c1 = true) ∧ (c6 = true → c6 = true → c6 = true) ∧ (c6 = true → c6 = true → c6 = true) ∧ (c6 = true → mild c7) ∧ (D.and true c6 = true → c6 = true)
  ∧ D.cnd c6 (sameR c7 c7) false = true ∧ True))) :
    evF (mkc KQ10) noAnn 4 [net cs ns os fs ls ks, .dat I a, .dat I b] [] ⟨True, .dat .bool true, []⟩ := of_eq (by kernel_rfl) hvc
theorem KSQ9 : KSound Tryz.prog G0 KQ9 := kOr_ok (dataK_ok fun ((cs, ns, os, fs, ls, ks), a, b, _) => t_rbnds16 a b cs ns os fs ls ks) KSQ8
theorem nx_step {n : Net} {c : List Int} {b : List (List Int)} {i o d : Int} (i0 : 0 ≤ i) (i1 : i < n.2.2.2.2.1.length) : nx2 n c b i o d = if o ≠ d ∧ isBest n c b o d i = true then i else nx2 n c b (i + 1) o d := by
  unfold nx2
  rw [show ((n.2.2.2.2.1.length : Int) - i).toNat = ((n.2.2.2.2.1.length : Int) - (i + 1)).toNat + 1 by omega, nxR]
  rw [show (n.2.2.2.2.1.length : Int) - (((n.2.2.2.2.1.length : Int) - (i + 1)).toNat + 1 : Int) = i by omega]
theorem nx_none {n : Net} {c : List Int} {b : List (List Int)} {i o d : Int} (h : (n.2.2.2.2.1.length : Int) ≤ i) : nx2 n c b i o d = -1 := by
  unfold nx2
  rw [show ((n.2.2.2.2.1.length : Int) - i).toNat = 0 by omega]; rfl
theorem nx_find {n : Net} {c : List Int} {b : List (List Int)} {o d : Int} (hne : o ≠ d) : ∀ r : Nat, r ≤ n.2.2.2.2.1.length → nxR n c b r o d = match ((List.range n.2.2.2.2.1.length).drop (n.2.2.2.2.1.length - r)).find? fun i : Nat => isBest n c b o d i with
    | some i => (i : Int)
    | none => -1
  | 0, _ => by
    rw [List.drop_of_length_le (by simp)]; rfl
  | r + 1, h => by
    have ih := nx_find (n := n) (c := c) (b := b) hne r (by omega)
    have hlt : n.2.2.2.2.1.length - (r + 1) < (List.range n.2.2.2.2.1.length).length := by rw [List.length_range]; omega
    rw [List.drop_eq_getElem_cons hlt, List.getElem_range, show n.2.2.2.2.1.length - (r + 1) + 1 = n.2.2.2.2.1.length - r by omega, List.find?_cons, nxR]
    rw [show ((n.2.2.2.2.1.length : Int) - ((r : Int) + 1)) = ((n.2.2.2.2.1.length - (r + 1) : Nat) : Int) by omega]
    cases hb : isBest n c b o d ((n.2.2.2.2.1.length - (r + 1) : Nat) : Int) with
    | true => rw [if_pos ⟨hne, rfl⟩]
    | false => rw [if_neg (fun g => by cases g.2)]; exact ih
theorem nx_same {n : Net} {c : List Int} {b : List (List Int)} {o : Int} : ∀ r : Nat, nxR n c b r o o = -1
  | 0 => rfl
  | r + 1 => by rw [nxR, if_neg (fun g => g.1 rfl)]; exact nx_same r
theorem nx_all (cs : LC) (ns os : LB) (fs : List Off) (ls : List Line) (ks : List Cla) {a b o d : Int} (hr : ruseF (cs, ns, os, fs, ls, ks) a b = true) (o0 : 0 ≤ o) (o1 : o < fs.length) (d0 : 0 ≤ d) (d1 : d < fs.length) : nx2 (cs, ns, os, fs, ls, ks) (rcostsF (cs, ns, os, fs, ls, ks) a b) (rboundsF (cs, ns, os, fs, ls, ks) a b) 0 o d = next2 (cs, ns, os, fs, ls, ks) (rcostsF (cs, ns, os, fs, ls, ks) a b) (rboundsF (cs, ns, os, fs, ls, ks) a b) o d := by
  have hco := costs_ok cs ns os fs ls ks hr
  have hce : rcostsF (cs, ns, os, fs, ls, ks) a b = costsF (cs, ns, os, fs, ls, ks) a b := by unfold rcostsF; rw [hr]; rfl
  rw [← hce] at hco
  unfold nx2 next2
  by_cases e : o = d
  · rw [if_pos (.inl e), e]; exact nx_same _
  · have hf := nx_find (n := (cs, ns, os, fs, ls, ks)) (c := rcostsF (cs, ns, os, fs, ls, ks) a b) (b := rboundsF (cs, ns, os, fs, ls, ks) a b) e ls.length (Nat.le_refl _)
    rw [show ((((cs, ns, os, fs, ls, ks) : Net).2.2.2.2.1.length : Int) - 0).toNat = ls.length by show ((ls.length : Int) - 0).toNat = ls.length; omega, hf]
    rw [show ((cs, ns, os, fs, ls, ks) : Net).2.2.2.2.1.length - ls.length = 0 from Nat.sub_self _, List.drop_zero]
    split
    · rename_i i hi
      have hil := List.mem_range.1 (List.mem_of_find?_eq_some hi)
      have hil : i < ls.length := hil
      have hp : isBest (cs, ns, os, fs, ls, ks) (rcostsF (cs, ns, os, fs, ls, ks) a b) (rboundsF (cs, ns, os, fs, ls, ks) a b) o d i = true := List.find?_some (p := fun i : Nat => isBest (cs, ns, os, fs, ls, ks) (rcostsF (cs, ns, os, fs, ls, ks) a b) (rboundsF (cs, ns, os, fs, ls, ks) a b) o d i) hi
      obtain ⟨_, p2, p3, p4⟩ := isBest_iff.1 hp
      have hc2 := hco.2.2 i (by omega) (by rw [hco.2.1]; show (i : Int) < ls.length; omega)
      rw [if_neg (fun g => by
        rcases g with g | g
        · exact e g
        · rcases hc2 with q | q
          · exact p2 q
          · omega)]
      unfold bestF
      rw [hi]
    · rename_i hi
      split
      · rfl
      · unfold bestF; rw [hi]
theorem nxD_set (cs : LC) (ns os : LB) (fs : List Off) (ls : List Line) (ks : List Cla) {a b x y : Int} (hs : soundF (cs, ns, os, fs, ls, ks) = true) (x0 : 0 ≤ x) (x1 : x < ls.length) (y0 : 0 ≤ y) (y1 : y < fs.length) (hne : (lineOf (cs, ns, os, fs, ls, ks) x).2.1 ≠ y) (hb : isBest (cs, ns, os, fs, ls, ks) (rcostsF (cs, ns, os, fs, ls, ks) a b) (rboundsF (cs, ns, os, fs, ls, ks) a b) (lineOf (cs, ns, os, fs, ls, ks) x).2.1 y x = true) :
    (nxDT (cs, ns, os, fs, ls, ks) a b x y).set (lineOf (cs, ns, os, fs, ls, ks) x).2.1.toNat (((nxDT (cs, ns, os, fs, ls, ks) a b x y).getD (lineOf (cs, ns, os, fs, ls, ks) x).2.1.toNat []).set y.toNat x) = nxDT (cs, ns, os, fs, ls, ks) a b x (y + 1) := by
  obtain ⟨o0, o1, _⟩ := sound_line cs ns os fs ls ks hs x0 x1
  unfold nxDT
  show (buildF _ (fs.length : Int)).set _ (((buildF _ (fs.length : Int)).getD _ _).set _ _) = buildF _ (fs.length : Int)
  rw [buildF_set o0 o1 y0 y1]
  refine buildF_congr fun i j i0 i1 j0 j1 => ?_
  unfold nxD
  by_cases g : i = (lineOf (cs, ns, os, fs, ls, ks) x).2.1
  · by_cases g2 : j = y
    · rw [if_pos ⟨g, g2⟩, if_pos ⟨g, by omega⟩, g, g2, nx_step x0 x1, if_pos ⟨hne, hb⟩]
    · rw [if_neg (fun q => g2 q.2)]
      by_cases g3 : j < y
      · rw [if_pos ⟨g, g3⟩, if_pos ⟨g, by omega⟩]
      · rw [if_neg (fun q => g3 q.2), if_neg (fun q => by have := q.2; omega)]
  · rw [if_neg (fun q => g q.1), if_neg (fun q => g q.1), if_neg (fun q => g q.1)]
theorem nxD_skip (cs : LC) (ns os : LB) (fs : List Off) (ls : List Line) (ks : List Cla) {a b x y : Int} (x0 : 0 ≤ x) (x1 : x < ls.length) (hb : ¬ ((lineOf (cs, ns, os, fs, ls, ks) x).2.1 ≠ y ∧ isBest (cs, ns, os, fs, ls, ks) (rcostsF (cs, ns, os, fs, ls, ks) a b) (rboundsF (cs, ns, os, fs, ls, ks) a b) (lineOf (cs, ns, os, fs, ls, ks) x).2.1 y x = true)) : nxDT (cs, ns, os, fs, ls, ks) a b x y = nxDT (cs, ns, os, fs, ls, ks) a b x (y + 1) := by
  unfold nxDT
  refine buildF_congr fun i j i0 i1 j0 j1 => ?_
  unfold nxD
  by_cases g : i = (lineOf (cs, ns, os, fs, ls, ks) x).2.1
  · by_cases g2 : j = y
    · rw [if_neg (fun q => by have := q.2; omega), if_pos ⟨g, by omega⟩, g, g2, nx_step (i := x) x0 x1, if_neg hb]
    · by_cases g3 : j < y
      · rw [if_pos ⟨g, g3⟩, if_pos ⟨g, by omega⟩]
      · rw [if_neg (fun q => g3 q.2), if_neg (fun q => by have := q.2; omega)]
  · rw [if_neg (fun q => g q.1), if_neg (fun q => g q.1)]
theorem nxD_start (cs : LC) (ns os : LB) (fs : List Off) (ls : List Line) (ks : List Cla) (a b x : Int) : nxT (cs, ns, os, fs, ls, ks) a b (x + 1) = nxDT (cs, ns, os, fs, ls, ks) a b x 0 := by
  unfold nxT nxDT
  refine buildF_congr fun i j i0 i1 j0 j1 => ?_
  unfold nxD
  rw [if_neg (fun q => by have := q.2; omega)]
theorem nxD_end (cs : LC) (ns os : LB) (fs : List Off) (ls : List Line) (ks : List Cla) {a b x : Int} (x0 : 0 ≤ x) (x1 : x < ls.length) : nxDT (cs, ns, os, fs, ls, ks) a b x fs.length = nxT (cs, ns, os, fs, ls, ks) a b x := by
  unfold nxT nxDT
  refine buildF_congr fun i j i0 i1 j0 j1 => ?_
  unfold nxD
  by_cases g : i = (lineOf (cs, ns, os, fs, ls, ks) x).2.1
  · rw [if_pos ⟨g, j1⟩]
  · rw [if_neg (fun q => g q.1), nx_step (i := x) x0 x1, if_neg (fun q => g (isBest_iff.1 q.2).1.symm)]
theorem t_rnext16 (a b : Int) (cs : LC) (ns os : LB) (fs : List Off) (ls : List Line) (ks : List Cla) : SoundC Tryz.prog G0 26 [net cs ns os fs ls ks, .dat I a, .dat I b] [] ⟨fewC (cs, ns, os, fs, ls, ks) = true, .dat M (rnextF (cs, ns, os, fs, ls, ks) a b), []⟩ := by
  refine sound_of_ev (c := mkc KQ9) KSQ9 KI0s hm (vc_rnext16 a b cs ns os fs ls ks ⟨rfl, fun hp => ?_⟩)
  simp only [cnd_and, D.and, D.not, Bool.true_and, eq_self, true_and, and_true, imp_self, implies_true, Bool.not_eq_true', Bool.not_eq_false', Bool.and_eq_true, Bool.and_eq_false_imp, Int.ofNat_eq_natCast, D.nil, D.eq, D.ne, D.lt, D.ge, D.ilen, D.ile, D.ilt, D.nlt, D.sub, D.add, D.nat, D.ofN, D.len, D.get, D.set, decide_eq_true_eq, decide_eq_false_iff_not, beq_iff_eq, bne_iff_ne, beq_eq_false_iff_ne, lineOf_fold cs ns os fs ls ks]
  have cl : (ctab (-1) fs.length fs.length).length = fs.length := by rw [ctab_len]; exact Int.toNat_natCast _
  rw [cl]
  refine ⟨hp, fun h => by unfold rnextF; rw [h]; rfl, fun hr => ?_⟩
  have hs := (ruse_iff.1 hr).2
  have q12 := (noF_offs cs ns os fs ls ks (sound_noF cs ns os fs ls ks hs)).1
  have l40 := (lines_ok cs ns os fs ls ks (sound_noF cs ns os fs ls ks hs)).2
  have hce : rcostsF (cs, ns, os, fs, ls, ks) a b = costsF (cs, ns, os, fs, ls, ks) a b := by unfold rcostsF; rw [hr]; rfl
  have hbe : rboundsF (cs, ns, os, fs, ls, ks) a b = boundsF (cs, ns, os, fs, ls, ks) (costsF (cs, ns, os, fs, ls, ks) a b) := by unfold rboundsF; rw [hr]; rfl
  have hcl : (rcostsF (cs, ns, os, fs, ls, ks) a b).length = ls.length := by rw [hce]; exact costsF_len _ _ _
  have sb : Mp.Sq fs.length (rboundsF (cs, ns, os, fs, ls, ks) a b) := by rw [hbe]; exact Mp.buildF_sq _ _
  have sd : ∀ x y : Int, Mp.Sq fs.length (nxDT (cs, ns, os, fs, ls, ks) a b x y) := fun x y => Mp.buildF_sq _ _
  have st : ∀ x : Int, Mp.Sq fs.length (nxT (cs, ns, os, fs, ls, ks) a b x) := fun x => Mp.buildF_sq _ _
  refine ⟨hp, hp, by show fs.length ≤ 1000000; omega, in_small (by omega), ⟨(ls.length : Int) - 1, ⟨hp, hr, by omega, by show (ls.length : Int) - 1 < ls.length; omega⟩, rfl, ?_⟩, fun x hx => ⟨fun hge => ?_, fun hlt => ?_⟩⟩
  · have e : ∀ i j : Int, nx2 (cs, ns, os, fs, ls, ks) (rcostsF (cs, ns, os, fs, ls, ks) a b) (rboundsF (cs, ns, os, fs, ls, ks) a b) ((ls.length : Int) - 1 + 1) i j = -1 := fun i j => nx_none (by show (ls.length : Int) ≤ _; omega)
    unfold nxT buildF ctab
    simp only [e, List.map_const', List.length_range]
  · have x1 : x < ls.length := hx.2.2.2
    obtain ⟨o0, o1, t0, t1, _⟩ := sound_line cs ns os fs ls ks hs hge x1
    refine ⟨hge, x1, hge, x1, ⟨0, ⟨hx, hge, Int.le_refl _, Int.natCast_nonneg _⟩, rfl, nxD_start cs ns os fs ls ks a b x⟩, fun y hy => ⟨(sd x y).len, fun hlt => ?_, fun hge2 => ?_⟩⟩
    · have y0 := hy.2.2.1
      have rT := sb.row _ t0 t1
      have rO := sb.row _ o0 o1
      have bl := sb.len
      have dl := (sd x y).len
      have dO := (sd x y).row _ o0 o1
      have hcb := (costs_ok cs ns os fs ls ks hr).2.2 x hge (by rw [costsF_len]; exact x1)
      have hbb := (bnd_ok cs ns os fs ls ks (costs_ok cs ns os fs ls ks hr) _ y t0 t1 y0 hlt).2
      rw [← hce] at hcb
      rw [← hbe] at hbb
      unfold at2 at hbb
      have hok : nxOk2 (cs, ns, os, fs, ls, ks) a b x (y + 1) := ⟨hx, hge, by omega, by show y + 1 ≤ (fs.length : Int); omega⟩
      have hin : (rcostsF (cs, ns, os, fs, ls, ks) a b).getD x.toNat 0 ≠ -1099511627776 → inR .i64 ((rcostsF (cs, ns, os, fs, ls, ks) a b).getD x.toNat 0 + ((rboundsF (cs, ns, os, fs, ls, ks) a b).getD (lineOf (cs, ns, os, fs, ls, ks) x).2.2.1.toNat []).getD y.toNat 0) := fun h => by
        rcases hcb with q | q
        · exact (h q).elim
        · unfold inR; simp only; omega
      refine ⟨hge, by omega, ?_⟩
      and_intros
      all_goals try first
        | exact fun _ => t0
        | exact fun _ => o0
        | exact fun _ => y0
        | exact fun _ => hge
        | exact fun h => hin h.1.1
        | (intro _; omega)
      · intro h
        have hT := of_decide_eq_true h.1.2
        have hb : isBest (cs, ns, os, fs, ls, ks) (rcostsF (cs, ns, os, fs, ls, ks) a b) (rboundsF (cs, ns, os, fs, ls, ks) a b) (lineOf (cs, ns, os, fs, ls, ks) x).2.1 y x = true := isBest_iff.2 ⟨rfl, h.1.1.1, hT, h.2⟩
        exact ⟨dl, o0, by omega, dl, dl, y0, by omega, dl, in_small (by omega), y + 1, hok, ⟨rfl, nxD_set cs ns os fs ls ks hs hge x1 y0 hlt h.1.1.2 hb⟩, by omega⟩
      · intro h
        refine ⟨in_small (by omega), y + 1, hok, ⟨rfl, nxD_skip cs ns os fs ls ks hge x1 fun q => ?_⟩, by omega⟩
        obtain ⟨_, p2, p3, p4⟩ := isBest_iff.1 q.2
        exact h ⟨⟨p2, q.1⟩, decide_eq_true p3⟩ p4
    · have ey : y = fs.length := by
        have : y ≤ fs.length := hy.2.2.2
        omega
      refine ⟨in_small (by omega), x - 1, ⟨hp, hr, by omega, by show x - 1 < (ls.length : Int); omega⟩, ⟨rfl, ?_⟩, by omega⟩
      rw [ey, show x - 1 + 1 = x by omega]
      exact nxD_end cs ns os fs ls ks hge x1
  · have ex : x = -1 := by have := hx.2.2.1; omega
    have dl := (st (x + 1)).len
    have he : nxT (cs, ns, os, fs, ls, ks) a b (x + 1) = rnextF (cs, ns, os, fs, ls, ks) a b := by
      rw [ex]
      unfold rnextF nextF nxT
      rw [hr, if_pos rfl, ← hce]
      show buildF _ (fs.length : Int) = buildF _ (fs.length : Int)
      refine buildF_congr fun i j i0 i1 j0 j1 => ?_
      rw [show (-1 : Int) + 1 = 0 by omega, nx_all cs ns os fs ls ks hr i0 i1 j0 j1, hbe, hce]
    exact ⟨dl, dl, he⟩
theorem KSQ10 : KSound Tryz.prog G0 KQ10 := kOr_ok (dataK_ok fun ((cs, ns, os, fs, ls, ks), a, b, _) => t_rnext16 a b cs ns os fs ls ks) KSQ9
theorem t_rmatch (a b : Int) (cs : LC) (ns os : LB) (fs : List Off) (ls : List Line) (ks : List Cla) : SoundC Tryz.prog G0 4 [net cs ns os fs ls ks, .dat I a, .dat I b] [] ⟨True, .dat .bool true, []⟩ := by
  refine sound_of_ev (c := mkc KQ10) KSQ10 KI0s hm (vc_rmatch a b cs ns os fs ls ks ⟨rfl, fun _ => ?_⟩)
  have e1 : ∀ l : List Int, sameI l l = true := fun l => by unfold sameI; simp
  have e2 : ∀ l : List (List Int), sameR l l = true := fun l => by unfold sameR; simp
  simp only [cnd_and, D.and, D.not, Bool.and_true, eq_self, true_and, and_true, imp_self, implies_true, Bool.not_eq_true', Bool.not_eq_false', forall_const, e1, e2]
  intro hf
  have hfc := few_fewC (Bool.and_eq_true _ _ ▸ (Bool.and_eq_true _ _ ▸ (show (fewF (cs, ns, os, fs, ls, ks) && decide (fs.length ≤ 5) && decide (ls.length ≤ 12)) = true from hf)).1).1
  have h5 : fs.length ≤ 5 ∧ ls.length ≤ 12 := by
    have : (fewF (cs, ns, os, fs, ls, ks) && decide (fs.length ≤ 5) && decide (ls.length ≤ 12)) = true := hf
    simp only [Bool.and_eq_true, decide_eq_true_eq] at this
    exact ⟨this.1.2, this.2⟩
  have hmild : ∀ m : List (List Int), Mp.Sq fs.length m → mild m := fun m sw => ⟨by rw [sw.len]; omega, fun r hr => by
    obtain ⟨i, hi, rfl⟩ := List.getElem_of_mem hr
    have := sw.row i (by omega) (by rw [← sw.len]; omega)
    rw [Int.toNat_natCast, List.getD_eq_getElem?_getD, List.getElem?_eq_getElem hi, Option.getD_some] at this
    omega⟩
  have hnil : mild [] := ⟨Nat.zero_le _, fun r hr => by cases hr⟩
  refine ⟨hfc, ?_, hfc, ?_, hfc, ?_⟩
  · unfold rcostsF
    split
    · show (costsF (cs, ns, os, fs, ls, ks) a b).length ≤ 1000000
      rw [costsF_len]; show ls.length ≤ 1000000; omega
    · exact Nat.zero_le _
  · unfold rnextF
    split
    · exact hmild _ (Mp.buildF_sq _ _)
    · exact hnil
  · unfold rboundsF
    split
    · exact hmild _ (Mp.buildF_sq _ _)
    · exact hnil
end Go.Eng.Sv
