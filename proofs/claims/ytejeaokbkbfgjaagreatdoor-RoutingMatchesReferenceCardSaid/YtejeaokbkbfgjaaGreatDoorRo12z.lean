/- PeRo12z -/
import Derived.Test.YtejeaokbkbfgjaaGreatDoorX22
import Derived.Test.YtejeaokbkbfgjaaGreatDoorRo5z
import Derived.Test.YtejeaokbkbfgjaaGreatDoorRo11z
set_option linter.unusedSimpArgs false
set_option linter.unusedVariables false
set_option maxRecDepth 100000
noncomputable section
namespace Go.Eng.Sv
open Go.Proofs
open Go.Eng.Mp (buildF rowsF rowF preBuild upto at2 idx2 starS starE starP)
def diagG (k i j : Int) : Int := if i = j ∧ i < k then 0 else -1
def diagT (q k : Int) : List (List Int) := buildF (diagG k) q
def stepOk (n : Net) (c : List Int) (m : List (List Int)) (k d : Int) : Prop := c.getD k.toNat 0 = noneI ∨ at2 m (lineOf n k).2.2.1 d < 0 ∨ (0 ≤ at2 m (lineOf n k).2.1 d ∧ at2 m (lineOf n k).2.1 d ≤ c.getD k.toNat 0 + at2 m (lineOf n k).2.2.1 d)
def wP (x : Int) : Nat := if x < 0 then 1000000000 else x.toNat
def wC (x : Int) : Nat := if x < 0 then 0 else 1
def sumW (w : Int → Nat) (m : List (List Int)) : Nat := (m.map fun r => (r.map w).sum).sum
def muB (b : Bool) (m : List (List Int)) : Nat := 2 * sumW wP m + (if b then 1 else 0)
def bInv (n : Net) (a b : Int) (m : List (List Int)) : Prop := ruseF n a b = true ∧ m.length = n.2.2.2.1.length ∧ (∀ o : Int, 0 ≤ o → o < n.2.2.2.1.length → (m.getD o.toNat []).length = n.2.2.2.1.length) ∧
  (∀ o : Int, 0 ≤ o → o < n.2.2.2.1.length → at2 m o o = 0) ∧ (∀ o d : Int, 0 ≤ o → o < n.2.2.2.1.length → 0 ≤ d → d < n.2.2.2.1.length → -1 ≤ at2 m o d ∧ at2 m o d ≤ 1000000 * sumW wC m) ∧
  (∀ o d : Int, 0 ≤ o → o < n.2.2.2.1.length → 0 ≤ d → d < n.2.2.2.1.length → 0 ≤ at2 m o d → 0 ≤ at2 (rboundsF n a b) o d ∧ at2 (rboundsF n a b) o d ≤ at2 m o d)
def in10 (n : Net) (a b : Int) (x : Bool) (m : List (List Int)) : Prop := bInv n a b m ∧ (x = false → ∀ k d : Int, 0 ≤ k → k < n.2.2.2.2.1.length → 0 ≤ d → d < n.2.2.2.1.length → stepOk n (rcostsF n a b) m k d)
def in13 (n : Net) (a b : Int) (m0 : List (List Int)) (x : Bool) (m : List (List Int)) (i : Int) : Prop := bInv n a b m ∧ 0 ≤ i ∧ i ≤ n.2.2.2.2.1.length ∧
  (x = false → m = m0 ∧ ∀ k d : Int, 0 ≤ k → k < i → 0 ≤ d → d < n.2.2.2.1.length → stepOk n (rcostsF n a b) m k d) ∧ (x = true → sumW wP m < sumW wP m0)
def in18 (n : Net) (a b : Int) (m1 : List (List Int)) (x1 : Bool) (i : Int) (x : Bool) (m : List (List Int)) (d : Int) : Prop := bInv n a b m ∧ 0 ≤ d ∧ d ≤ n.2.2.2.1.length ∧
  ((x = x1 ∧ m = m1 ∧ ∀ e : Int, 0 ≤ e → e < d → stepOk n (rcostsF n a b) m i e) ∨ (x = true ∧ sumW wP m < sumW wP m1))
def KQ8 : Kt := kOr 23 (dataK [.row N, .val I, .val I] (fun (n, _, _, _) => fewC n = true) fun (n, a, b, _) => .dat R (rcostsF n a b)) <|
  kOr 54 (freshK [.row N, .val I] (fun (n, _, _) => tabP n) (fun (n, v, _) => .buf 0 (D.len (ctab v (D.ilen n.2.2.2.1) (D.ilen n.2.2.2.1)))) fun (n, v, _) => .mat 37 3 I (ctab v (D.ilen n.2.2.2.1) (D.ilen n.2.2.2.1)) []) KQ7
def matAt (s : St) (nm : Nat) : Option (List (List Int)) := match s.mem.lookup nm with
  | some (.mat _ _ (.int .i64) xss []) => some xss
  | _ => none
def matNames2 (s : St) : List Nat := s.mem.filterMap fun p => match p.2 with
  | .mat _ _ _ _ _ => some p.1
  | _ => none
def rbnds16A (n : Net) (a b : Int) : Ann := ⟨fun id s => match s.sig.T 7 with
  | .buf nm _ => match id with
    | 5 => some { α := Int, inv := fun k => upto k (D.ilen n.2.2.2.1), st := fun k => putM (put (flat s) [(8, .dat I k)]) nm (.mat 37 3 I (diagT (D.ilen n.2.2.2.1) k) []), μ := fun k => D.nat (D.sub (D.ilen n.2.2.2.1) k) }
    | 10 => some { α := Bool × List (List Int) × Int, inv := fun x => in10 n a b x.1 x.2.1, st := fun x => putM (put (flat s) [(10, .dat .bool x.1)]) nm (.mat 37 3 I x.2.1 []), μ := fun x => muB x.1 x.2.1 }
    | 13 => match matAt s nm with
      | some m0 => some { α := Bool × List (List Int) × Int, inv := fun x => in13 n a b m0 x.1 x.2.1 x.2.2, st := fun x => putM (put (flat s) [(10, .dat .bool x.1), (11, .dat I x.2.2)]) nm (.mat 37 3 I x.2.1 []), μ := fun x => D.nat (D.sub (D.ilen n.2.2.2.2.1) x.2.2) }
      | none => none
    | 1000018 => match matAt s nm, s.sig.T 11, s.sig.T 140 with
      | some m1, .dat (.int .i64) i, .dat .bool x1 => some { α := Bool × List (List Int) × Int, inv := fun x => in18 n a b m1 x1 i x.1 x.2.1 x.2.2, st := fun x => putM (put (flat s) [(10, .dat .bool x.1), (14, .dat I x.2.2)]) nm (.mat 37 3 I x.2.1 []), μ := fun x => D.nat (D.sub (D.ilen n.2.2.2.1) x.2.2) }
      | _, _, _ => none
    | _ => none
  | _ => none, fun id s => match id with
  | 23 => some (frz (matNames2 s) s)
  | _ => none, fun _ _ => none⟩
theorem vc_rbnds16 (a b : Int) (cs : LC) (ns os : LB) (fs : List Off) (ls : List Line) (ks : List Cla) (hvc :
 let c1 := (ls, ks);
 let c2 := (cs, ns, os, fs, c1);
 let c3 := ruseF c2 a b;
 let c4 := D.not c3;
 let c5 := rboundsF c2 a b;
 let c6 := D.ilen fs;
 let c7 := ctab (-1 : Int) c6 c6;
 let c8 := D.len c7;
 let c9 := Int.ofNat c8;
 let c10 := rcostsF c2 a b;
 let c11 := D.ilen ls;
 let c12 := (ByteArray.mk (D.nil UInt8).toArray, (0 : Int), (0 : Int), (0 : Int), (0 : Int), (0 : Int));
 let c13 := D.ilen c10; true = true ∧ (fewC c2 = true → fewC c2 = true ∧ (c4 = true → c5 = D.nil (List Int) ∧ True) ∧ (c4 = false → tabP c2 ∧ (∃ x, upto x c6 ∧
  cs = cs ∧ ns = ns ∧ os = os ∧ fs = fs ∧ ls = ls ∧ ks = ks ∧ a = a ∧ b = b ∧ c2 = c2 ∧ Value.slice none (0) (0) = Value.slice none (0) (0) ∧ c8 = c8 ∧ (0 : Int)
  = x ∧ cs = cs ∧ ns = ns ∧ os = os ∧ fs = fs ∧ ls = ls ∧ ks = ks ∧ a = a ∧ b = b ∧ c3 = c3 ∧ c4 = c4 ∧ cs = cs ∧ ns = ns ∧ os = os ∧ fs = fs ∧ ls = ls ∧ ks = ks
  ∧ c8 = c8 ∧ c7 = diagT c6 x ∧ True) ∧ ∀ (x : Int),
 let c14 := D.len (diagT c6 x);
 let c15 := D.get (diagT c6 x) (D.nat x) (D.nil Int);
 let c16 := D.len c15;
 let c17 := D.add x (1 : Int); upto x c6 → D.len (diagT c6 x) = c8 ∧ (D.lt x c9 = true → c14 = c8 ∧ D.ile (0 : Int) x ∧ D.ilt x (D.ofN c14) ∧ c14 = c8 ∧ c14 = c8
  ∧ D.ile (0 : Int) x ∧ D.ilt x (D.ofN c16) ∧ c14 = c8 ∧ c16 = c16 ∧ inR IntKind.i64 c17 ∧ ∃ y, upto y c6 ∧ (cs = cs ∧ ns = ns ∧ os = os ∧ fs = fs ∧ ls = ls ∧ ks
  = ks ∧ a = a ∧ b = b ∧ c2 = c2 ∧ Value.slice none (0) (0) = Value.slice none (0) (0) ∧ c8 = c8 ∧ c17 = y ∧ cs = cs ∧ ns = ns ∧ os = os ∧ fs = fs ∧ ls = ls ∧ ks
  = ks ∧ a = a ∧ b = b ∧ c3 = c3 ∧ c4 = c4 ∧ cs = cs ∧ ns = ns ∧ os = os ∧ fs = fs ∧ ls = ls ∧ ks = ks ∧ c8 = c8 ∧ D.set (diagT c6 x) (D.nat x) (D.set c15 (D.nat
  x) (0 : Int)) = diagT c6 y ∧ True) ∧ D.nlt (D.nat (D.sub c6 y)) (D.nat (D.sub c6 x))) ∧ (D.lt x c9 = false → fewC c2 = true ∧ (∃ (x_3 : Bool × List (List Int)
  × Int),
 let c18 := x_3.fst;
 let c19 := x_3.snd.fst; in10 c2 a b c18 c19 ∧ cs = cs ∧ ns = ns ∧ os = os ∧ fs = fs ∧ ls = ls ∧ ks = ks ∧ a = a ∧ b = b ∧ c2 = c2 ∧ Value.slice none (0) (0) =
  Value.slice none (0) (0) ∧ c8 = c8 ∧ x = x ∧ c10 = c10 ∧ true = c18 ∧ cs = cs ∧ ns = ns ∧ os = os ∧ fs = fs ∧ ls = ls ∧ ks = ks ∧ a = a ∧ b = b ∧ c3 = c3 ∧ c4
  = c4 ∧ cs = cs ∧ ns = ns ∧ os = os ∧ fs = fs ∧ ls = ls ∧ ks = ks ∧ c8 = c8 ∧ x = x ∧ c8 = c8 ∧ c9 = c9 ∧ D.lt x c9 = D.lt x c9 ∧ cs = cs ∧ ns = ns ∧ os = os ∧
  fs = fs ∧ ls = ls ∧ ks = ks ∧ a = a ∧ b = b ∧ c10 = c10 ∧ diagT c6 x = c19 ∧ True) ∧ ∀ (x_3 : Bool × List (List Int) × Int),
 let c20 := x_3.fst;
 let c21 := x_3.snd.fst; in10 c2 a b c20 c21 → (c20 = true → (∃ (x_6 : Bool × List (List Int) × Int),
 let c22 := x_6.fst;
 let c23 := x_6.snd;
 let c24 := c23.fst;
 let c25 := c23.snd; in13 c2 a b c21 c22 c24 c25 ∧ cs = cs ∧ ns = ns ∧ os = os ∧ fs = fs ∧ ls = ls ∧ ks = ks ∧ a = a ∧ b = b ∧ c2 = c2 ∧ Value.slice none (0) (0)
  = Value.slice none (0) (0) ∧ c8 = c8 ∧ x = x ∧ c10 = c10 ∧ false = c22 ∧ (0 : Int) = c25 ∧ cs = cs ∧ ns = ns ∧ os = os ∧ fs = fs ∧ ls = ls ∧ ks = ks ∧ a = a ∧
  b = b ∧ c3 = c3 ∧ c4 = c4 ∧ cs = cs ∧ ns = ns ∧ os = os ∧ fs = fs ∧ ls = ls ∧ ks = ks ∧ c8 = c8 ∧ x = x ∧ c8 = c8 ∧ c9 = c9 ∧ D.lt x c9 = D.lt x c9 ∧ cs = cs ∧
  ns = ns ∧ os = os ∧ fs = fs ∧ ls = ls ∧ ks = ks ∧ a = a ∧ b = b ∧ c10 = c10 ∧ c20 = c20 ∧ c21 = c24 ∧ True) ∧ ∀ (x_6 : Bool × List (List Int) × Int),
 let c26 := x_6.fst;
 let c27 := x_6.snd;
 let c28 := c27.fst;
 let c29 := c27.snd;
 let c30 := D.lt c29 c11;
 let c31 := D.nat c29;
 let c32 := D.get ls c31 c12;
 let c33 := c32.snd;
 let c34 := c33.fst;
 let c35 := c33.snd;
 let c36 := c35.fst;
 let c37 := D.get c10 c31 (0 : Int);
 let c38 := D.nat c36;
 let c39 := D.nat c34;
 let c40 := D.add c29 (1 : Int); in13 c2 a b c21 c26 c28 c29 → (c30 = true → D.ile (0 : Int) c29 ∧ D.ilt c29 c11 ∧ D.ile (0 : Int) c29 ∧ D.ilt c29 c11 ∧ (∃ (x_9
  : Bool × List (List Int) × Int),
 let c41 := x_9.fst;
 let c42 := x_9.snd;
 let c43 := c42.fst;
 let c44 := c42.snd; in18 c2 a b c28 c26 c29 c41 c43 c44 ∧ cs = cs ∧ ns = ns ∧ os = os ∧ fs = fs ∧ ls = ls ∧ ks = ks ∧ a = a ∧ b = b ∧ c2 = c2 ∧ Value.slice none
  (0) (0) = Value.slice none (0) (0) ∧ c8 = c8 ∧ x = x ∧ c10 = c10 ∧ c26 = c41 ∧ c29 = c29 ∧ c34 = c34 ∧ c36 = c36 ∧ (0 : Int) = c44 ∧ cs = cs ∧ ns = ns ∧ os =
  os ∧ fs = fs ∧ ls = ls ∧ ks = ks ∧ a = a ∧ b = b ∧ c3 = c3 ∧ c4 = c4 ∧ cs = cs ∧ ns = ns ∧ os = os ∧ fs = fs ∧ ls = ls ∧ ks = ks ∧ c8 = c8 ∧ x = x ∧ c8 = c8 ∧
  c9 = c9 ∧ D.lt x c9 = D.lt x c9 ∧ cs = cs ∧ ns = ns ∧ os = os ∧ fs = fs ∧ ls = ls ∧ ks = ks ∧ a = a ∧ b = b ∧ c10 = c10 ∧ c20 = c20 ∧ c29 = c29 ∧ c1 = c1 ∧ ls
  = ls ∧ c11 = c11 ∧ c30 = c30 ∧ c1 = c1 ∧ ls = ls ∧ c29 = c29 ∧ c32 = c32 ∧ c33 = c33 ∧ c34 = c34 ∧ c1 = c1 ∧ ls = ls ∧ c29 = c29 ∧ c32 = c32 ∧ c35 = c35 ∧ c36
  = c36 ∧ c28 = c43 ∧ True) ∧ ∀ (x_9 : Bool × List (List Int) × Int),
 let c45 := x_9.fst;
 let c46 := x_9.snd;
 let c47 := c46.fst;
 let c48 := c46.snd;
 let c49 := D.lt c48 c9;
 let c50 := D.cnd c49 (D.ne c37 (-1099511627776 : Int)) false;
 let c51 := D.len c47;
 let c52 := D.ofN c51;
 let c53 := D.get c47 c38 (D.nil Int);
 let c54 := D.len c53;
 let c55 := (0 : Int);
 let c56 := D.nat c48;
 let c57 := D.get c53 c56 (0 : Int);
 let c58 := D.ge c57 (0 : Int);
 let c59 := D.get c47 c39 (D.nil Int);
 let c60 := D.len c59;
 let c61 := D.get c59 c56 (0 : Int);
 let c62 := D.lt c61 (0 : Int);
 let c63 := D.add c37 c57;
 let c64 := D.cnd c58 (D.cnd c62 true (D.lt c63 c61)) false;
 let c65 := D.add c48 (1 : Int); in18 c2 a b c28 c26 c29 c45 c47 c48 → D.len c47 = c8 ∧ (c49 = true → c49 = true → c49 = true) ∧ (c49 = true → c49 = true → c49 =
  true) ∧ (c49 = true → D.ile (0 : Int) c29) ∧ (c49 = true → D.ilt c29 c13) ∧ (c49 = true → c49 = true → c49 = true) ∧ (c49 = true → c49 = true → c49 = true) ∧
  (D.and true c49 = true → c49 = true) ∧ (c50 = true → c51 = c8 ∧ D.ile (0 : Int) c36 ∧ D.ilt c36 c52 ∧ c51 = c8 ∧ c51 = c8 ∧ D.ile (0 : Int) c48 ∧ D.ilt c48
  (D.ofN c54) ∧ c51 = c8 ∧ c54 = c54 ∧ (c58 = true → c58 = true → c58 = true) ∧ (c58 = true → c58 = true → c58 = true) ∧ (c58 = true → c51 = c8) ∧ (c58 = true →
  D.ile (0 : Int) c34) ∧ (c58 = true → D.ilt c34 c52) ∧ (c58 = true → c58 = true → c58 = true) ∧ (c58 = true → c51 = c8) ∧ (c58 = true → c58 = true → c58 = true)
  ∧ (c58 = true → c58 = true → c58 = true) ∧ (c58 = true → c51 = c8) ∧ (c58 = true → D.ile (0 : Int) c48) ∧ (c58 = true → D.ilt c48 (D.ofN c60)) ∧ (c58 = true →
  c58 = true → c58 = true) ∧ (c58 = true → c51 = c8) ∧ (c58 = true → c60 = c60) ∧ (c58 = true → c58 = true → c58 = true) ∧ (c58 = true → c58 = true → c58 = true)
  ∧ (D.and c58 (D.not c62) = true → D.and c58 (D.not c62) = true → D.and c58 (D.not c62) = true) ∧ (D.and c58 (D.not c62) = true → D.and c58 (D.not c62) = true →
  D.and c58 (D.not c62) = true) ∧ (D.and c58 (D.not c62) = true → D.ile (0 : Int) c29) ∧ (D.and c58 (D.not c62) = true → D.ilt c29 c13) ∧ (D.and c58 (D.not c62)
  = true → D.and c58 (D.not c62) = true → D.and c58 (D.not c62) = true) ∧ (D.and c58 (D.not c62) = true → D.and c58 (D.not c62) = true → D.and c58 (D.not c62) =
  true) ∧ (D.and c58 (D.not c62) = true → D.and c58 (D.not c62) = true → D.and c58 (D.not c62) = true) ∧ (D.and c58 (D.not c62) = true → c51 = c8) ∧ (D.and c58
  (D.not c62) = true → D.ile (0 : Int) c36) ∧ (D.and c58 (D.not c62) = true → D.ilt c36 c52) ∧ (D.and c58 (D.not c62) = true → D.and c58 (D.not c62) = true →
  D.and c58 (D.not c62) = true) ∧ (D.and c58 (D.not c62) = true → c51 = c8) ∧ (D.and c58 (D.not c62) = true → D.and c58 (D.not c62) = true → D.and c58 (D.not
  c62) = true) ∧ (D.and c58 (D.not c62) = true → D.and c58 (D.not c62) = true → D.and c58 (D.not c62) = true) ∧ (D.and c58 (D.not c62) = true → c51 = c8) ∧
  (D.and c58 (D.not c62) = true → D.ile (0 : Int) c48) ∧ (D.and c58 (D.not c62) = true → D.ilt c48 (D.ofN c54)) ∧ (D.and c58 (D.not c62) = true → D.and c58
  (D.not c62) = true → D.and c58 (D.not c62) = true) ∧ (D.and c58 (D.not c62) = true → c51 = c8) ∧ (D.and c58 (D.not c62) = true → c54 = c54) ∧ (D.and c58 (D.not
  c62) = true → D.and c58 (D.not c62) = true → D.and c58 (D.not c62) = true) ∧ (D.and c58 (D.not c62) = true → D.and c58 (D.not c62) = true → D.and c58 (D.not
  c62) = true) ∧ (D.and c58 (D.not c62) = true → inR IntKind.i64 c63) ∧ (D.and c58 (D.not c62) = true → D.and c58 (D.not c62) = true → D.and c58 (D.not c62) =
  true) ∧ (D.and c58 (D.not c62) = true → D.and c58 (D.not c62) = true → D.and c58 (D.not c62) = true) ∧ (D.and c58 (D.not c62) = true → c51 = c8) ∧ (D.and c58
  (D.not c62) = true → D.ile (0 : Int) c34) ∧ (D.and c58 (D.not c62) = true → D.ilt c34 c52) ∧ (D.and c58 (D.not c62) = true → D.and c58 (D.not c62) = true →
  D.and c58 (D.not c62) = true) ∧ (D.and c58 (D.not c62) = true → c51 = c8) ∧ (D.and c58 (D.not c62) = true → D.and c58 (D.not c62) = true → D.and c58 (D.not
  c62) = true) ∧ (D.and c58 (D.not c62) = true → D.and c58 (D.not c62) = true → D.and c58 (D.not c62) = true) ∧ (D.and c58 (D.not c62) = true → c51 = c8) ∧
  (D.and c58 (D.not c62) = true → D.ile (0 : Int) c48) ∧ (D.and c58 (D.not c62) = true → D.ilt c48 (D.ofN c60)) ∧ (D.and c58 (D.not c62) = true → D.and c58
  (D.not c62) = true → D.and c58 (D.not c62) = true) ∧ (D.and c58 (D.not c62) = true → c51 = c8) ∧ (D.and c58 (D.not c62) = true → c60 = c60) ∧ (D.and c58 (D.not
  c62) = true → D.and c58 (D.not c62) = true → D.and c58 (D.not c62) = true) ∧ (D.and c58 (D.not c62) = true → D.and c58 (D.not c62) = true → D.and c58 (D.not
  c62) = true) ∧ (c58 = true → c58 = true → c58 = true) ∧ (c58 = true → D.and c58 (D.not c62) = true → D.and c58 (D.not c62) = true) ∧ (D.and true c58 = true →
  c58 = true) ∧ (c64 = true → c51 = c8 ∧ D.ile (0 : Int) c34 ∧ D.ilt c34 c52 ∧ c51 = c8 ∧ D.ile (0 : Int) c29 ∧ D.ilt c29 c13 ∧ c51 = c8 ∧ D.ile (0 : Int) c36 ∧
  D.ilt c36 c52 ∧ c51 = c8 ∧ c51 = c8 ∧ D.ile (0 : Int) c48 ∧ D.ilt c48 (D.ofN c54) ∧ c51 = c8 ∧ c54 = c54 ∧ inR IntKind.i64 c63 ∧ c51 = c8 ∧ D.ile (0 : Int) c48
  ∧ D.ilt c48 (D.ofN c60) ∧ c51 = c8 ∧ c60 = c60 ∧ inR IntKind.i64 c65 ∧ ∃ (y : Bool × List (List Int) × Int),
 let c66 := y.fst;
 let c67 := y.snd;
 let c68 := c67.fst;
 let c69 := c67.snd; in18 c2 a b c28 c26 c29 c66 c68 c69 ∧ (cs = cs ∧ ns = ns ∧ os = os ∧ fs = fs ∧ ls = ls ∧ ks = ks ∧ a = a ∧ b = b ∧ c2 = c2 ∧ Value.slice
  none (0) (0) = Value.slice none (0) (0) ∧ c8 = c8 ∧ x = x ∧ c10 = c10 ∧ true = c66 ∧ c29 = c29 ∧ c34 = c34 ∧ c36 = c36 ∧ c65 = c69 ∧ cs = cs ∧ ns = ns ∧ os =
  os ∧ fs = fs ∧ ls = ls ∧ ks = ks ∧ a = a ∧ b = b ∧ c3 = c3 ∧ c4 = c4 ∧ cs = cs ∧ ns = ns ∧ os = os ∧ fs = fs ∧ ls = ls ∧ ks = ks ∧ c8 = c8 ∧ x = x ∧ c8 = c8 ∧
  c9 = c9 ∧ D.lt x c9 = D.lt x c9 ∧ cs = cs ∧ ns = ns ∧ os = os ∧ fs = fs ∧ ls = ls ∧ ks = ks ∧ a = a ∧ b = b ∧ c10 = c10 ∧ c20 = c20 ∧ c29 = c29 ∧ c1 = c1 ∧ ls
  = ls ∧ c11 = c11 ∧ c30 = c30 ∧ c1 = c1 ∧ ls = ls ∧ c29 = c29 ∧ c32 = c32 ∧ c33 = c33 ∧ c34 = c34 ∧ c1 = c1 ∧ ls = ls ∧ c29 = c29 ∧ c32 = c32 ∧ c35 = c35 ∧ c36
  = c36 ∧ D.set c47 c39 (D.set c59 c56 c63) = c68 ∧ True) ∧ D.nlt (D.nat (D.sub c6 c69)) (D.nat (D.sub c6 c48))) ∧ (c64 = false → inR IntKind.i64 c65 ∧ ∃ (y :
  Bool × List (List Int) × Int),
 let c70 := y.fst;
 let c71 := y.snd;
 let c72 := c71.fst;
 let c73 := c71.snd; in18 c2 a b c28 c26 c29 c70 c72 c73 ∧ (cs = cs ∧ ns = ns ∧ os = os ∧ fs = fs ∧ ls = ls ∧ ks = ks ∧ a = a ∧ b = b ∧ c2 = c2 ∧ Value.slice
  none (0) (0) = Value.slice none (0) (0) ∧ c8 = c8 ∧ x = x ∧ c10 = c10 ∧ c45 = c70 ∧ c29 = c29 ∧ c34 = c34 ∧ c36 = c36 ∧ c65 = c73 ∧ cs = cs ∧ ns = ns ∧ os = os
  ∧ fs = fs ∧ ls = ls ∧ ks = ks ∧ a = a ∧ b = b ∧ c3 = c3 ∧ c4 = c4 ∧ cs = cs ∧ ns = ns ∧ os = os ∧ fs = fs ∧ ls = ls ∧ ks = ks ∧ c8 = c8 ∧ x = x ∧ c8 = c8 ∧ c9
  = c9 ∧ D.lt x c9 = D.lt x c9 ∧ cs = cs ∧ ns = ns ∧ os = os ∧ fs = fs ∧ ls = ls ∧ ks = ks ∧ a = a ∧ b = b ∧ c10 = c10 ∧ c20 = c20 ∧ c29 = c29 ∧ c1 = c1 ∧ ls =
  ls ∧ c11 = c11 ∧ c30 = c30 ∧ c1 = c1 ∧ ls = ls ∧ c29 = c29 ∧ c32 = c32 ∧ c33 = c33 ∧ c34 = c34 ∧ c1 = c1 ∧ ls = ls ∧ c29 = c29 ∧ c32 = c32 ∧ c35 = c35 ∧ c36 =
  c36 ∧ c47 = c72 ∧ True) ∧ D.nlt (D.nat (D.sub c6 c73)) (D.nat (D.sub c6 c48)))) ∧ (c50 = false → inR IntKind.i64 c40 ∧ ∃ (y : Bool × List (List Int) × Int),
 let c74 := y.fst;
 let c75 := y.snd;
 let c76 := c75.fst;
 let c77 := c75.snd; in13 c2 a b c21 c74 c76 c77 ∧ (cs = cs ∧ ns = ns ∧ os = os ∧ fs = fs ∧ ls = ls ∧ ks = ks ∧ a = a ∧ b = b ∧ c2 = c2 ∧ Value.slice none (0)
  (0) = Value.slice none (0) (0) ∧ c8 = c8 ∧ x = x ∧ c10 = c10 ∧ c45 = c74 ∧ c40 = c77 ∧ cs = cs ∧ ns = ns ∧ os = os ∧ fs = fs ∧ ls = ls ∧ ks = ks ∧ a = a ∧ b =
  b ∧ c3 = c3 ∧ c4 = c4 ∧ cs = cs ∧ ns = ns ∧ os = os ∧ fs = fs ∧ ls = ls ∧ ks = ks ∧ c8 = c8 ∧ x = x ∧ c8 = c8 ∧ c9 = c9 ∧ D.lt x c9 = D.lt x c9 ∧ cs = cs ∧ ns
  = ns ∧ os = os ∧ fs = fs ∧ ls = ls ∧ ks = ks ∧ a = a ∧ b = b ∧ c10 = c10 ∧ c20 = c20 ∧ c47 = c76 ∧ True) ∧ D.nlt (D.nat (D.sub c11 c77)) (D.nat (D.sub c11
  c29)))) ∧ (c30 = false → ∃ (y : Bool × List (List Int) × Int),
 let c78 := y.fst;
 let c79 := y.snd.fst; in10 c2 a b c78 c79 ∧ (cs = cs ∧ ns = ns ∧ os = os ∧ fs = fs ∧ ls = ls ∧ ks = ks ∧ a = a ∧ b = b ∧ c2 = c2 ∧ Value.slice none (0) (0) =
  Value.slice none (0) (0) ∧ c8 = c8 ∧ x = x ∧ c10 = c10 ∧ c26 = c78 ∧ cs = cs ∧ ns = ns ∧ os = os ∧ fs = fs ∧ ls = ls ∧ ks = ks ∧ a = a ∧ b = b ∧ c3 = c3 ∧ c4 =
  c4 ∧ cs = cs ∧ ns = ns ∧ os = os ∧ fs = fs ∧ ls = ls ∧ ks = ks ∧ c8 = c8 ∧ x = x ∧ c8 = c8 ∧ c9 = c9 ∧ D.lt x c9 = D.lt x c9 ∧ cs = cs ∧ ns = ns ∧ os = os ∧ fs
  = fs ∧ ls = ls ∧ ks = ks ∧ a = a ∧ b = b ∧ c10 = c10 ∧ c28 = c79 ∧ True) ∧ D.nlt (muB c78 c79) (muB c20 c21))) ∧ (c20 = false → cs = cs ∧ ns = ns ∧ os = os ∧
  fs = fs ∧ ls = ls ∧ ks = ks ∧ a = a ∧ b = b ∧ c2 = c2 ∧ Value.slice none (0) (0) = Value.slice none (0) (0) ∧ D.len c21 = c8 ∧ c21 = c21 ∧ x = x ∧ c10 = c10 ∧
  c20 = c20 ∧ cs = cs ∧ ns = ns ∧ os = os ∧ fs = fs ∧ ls = ls ∧ ks = ks ∧ a = a ∧ b = b ∧ c3 = c3 ∧ c4 = c4 ∧ cs = cs ∧ ns = ns ∧ os = os ∧ fs = fs ∧ ls = ls ∧
  ks = ks ∧ D.len c21 = c8 ∧ c21 = c21 ∧ x = x ∧ D.len c21 = c8 ∧ c21 = c21 ∧ c9 = c9 ∧ D.lt x c9 = D.lt x c9 ∧ cs = cs ∧ ns = ns ∧ os = os ∧ fs = fs ∧ ls = ls ∧
  ks = ks ∧ a = a ∧ b = b ∧ c10 = c10 ∧ c20 = c20 ∧ c21 = c5 ∧ True))))) :
    evF (mkc KQ8) (rbnds16A (cs, ns, os, fs, ls, ks) a b) 28 [net cs ns os fs ls ks, .dat I a, .dat I b] [] ⟨fewC (cs, ns, os, fs, ls, ks) = true, .dat M (rboundsF (cs, ns, os, fs, ls, ks) a b), []⟩ := of_eq (by kernel_rfl) hvc
theorem sum_set {α : Type} (f : α → Nat) : ∀ (l : List α) (i : Nat) (y : α) (h : i < l.length), ((l.set i y).map f).sum + f l[i] = (l.map f).sum + f y
  | x :: l, 0, y, h => by simp only [List.set_cons_zero, List.map_cons, List.sum_cons, List.getElem_cons_zero]; omega
  | x :: l, i + 1, y, h => by
    have := sum_set f l i y (by simp at h; omega)
    simp only [List.set_cons_succ, List.map_cons, List.sum_cons, List.getElem_cons_succ]; omega
def setM (m : List (List Int)) (o d v : Int) : List (List Int) := m.set o.toNat ((m.getD o.toNat []).set d.toNat v)
theorem sumW_set (w : Int → Nat) {m : List (List Int)} {q : Nat} (hl : m.length = q) (hr : ∀ o : Int, 0 ≤ o → o < q → (m.getD o.toNat []).length = q) {o d : Int} (o0 : 0 ≤ o) (o1 : o < q) (d0 : 0 ≤ d) (d1 : d < q) (v : Int) :
    sumW w (setM m o d v) + w (at2 m o d) = sumW w m + w v := by
  have h1 := hr o o0 o1
  have e1 : m.getD o.toNat [] = m[o.toNat]'(by omega) := by rw [List.getD_eq_getElem?_getD, List.getElem?_eq_getElem (by omega), Option.getD_some]
  have a1 := sum_set (fun r : List Int => (r.map w).sum) m o.toNat ((m.getD o.toNat []).set d.toNat v) (by omega)
  have a2 := sum_set w (m.getD o.toNat []) d.toNat v (by omega)
  have e2 : at2 m o d = (m.getD o.toNat [])[d.toNat]'(by omega) := by unfold at2; rw [List.getD_eq_getElem?_getD, List.getElem?_eq_getElem (by omega), Option.getD_some]
  unfold sumW setM
  rw [e2]
  simp only [← e1] at a1
  omega
theorem set_at {m : List (List Int)} {q : Nat} (hl : m.length = q) (hr : ∀ o : Int, 0 ≤ o → o < q → (m.getD o.toNat []).length = q) {o d : Int} (o0 : 0 ≤ o) (o1 : o < q) (d0 : 0 ≤ d) (d1 : d < q) (v : Int) {i j : Int} (i0 : 0 ≤ i) (i1 : i < q) (j0 : 0 ≤ j) (j1 : j < q) :
    at2 (setM m o d v) i j = if i = o ∧ j = d then v else at2 m i j := by
  unfold at2 setM
  have h1 := hr o o0 o1
  rw [List.getD_eq_getElem?_getD (l := m.set _ _), List.getElem?_set]
  by_cases e : o.toNat = i.toNat
  · have ei : i = o := by omega
    subst ei
    rw [if_pos rfl, if_pos (by omega), Option.getD_some, List.getD_eq_getElem?_getD, List.getElem?_set]
    by_cases e2 : d.toNat = j.toNat
    · have ej : j = d := by omega
      subst ej
      rw [if_pos rfl, if_pos (by omega), if_pos ⟨rfl, rfl⟩]; rfl
    · rw [if_neg e2, if_neg (fun g => e2 (by rw [g.2]))]
      rw [List.getD_eq_getElem?_getD (l := m.getD i.toNat [])]
  · rw [if_neg e, if_neg (fun g => e (by rw [g.1])), ← List.getD_eq_getElem?_getD]
theorem set_sq {m : List (List Int)} {q : Nat} (hl : m.length = q) (hr : ∀ o : Int, 0 ≤ o → o < q → (m.getD o.toNat []).length = q) {o d : Int} (o0 : 0 ≤ o) (o1 : o < q) (v : Int) : (setM m o d v).length = q ∧ ∀ i : Int, 0 ≤ i → i < q → ((setM m o d v).getD i.toNat []).length = q := by
  unfold setM
  refine ⟨by rw [List.length_set]; exact hl, fun i i0 i1 => ?_⟩
  rw [List.getD_eq_getElem?_getD, List.getElem?_set]
  by_cases e : o.toNat = i.toNat
  · rw [if_pos e, if_pos (by omega), Option.getD_some, List.length_set]; exact hr o o0 o1
  · rw [if_neg e, ← List.getD_eq_getElem?_getD]; exact hr i i0 i1
theorem sum_le {α : Type} (f : α → Nat) (K : Nat) : ∀ l : List α, (∀ x ∈ l, f x ≤ K) → (l.map f).sum ≤ l.length * K
  | [], _ => Nat.zero_le _
  | x :: l, h => by
    have h1 := h x List.mem_cons_self
    have ih := sum_le f K l fun y hy => h y (List.mem_cons_of_mem _ hy)
    simp only [List.map_cons, List.sum_cons, List.length_cons]
    rw [Nat.add_mul]; omega
theorem cnt_le {m : List (List Int)} {q : Nat} (hl : m.length = q) (hr : ∀ o : Int, 0 ≤ o → o < q → (m.getD o.toNat []).length = q) : sumW wC m ≤ q * q := by
  unfold sumW
  have h := sum_le (fun r : List Int => (r.map wC).sum) q m fun r hr' => by
    obtain ⟨i, hi, rfl⟩ := List.getElem_of_mem hr'
    have h1 := hr i (by omega) (by omega)
    rw [Int.toNat_natCast, List.getD_eq_getElem?_getD, List.getElem?_eq_getElem hi, Option.getD_some] at h1
    have h2 := sum_le wC 1 m[i] fun x _ => by unfold wC; split <;> omega
    show (m[i].map wC).sum ≤ q
    omega
  rw [hl] at h
  exact h
theorem upd_inv (cs : LC) (ns os : LB) (fs : List Off) (ls : List Line) (ks : List Cla) {a b k d : Int} {m : List (List Int)} (hi : bInv (cs, ns, os, fs, ls, ks) a b m) (k0 : 0 ≤ k) (k1 : k < ls.length) (hc : (rcostsF (cs, ns, os, fs, ls, ks) a b).getD k.toNat 0 ≠ noneI) (d0 : 0 ≤ d) (d1 : d < fs.length)
    (ht : 0 ≤ at2 m (lineOf (cs, ns, os, fs, ls, ks) k).2.2.1 d) (ho : at2 m (lineOf (cs, ns, os, fs, ls, ks) k).2.1 d < 0 ∨ (rcostsF (cs, ns, os, fs, ls, ks) a b).getD k.toNat 0 + at2 m (lineOf (cs, ns, os, fs, ls, ks) k).2.2.1 d < at2 m (lineOf (cs, ns, os, fs, ls, ks) k).2.1 d) :
    bInv (cs, ns, os, fs, ls, ks) a b (setM m (lineOf (cs, ns, os, fs, ls, ks) k).2.1 d ((rcostsF (cs, ns, os, fs, ls, ks) a b).getD k.toNat 0 + at2 m (lineOf (cs, ns, os, fs, ls, ks) k).2.2.1 d)) ∧ sumW wP (setM m (lineOf (cs, ns, os, fs, ls, ks) k).2.1 d ((rcostsF (cs, ns, os, fs, ls, ks) a b).getD k.toNat 0 + at2 m (lineOf (cs, ns, os, fs, ls, ks) k).2.2.1 d)) < sumW wP m ∧
    -1 ≤ at2 m (lineOf (cs, ns, os, fs, ls, ks) k).2.2.1 d ∧ at2 m (lineOf (cs, ns, os, fs, ls, ks) k).2.2.1 d ≤ 200000000 ∧ 0 < (rcostsF (cs, ns, os, fs, ls, ks) a b).getD k.toNat 0 ∧ (rcostsF (cs, ns, os, fs, ls, ks) a b).getD k.toNat 0 ≤ 1000000 := by
  obtain ⟨hr, hl, hrow, hdiag, hrng, hsound⟩ := hi
  have hl : m.length = fs.length := hl
  have hrow : ∀ o : Int, 0 ≤ o → o < fs.length → (m.getD o.toNat []).length = fs.length := hrow
  have hs := (ruse_iff.1 hr).2
  have q12 := (noF_offs cs ns os fs ls ks (sound_noF cs ns os fs ls ks hs)).1
  obtain ⟨o0, o1, t0, t1, hne, _⟩ := sound_line cs ns os fs ls ks hs k0 k1
  have hco := costs_ok cs ns os fs ls ks hr
  have hcb : 0 < (rcostsF (cs, ns, os, fs, ls, ks) a b).getD k.toNat 0 ∧ (rcostsF (cs, ns, os, fs, ls, ks) a b).getD k.toNat 0 ≤ 1000000 := by
    have e : rcostsF (cs, ns, os, fs, ls, ks) a b = costsF (cs, ns, os, fs, ls, ks) a b := by unfold rcostsF; rw [hr]; rfl
    rw [e] at hc ⊢
    rcases hco.2.2 k k0 (by rw [costsF_len]; exact k1) with g | g
    · exact (hc g).elim
    · exact g
  have hB := (bounds_ok cs ns os fs ls ks hco).1
  have hbe : rboundsF (cs, ns, os, fs, ls, ks) a b = boundsF (cs, ns, os, fs, ls, ks) (costsF (cs, ns, os, fs, ls, ks) a b) := by unfold rboundsF; rw [hr]; rfl
  have hce : rcostsF (cs, ns, os, fs, ls, ks) a b = costsF (cs, ns, os, fs, ls, ks) a b := by unfold rcostsF; rw [hr]; rfl
  have hg : ls[k.toNat]? = some (lineOf (cs, ns, os, fs, ls, ks) k) := by
    unfold lineOf
    show _ = some (ls.getD k.toNat _)
    rw [List.getD_eq_getElem?_getD, List.getElem?_eq_getElem (by omega), Option.getD_some]
  have hst := hB.step k.toNat _ hg (by rw [← hce]; exact hc) d d0 d1
  rw [← hbe, ← hce] at hst
  have hrt := hrng _ d t0 t1 d0 d1
  have hro := hrng _ d o0 o1 d0 d1
  have hsd := hsound _ d t0 t1 d0 d1 ht
  have hcnt := cnt_le hl hrow
  have hqq : fs.length * fs.length ≤ 144 := Nat.mul_le_mul (show fs.length ≤ 12 by omega) (show fs.length ≤ 12 by omega)
  have hP := sumW_set wP hl hrow o0 o1 d0 d1 ((rcostsF (cs, ns, os, fs, ls, ks) a b).getD k.toNat 0 + at2 m (lineOf (cs, ns, os, fs, ls, ks) k).2.2.1 d)
  have hC := sumW_set wC hl hrow o0 o1 d0 d1 ((rcostsF (cs, ns, os, fs, ls, ks) a b).getD k.toNat 0 + at2 m (lineOf (cs, ns, os, fs, ls, ks) k).2.2.1 d)
  have hsq := set_sq hl hrow o0 o1 (d := d) ((rcostsF (cs, ns, os, fs, ls, ks) a b).getD k.toNat 0 + at2 m (lineOf (cs, ns, os, fs, ls, ks) k).2.2.1 d)
  have hat := fun i j i0 i1 j0 j1 => set_at hl hrow o0 o1 d0 d1 ((rcostsF (cs, ns, os, fs, ls, ks) a b).getD k.toNat 0 + at2 m (lineOf (cs, ns, os, fs, ls, ks) k).2.2.1 d) (i := i) (j := j) i0 i1 j0 j1
  have hod : (lineOf (cs, ns, os, fs, ls, ks) k).2.1 ≠ d := fun e => by
    have := hdiag _ o0 o1
    rw [← e] at ho
    rw [this] at ho
    rw [← e] at ht
    omega
  have hst' : 0 ≤ at2 (rboundsF (cs, ns, os, fs, ls, ks) a b) (lineOf (cs, ns, os, fs, ls, ks) k).2.1 d ∧ at2 (rboundsF (cs, ns, os, fs, ls, ks) a b) (lineOf (cs, ns, os, fs, ls, ks) k).2.1 d ≤ (rcostsF (cs, ns, os, fs, ls, ks) a b).getD k.toNat 0 + at2 (rboundsF (cs, ns, os, fs, ls, ks) a b) (lineOf (cs, ns, os, fs, ls, ks) k).2.2.1 d := hst hsd.1
  generalize (rcostsF (cs, ns, os, fs, ls, ks) a b).getD k.toNat 0 = c at *
  generalize hv : c + at2 m (lineOf (cs, ns, os, fs, ls, ks) k).2.2.1 d = v at *
  have hv0 : 0 < v := by omega
  have hwv : wP v = v.toNat := by unfold wP; rw [if_neg (by omega)]
  have hcv : wC v = 1 := by unfold wC; rw [if_neg (by omega)]
  have hco2 : wC (at2 m (lineOf (cs, ns, os, fs, ls, ks) k).2.1 d) = if at2 m (lineOf (cs, ns, os, fs, ls, ks) k).2.1 d < 0 then 0 else 1 := rfl
  have hwo : wP (at2 m (lineOf (cs, ns, os, fs, ls, ks) k).2.1 d) = if at2 m (lineOf (cs, ns, os, fs, ls, ks) k).2.1 d < 0 then 1000000000 else (at2 m (lineOf (cs, ns, os, fs, ls, ks) k).2.1 d).toNat := rfl
  refine ⟨⟨hr, hsq.1, hsq.2, fun o x0 x1 => ?_, fun i j i0 i1 j0 j1 => ?_, fun i j i0 i1 j0 j1 => ?_⟩, ?_, hrt.1, by omega, hcb.1, hcb.2⟩
  · rw [hat o o x0 x1 x0 x1, if_neg (fun g => hod (g.1.symm.trans g.2))]
    exact hdiag o x0 x1
  · rw [hat i j i0 i1 j0 j1]
    have hij := hrng i j i0 i1 j0 j1
    split
    · by_cases g : at2 m (lineOf (cs, ns, os, fs, ls, ks) k).2.1 d < 0
      · rw [if_pos g] at hco2; omega
      · rw [if_neg g] at hco2; omega
    · by_cases g : at2 m (lineOf (cs, ns, os, fs, ls, ks) k).2.1 d < 0
      · rw [if_pos g] at hco2; omega
      · rw [if_neg g] at hco2; omega
  · rw [hat i j i0 i1 j0 j1]
    split
    · rename_i g
      rw [g.1, g.2]
      intro _
      exact ⟨hst'.1, by omega⟩
    · exact hsound i j i0 i1 j0 j1
  · by_cases g : at2 m (lineOf (cs, ns, os, fs, ls, ks) k).2.1 d < 0
    · rw [if_pos g] at hwo; omega
    · rw [if_neg g] at hwo; omega
theorem inv_end (cs : LC) (ns os : LB) (fs : List Off) (ls : List Line) (ks : List Cla) {a b : Int} {m : List (List Int)} (hi : bInv (cs, ns, os, fs, ls, ks) a b m) (hst : ∀ k d : Int, 0 ≤ k → k < ls.length → 0 ≤ d → d < fs.length → stepOk (cs, ns, os, fs, ls, ks) (rcostsF (cs, ns, os, fs, ls, ks) a b) m k d) : ∀ (f : Nat) (o d : Int), 0 ≤ o → o < fs.length → 0 ≤ d → d < fs.length → 0 ≤ at2 (rboundsF (cs, ns, os, fs, ls, ks) a b) o d → (at2 (rboundsF (cs, ns, os, fs, ls, ks) a b) o d).toNat ≤ f → 0 ≤ at2 m o d ∧ at2 m o d ≤ at2 (rboundsF (cs, ns, os, fs, ls, ks) a b) o d
  | f, o, d, o0, o1, d0, d1, hb, hf => by
    obtain ⟨hr, hl, hrow, hdiag, hrng, hsound⟩ := id hi
    have hco := costs_ok cs ns os fs ls ks hr
    have hbe : rboundsF (cs, ns, os, fs, ls, ks) a b = boundsF (cs, ns, os, fs, ls, ks) (costsF (cs, ns, os, fs, ls, ks) a b) := by unfold rboundsF; rw [hr]; rfl
    have hce : rcostsF (cs, ns, os, fs, ls, ks) a b = costsF (cs, ns, os, fs, ls, ks) a b := by unfold rcostsF; rw [hr]; rfl
    have hB := (bounds_ok cs ns os fs ls ks hco).1
    have hC := cost_pos cs ns os fs ls ks hco
    rw [← hbe, ← hce] at hB
    rw [← hce] at hC
    by_cases e : o = d
    · subst e
      have := hdiag o o0 o1
      omega
    · obtain ⟨k, l, k1, k2, k3, k4, k5⟩ := hB.from_ o d o0 o1 d0 d1 e hb
      have hp := hC.pos k l k1 k2
      obtain ⟨_, t0, t1⟩ := hC.ends k l k1
      have k5 : at2 (rboundsF (cs, ns, os, fs, ls, ks) a b) o d = (rcostsF (cs, ns, os, fs, ls, ks) a b).getD k 0 + at2 (rboundsF (cs, ns, os, fs, ls, ks) a b) (lTo l) d := k5
      have k4 : 0 ≤ at2 (rboundsF (cs, ns, os, fs, ls, ks) a b) (lTo l) d := k4
      match f, hf with
      | 0, hf => omega
      | f + 1, hf =>
        obtain ⟨i1, i2⟩ := inv_end cs ns os fs ls ks hi hst f (lTo l) d t0 t1 d0 d1 k4 (by omega)
        have hkl : k < ls.length := (List.getElem?_eq_some_iff.1 k1).1
        have el : lineOf (cs, ns, os, fs, ls, ks) k = l := by
          unfold lineOf
          show ls.getD (k : Int).toNat _ = l
          rw [Int.toNat_natCast, List.getD_eq_getElem?_getD, k1]; rfl
        have h := hst k d (by omega) (by omega) d0 d1
        unfold stepOk at h
        rw [el, Int.toNat_natCast] at h
        have e1 : l.2.2.1 = lTo l := rfl
        have e2 : l.2.1 = o := k3
        rw [e1, e2] at h
        rcases h with h | h | h
        · exact (k2 h).elim
        · omega
        · exact ⟨h.1, by omega⟩
theorem KSQ8 : KSound Tryz.prog G0 KQ8 := kOr_ok (dataK_ok fun ((cs, ns, os, fs, ls, ks), a, b, _) => t_rcosts16 a b cs ns os fs ls ks) <| kOr_ok (freshK_ok fun ((cs, ns, os, fs, ls, ks), v, _) => t_table16 v cs ns os fs ls ks) KSQ7
theorem sq_ext3 {a b : List (List Int)} {q : Nat} (ha : a.length = q) (ha2 : ∀ o : Int, 0 ≤ o → o < q → (a.getD o.toNat []).length = q) (hb : Mp.Sq q b) (h : ∀ i j : Int, 0 ≤ i → i < q → 0 ≤ j → j < q → at2 a i j = at2 b i j) : a = b := by
  refine List.ext_getElem (by rw [ha, hb.len]) fun i h1 h2 => ?_
  have q1 : i < q := by rw [← ha]; exact h1
  have r1 := ha2 i (by omega) (by omega)
  have r2 := hb.row i (by omega) (by omega)
  have e1 : a.getD (i : Int).toNat [] = a[i] := by rw [Int.toNat_natCast, List.getD_eq_getElem?_getD, List.getElem?_eq_getElem h1, Option.getD_some]
  have e2 : b.getD (i : Int).toNat [] = b[i] := by rw [Int.toNat_natCast, List.getD_eq_getElem?_getD, List.getElem?_eq_getElem h2, Option.getD_some]
  rw [e1] at r1
  rw [e2] at r2
  refine List.ext_getElem (by omega) fun j h3 h4 => ?_
  have := h i j (by omega) (by omega) (by omega) (by omega)
  unfold at2 at this
  rw [e1, e2, Int.toNat_natCast, List.getD_eq_getElem?_getD, List.getD_eq_getElem?_getD, List.getElem?_eq_getElem h3, List.getElem?_eq_getElem h4] at this
  exact this
theorem inv_eq (cs : LC) (ns os : LB) (fs : List Off) (ls : List Line) (ks : List Cla) {a b : Int} {m : List (List Int)} (hi : bInv (cs, ns, os, fs, ls, ks) a b m) (hst : ∀ k d : Int, 0 ≤ k → k < ls.length → 0 ≤ d → d < fs.length → stepOk (cs, ns, os, fs, ls, ks) (rcostsF (cs, ns, os, fs, ls, ks) a b) m k d) : m = rboundsF (cs, ns, os, fs, ls, ks) a b := by
  obtain ⟨hr, hl, hrow, hdiag, hrng, hsound⟩ := id hi
  have hco := costs_ok cs ns os fs ls ks hr
  have hbe : rboundsF (cs, ns, os, fs, ls, ks) a b = boundsF (cs, ns, os, fs, ls, ks) (costsF (cs, ns, os, fs, ls, ks) a b) := by unfold rboundsF; rw [hr]; rfl
  have hB := (bounds_ok cs ns os fs ls ks hco).1
  rw [← hbe] at hB
  refine sq_ext3 (q := fs.length) hl hrow (by rw [hbe]; exact Mp.buildF_sq _ _) fun i j i0 i1 j0 j1 => ?_
  have h1 := hrng i j i0 i1 j0 j1
  have h2 := hsound i j i0 i1 j0 j1
  have h3 : -1 ≤ at2 (rboundsF (cs, ns, os, fs, ls, ks) a b) i j := hB.lo i j i0 i1 j0 j1
  by_cases g : 0 ≤ at2 (rboundsF (cs, ns, os, fs, ls, ks) a b) i j
  · have h4 := inv_end cs ns os fs ls ks hi hst _ i j i0 i1 j0 j1 g (Nat.le_refl _)
    have h5 := h2 h4.1
    omega
  · by_cases g2 : 0 ≤ at2 m i j
    · exact (g (h2 g2).1).elim
    · omega
theorem diag_inv (cs : LC) (ns os : LB) (fs : List Off) (ls : List Line) (ks : List Cla) {a b : Int} (hr : ruseF (cs, ns, os, fs, ls, ks) a b = true) : bInv (cs, ns, os, fs, ls, ks) a b (diagT fs.length fs.length) := by
  have sq : Mp.Sq fs.length (diagT fs.length fs.length) := Mp.buildF_sq _ _
  have hat : ∀ i j : Int, 0 ≤ i → i < fs.length → 0 ≤ j → j < fs.length → at2 (diagT fs.length fs.length) i j = diagG fs.length i j := fun i j i0 i1 j0 j1 => Mp.buildF_at _ _ i j i0 i1 j0 j1
  have hco := costs_ok cs ns os fs ls ks hr
  have hbe : rboundsF (cs, ns, os, fs, ls, ks) a b = boundsF (cs, ns, os, fs, ls, ks) (costsF (cs, ns, os, fs, ls, ks) a b) := by unfold rboundsF; rw [hr]; rfl
  have hB := (bounds_ok cs ns os fs ls ks hco).1
  rw [← hbe] at hB
  refine ⟨hr, sq.len, sq.row, fun o o0 o1 => ?_, fun i j i0 i1 j0 j1 => ?_, fun i j i0 i1 j0 j1 => ?_⟩
  · have o1 : o < fs.length := o1
    rw [hat o o o0 o1 o0 o1]; unfold diagG; rw [if_pos ⟨rfl, o1⟩]
  · rw [hat i j i0 i1 j0 j1]; unfold diagG; split <;> omega
  · rw [hat i j i0 i1 j0 j1]
    unfold diagG
    split
    · rename_i g
      intro _
      have := hB.same i i0 i1
      have this : at2 (rboundsF (cs, ns, os, fs, ls, ks) a b) i i = 0 := this
      rw [← g.1]; omega
    · intro h; omega
theorem t_rbnds16 (a b : Int) (cs : LC) (ns os : LB) (fs : List Off) (ls : List Line) (ks : List Cla) : SoundC Tryz.prog G0 28 [net cs ns os fs ls ks, .dat I a, .dat I b] [] ⟨fewC (cs, ns, os, fs, ls, ks) = true, .dat M (rboundsF (cs, ns, os, fs, ls, ks) a b), []⟩ := by
  refine sound_of_ev (c := mkc KQ8) KSQ8 KI0s hm (vc_rbnds16 a b cs ns os fs ls ks ⟨rfl, fun hp => ?_⟩)
  simp only [cnd_or, cnd_and, D.and, D.not, Bool.true_and, eq_self, true_and, and_true, imp_self, implies_true, Bool.not_eq_true', Bool.or_eq_true, Bool.or_eq_false_iff, Bool.not_eq_false', Bool.and_eq_true, Bool.and_eq_false_imp, Int.ofNat_eq_natCast, D.nil, D.ne, D.lt, D.ge, D.ilen, D.ile, D.ilt, D.nlt, D.sub, D.add, D.nat, D.ofN, D.len, D.get, D.set, decide_eq_true_eq, decide_eq_false_iff_not, bne_iff_ne, bne_eq_false_iff_eq, lineOf_fold cs ns os fs ls ks]
  have cl : (ctab (-1) fs.length fs.length).length = fs.length := by rw [ctab_len]; exact Int.toNat_natCast _
  have dl : ∀ x : Int, (diagT fs.length x).length = fs.length := fun x => by unfold diagT; rw [Mp.buildF_length]; exact Int.toNat_natCast _
  have dr : ∀ x o : Int, 0 ≤ o → o < fs.length → ((diagT fs.length x).getD o.toNat []).length = fs.length := fun x o o0 o1 => (Mp.buildF_sq (diagG x) fs.length).row o o0 o1
  rw [cl]
  refine ⟨hp, fun h => by unfold rboundsF; rw [h]; rfl, fun hr => ?_⟩
  have hs := (ruse_iff.1 hr).2
  have q12 := (noF_offs cs ns os fs ls ks (sound_noF cs ns os fs ls ks hs)).1
  have l40 := (lines_ok cs ns os fs ls ks (sound_noF cs ns os fs ls ks hs)).2
  have hcl : (rcostsF (cs, ns, os, fs, ls, ks) a b).length = ls.length := by unfold rcostsF; rw [hr]; exact costsF_len _ _ _
  refine ⟨by show fs.length ≤ 1000000; omega, ⟨0, ⟨by omega, .inr rfl⟩, rfl, ?_⟩, fun x hx => ⟨dl x, fun hlt => ?_, fun hge => ⟨hp, ⟨(true, diagT fs.length x, 0), ⟨?_, fun h => by cases h⟩, rfl, rfl⟩, fun y hy => ⟨fun ht => ⟨⟨(false, y.2.1, 0), ⟨hy.1, Int.le_refl _, Int.natCast_nonneg _, fun _ => ⟨rfl, fun k d k0 k1 => (by have k1 : k < 0 := k1; omega)⟩, fun h => by cases h⟩, rfl, rfl, rfl⟩, fun z hz => ⟨fun hzl => ⟨hz.2.1, hzl, hz.2.1, hzl, ⟨(z.1, z.2.1, 0), ⟨hz.1, Int.le_refl _, Int.natCast_nonneg _, .inl ⟨rfl, rfl, fun e e0 e1 => (by have e1 : e < 0 := e1; omega)⟩⟩, rfl, rfl, rfl⟩, fun w hw => ⟨hw.1.2.1, fun _ => hz.2.1, fun _ => by omega, fun hc => ?_, fun hc => ?_⟩⟩, fun hzl => ?_⟩⟩, fun hf => ?_⟩⟩⟩⟩
  · have e : ∀ i j : Nat, diagG 0 i j = -1 := fun i j => by unfold diagG; rw [if_neg (by omega)]
    unfold diagT buildF ctab
    simp only [e, List.map_const', List.length_range]
  · have x0 := hx.1
    have r1 := dr x x x0 hlt
    have l1 := dl x
    refine ⟨dl x, x0, by omega, dl x, dl x, x0, by omega, dl x, in_small (by omega), x + 1, ⟨by omega, .inl (by omega)⟩, ⟨rfl, ?_⟩, by omega⟩
    unfold diagT
    rw [buildF_set x0 hlt x0 hlt]
    refine buildF_congr fun i j i0 i1 j0 j1 => ?_
    unfold diagG
    by_cases g : i = j
    · by_cases g2 : i = x
      · rw [if_pos ⟨g2, by omega⟩, if_pos ⟨g, by omega⟩]
      · rw [if_neg (fun q => g2 q.1)]
        by_cases g3 : i < x
        · rw [if_pos ⟨g, g3⟩, if_pos ⟨g, by omega⟩]
        · rw [if_neg (fun q => g3 q.2), if_neg (fun q => by have := q.2; omega)]
    · rw [if_neg (fun q => g (by rw [q.1, q.2])), if_neg (fun q => g q.1), if_neg (fun q => g q.1)]
  · have ex : x = fs.length := by have := hx.1; have := hx.2; omega
    rw [ex]; exact diag_inv cs ns os fs ls ks hr
  · have lw : w.2.1.length = fs.length := hw.1.2.1
    have rw_ : ∀ o : Int, 0 ≤ o → o < fs.length → (w.2.1.getD o.toNat []).length = fs.length := hw.1.2.2.1
    obtain ⟨o0, o1, t0, t1, hne, _⟩ := sound_line cs ns os fs ls ks hs hz.2.1 hzl
    have rT := rw_ _ t0 t1
    have rO := rw_ _ o0 o1
    have e0 := hw.2.1
    have i0 := hz.2.1
    have hT := hw.1.2.2.2.2.1 _ w.2.2 t0 t1 e0 hc.1
    have hO := hw.1.2.2.2.2.1 _ w.2.2 o0 o1 e0 hc.1
    have hcnt := cnt_le lw rw_
    have hqq : fs.length * fs.length ≤ 144 := Nat.mul_le_mul (show fs.length ≤ 12 by omega) (show fs.length ≤ 12 by omega)
    have hcr : 0 < (rcostsF (cs, ns, os, fs, ls, ks) a b).getD z.2.2.toNat 0 ∧ (rcostsF (cs, ns, os, fs, ls, ks) a b).getD z.2.2.toNat 0 ≤ 1000000 := by
      have hc2 := hc.2
      have e : rcostsF (cs, ns, os, fs, ls, ks) a b = costsF (cs, ns, os, fs, ls, ks) a b := by unfold rcostsF; rw [hr]; rfl
      rw [e] at hc2 ⊢
      rcases (costs_ok cs ns os fs ls ks hr).2.2 z.2.2 i0 (by rw [costsF_len]; exact hzl) with g | g
      · exact (hc2 g).elim
      · exact g
    have hup := upd_inv cs ns os fs ls ks hw.1 i0 hzl hc.2 e0 hc.1
    unfold at2 at hT hO hup
    have hin : inR .i64 ((rcostsF (cs, ns, os, fs, ls, ks) a b).getD z.2.2.toNat 0 + (w.2.1.getD (lineOf (cs, ns, os, fs, ls, ks) z.2.2).2.2.1.toNat []).getD w.2.2.toNat 0) := in_small (by omega)
    have hin2 : inR .i64 (w.2.2 + 1) := in_small (by omega)
    refine ⟨lw, t0, by omega, lw, lw, e0, by omega, lw, ?_⟩
    and_intros
    all_goals try first
      | exact fun _ => lw
      | exact fun _ => o0
      | exact fun _ => t0
      | exact fun _ => e0
      | exact fun _ => i0
      | exact fun _ => hin
      | (intro _; omega)
    · intro h
      have h1 : 0 ≤ (w.2.1.getD (lineOf (cs, ns, os, fs, ls, ks) z.2.2).2.2.1.toNat []).getD w.2.2.toNat 0 := of_decide_eq_true h.1
      have h2 := h.2.imp of_decide_eq_true of_decide_eq_true
      obtain ⟨u1, u2, _⟩ := hup h1 h2
      have hlt : sumW wP (setM w.2.1 (lineOf (cs, ns, os, fs, ls, ks) z.2.2).2.1 w.2.2 ((rcostsF (cs, ns, os, fs, ls, ks) a b).getD z.2.2.toNat 0 + (w.2.1.getD (lineOf (cs, ns, os, fs, ls, ks) z.2.2).2.2.1.toNat []).getD w.2.2.toNat 0)) < sumW wP z.2.1 := by
        rcases hw.2.2.2 with ⟨_, g2, _⟩ | ⟨_, g2⟩
        · rw [← g2]; exact u2
        · exact Nat.lt_trans u2 g2
      exact ⟨lw, o0, by omega, lw, i0, by omega, lw, t0, by omega, lw, lw, e0, by omega, lw, hin, lw, e0, by omega, lw, hin2, (true, setM w.2.1 (lineOf (cs, ns, os, fs, ls, ks) z.2.2).2.1 w.2.2 ((rcostsF (cs, ns, os, fs, ls, ks) a b).getD z.2.2.toNat 0 + (w.2.1.getD (lineOf (cs, ns, os, fs, ls, ks) z.2.2).2.2.1.toNat []).getD w.2.2.toNat 0), w.2.2 + 1),
        ⟨u1, by show 0 ≤ w.2.2 + 1; omega, by show w.2.2 + 1 ≤ (fs.length : Int); omega, .inr ⟨rfl, hlt⟩⟩, ⟨rfl, rfl, rfl⟩, by show ((fs.length : Int) - (w.2.2 + 1)).toNat < _; omega⟩
    · intro h
      have hstep : stepOk (cs, ns, os, fs, ls, ks) (rcostsF (cs, ns, os, fs, ls, ks) a b) w.2.1 z.2.2 w.2.2 := by
        unfold stepOk at2
        by_cases g : 0 ≤ (w.2.1.getD (lineOf (cs, ns, os, fs, ls, ks) z.2.2).2.2.1.toNat []).getD w.2.2.toNat 0
        · obtain ⟨h1, h2⟩ := h (decide_eq_true g)
          have h1 := of_decide_eq_false h1
          have h2 := of_decide_eq_false h2
          exact .inr (.inr ⟨by omega, by omega⟩)
        · exact .inr (.inl (by omega))
      refine ⟨hin2, (w.1, w.2.1, w.2.2 + 1), ⟨hw.1, by show 0 ≤ w.2.2 + 1; omega, by show w.2.2 + 1 ≤ (fs.length : Int); omega, ?_⟩, ⟨rfl, rfl, rfl⟩, by show ((fs.length : Int) - (w.2.2 + 1)).toNat < _; omega⟩
      rcases hw.2.2.2 with ⟨g1, g2, g3⟩ | g
      · refine .inl ⟨g1, g2, fun e x0 x1 => ?_⟩
        show stepOk (cs, ns, os, fs, ls, ks) _ w.2.1 z.2.2 e
        have x1 : e < w.2.2 + 1 := x1
        by_cases q : e = w.2.2
        · rw [q]; exact hstep
        · exact g3 e x0 (by omega)
      · exact .inr g
  · obtain ⟨hz1, i0, i1, hzf, hzt⟩ := hz
    obtain ⟨hw1, e0, e1, hw2⟩ := hw
    refine ⟨in_small (by omega), (w.1, w.2.1, z.2.2 + 1), ⟨hw1, by show 0 ≤ z.2.2 + 1; omega, by show z.2.2 + 1 ≤ (ls.length : Int); omega, fun hwf => ?_, fun hwt => ?_⟩, ⟨rfl, rfl, rfl⟩, by show ((ls.length : Int) - (z.2.2 + 1)).toNat < _; omega⟩
    · have hwf : w.1 = false := hwf
      rcases hw2 with ⟨g1, g2, g3⟩ | ⟨g1, _⟩
      · obtain ⟨h1, h2⟩ := hzf (by rw [← g1]; exact hwf)
        refine ⟨by show w.2.1 = y.2.1; rw [g2, h1], fun k d k0 k1 d0 d1 => ?_⟩
        show stepOk (cs, ns, os, fs, ls, ks) _ w.2.1 k d
        by_cases e : k = z.2.2
        · by_cases hd : d < w.2.2
          · rw [e]; exact g3 d d0 hd
          · rw [e]
            exact .inl (hc (by have d1 : d < fs.length := d1; omega))
        · rw [g2]
          exact h2 k d k0 (by have k1 : k < z.2.2 + 1 := k1; omega) d0 d1
      · rw [g1] at hwf; cases hwf
    · have hwt : w.1 = true := hwt
      show sumW wP w.2.1 < sumW wP y.2.1
      rcases hw2 with ⟨g1, g2, g3⟩ | ⟨g1, g2⟩
      · rw [g2]; exact hzt (by rw [← g1]; exact hwt)
      · cases hb : z.1 with
        | false => rw [← (hzf hb).1]; exact g2
        | true => have := hzt hb; omega
  · obtain ⟨hz1, i0, i1, hzf, hzt⟩ := hz
    have i1 : z.2.2 ≤ ls.length := i1
    refine ⟨(z.1, z.2.1, 0), ⟨hz1, fun h k d k0 k1 d0 d1 => (hzf h).2 k d k0 (by have k1 : k < ls.length := k1; omega) d0 d1⟩, ⟨rfl, rfl⟩, ?_⟩
    show muB z.1 z.2.1 < muB y.1 y.2.1
    unfold muB
    rw [ht]
    cases hb : z.1 with
    | false => rw [(hzf hb).1]; simp
    | true => have := hzt hb; simp; omega
  · have he := inv_eq cs ns os fs ls ks hy.1 (hy.2 hf)
    have hl := hy.1.2.1
    exact ⟨hl, hl, hl, he⟩
end Go.Eng.Sv
