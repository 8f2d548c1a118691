/- PeRo2z -/
import Derived.Test.YtejeaokbkbfgjaaGreatDoorX22
import Derived.Test.YtejeaokbkbfgjaaGreatDoorMxz
import Derived.Test.YtejeaokbkbfgjaaGreatDoorRo1z
set_option linter.unusedSimpArgs false
set_option linter.unusedVariables false
set_option maxRecDepth 100000
noncomputable section
namespace Go.Eng.Sv
open Go.Proofs
open Go.Eng.Mp (buildF rowsF rowF preBuild upto at2 idx2 starS starE starP)
def noneI : Int := -1099511627776
def rngF (a b : Int) : Bool := decide (0 ≤ a) && decide (a < b) && decide (b ≤ 2000000) && decide (b ≤ a + 86400)
def ruseF (n : Net) (a b : Int) : Bool := rngF a b && soundF n
def ruseP (n : Net) (a b : Int) : Prop := ruseF n a b = true
def offOf (n : Net) (o : Int) : Off := n.2.2.2.1.getD o.toNat (⟨#[]⟩, 0, 0, 0, 0, 0, [])
def costF (n : Net) (a b i : Int) : Int := if waitE n i a b = 0 then waitD n i a b + (lineOf n i).2.2.2.2.1 + (offOf n (lineOf n i).2.2.1).2.2.2.2.1 * (offOf n (lineOf n i).2.2.1).2.2.2.2.2.1 else noneI
def costsF (n : Net) (a b : Int) : List Int := (List.range n.2.2.2.2.1.length).map fun i : Nat => costF n a b i
def costsTo (n : Net) (a b k : Int) : List Int := (costsF n a b).take k.toNat ++ List.replicate (n.2.2.2.2.1.length - k.toNat) 0
def costTo (n : Net) (a b k : Int) : Prop := ruseF n a b = true ∧ 0 ≤ k ∧ k ≤ n.2.2.2.2.1.length
def costsOk (n : Net) (c : List Int) : Prop := soundF n = true ∧ c.length = n.2.2.2.2.1.length ∧ ∀ i : Int, 0 ≤ i → i < c.length → c.getD i.toNat 0 = noneI ∨ (0 < c.getD i.toNat 0 ∧ c.getD i.toNat 0 ≤ 1000000)
def none2 (_ _ : Int) : Int := noneI
def noP2 (_ _ : Int) : Prop := True
def leastN (ls : List Line) (c : List Int) : Nat → Int → Int → Int
  | 0, _, _ => noneI
  | k + 1, o, d => if c.getD k 0 ≠ noneI ∧ (ls.getD k (⟨#[]⟩, 0, 0, 0, 0, 0)).2.1 = o ∧ (ls.getD k (⟨#[]⟩, 0, 0, 0, 0, 0)).2.2.1 = d then max (leastN ls c k o d) (-(c.getD k 0)) else leastN ls c k o d
def leastTo (n : Net) (c : List Int) (k : Int) : List (List Int) := buildF (leastN n.2.2.2.2.1 c k.toNat) n.2.2.2.1.length
def leastF (n : Net) (c : List Int) : List (List Int) := leastTo n c n.2.2.2.2.1.length
def lstTo (n : Net) (c : List Int) (k : Int) : Prop := costsOk n c ∧ 0 ≤ k ∧ k ≤ n.2.2.2.2.1.length
def bnd2 (e : Int) (s : List (List Int)) (o d : Int) : Int := if e = 0 then (if at2 s o d = noneI then -1 else -(at2 s o d)) else -1
def bnd2P (e : Int) (s : List (List Int)) (o d : Int) : Prop := e = 0 → idx2 o d s ∧ (at2 s o d = noneI ∨ (-1152921504606846976 ≤ at2 s o d ∧ at2 s o d ≤ 1152921504606846976))
def boundsF (n : Net) (c : List Int) : List (List Int) := buildF (bnd2 (starE (leastF n c)) (starS (leastF n c))) n.2.2.2.1.length
def isBest (n : Net) (c : List Int) (b : List (List Int)) (o d i : Int) : Bool := decide ((lineOf n i).2.1 = o) && decide (c.getD i.toNat 0 ≠ noneI) && decide (0 ≤ at2 b (lineOf n i).2.2.1 d) && decide (c.getD i.toNat 0 + at2 b (lineOf n i).2.2.1 d = at2 b o d)
def bestF (n : Net) (c : List Int) (b : List (List Int)) (o d : Int) : Int := match (List.range n.2.2.2.2.1.length).find? fun i : Nat => isBest n c b o d i with
  | some i => i
  | none => -1
def boundOk (n : Net) (b : List (List Int)) : Prop := ∀ o d : Int, 0 ≤ o → o < n.2.2.2.1.length → 0 ≤ d → d < n.2.2.2.1.length → idx2 o d b ∧ -1152921504606846976 ≤ at2 b o d ∧ at2 b o d ≤ 1152921504606846976
def bestP (n : Net) (c : List Int) (b : List (List Int)) (o d : Int) : Prop := costsOk n c ∧ boundOk n b ∧ 0 ≤ o ∧ o < n.2.2.2.1.length ∧ 0 ≤ d ∧ d < n.2.2.2.1.length
def bestTo (n : Net) (c : List Int) (b : List (List Int)) (o d k : Int) : Prop := bestP n c b o d ∧ 0 ≤ k ∧ k ≤ n.2.2.2.2.1.length ∧ (List.range k.toNat).all (fun i : Nat => !isBest n c b o d i) = true
def next2 (n : Net) (c : List Int) (b : List (List Int)) (o d : Int) : Int := if o = d ∨ at2 b o d < 0 then -1 else bestF n c b o d
def nextF (n : Net) (c : List Int) : List (List Int) := buildF (next2 n c (boundsF n c)) n.2.2.2.1.length
def rcostsF (n : Net) (a b : Int) : List Int := if ruseF n a b then costsF n a b else []
def rboundsF (n : Net) (a b : Int) : List (List Int) := if ruseF n a b then boundsF n (costsF n a b) else []
def rnextF (n : Net) (a b : Int) : List (List Int) := if ruseF n a b then nextF n (costsF n a b) else []
def KQ0 : Kt := kOr 31 (dataK [.val M] (fun (m, _) => starP m) fun (m, _) => .tup [.dat M (starS m), .dat I (starE m)]) KR6
theorem vc_ruse (a b : Int) (cs : LC) (ns os : LB) (fs : List Off) (ls : List Line) (ks : List Cla) (hvc :
 let c1 := D.lt a (0 : Int);
 let c2 := D.not c1;
 let c3 := D.cnd c1 true (D.le b a);
 let c4 := D.not c3;
 let c5 := D.cnd c3 true (D.gt b (2000000 : Int));
 let c6 := D.not c5;
 let c7 := D.cnd c5 true (D.gt (D.sub b a) (86400 : Int));
 let c8 := (cs, ns, os, fs, ls, ks);
 let c9 := ruseF c8 a b; true = true ∧ (True → (c2 = true → c2 = true → c2 = true) ∧ (c2 = true → c2 = true → c2 = true) ∧ (D.and true c2 = true → c2 = true) ∧
  (c4 = true → c4 = true → c4 = true) ∧ (D.and true c4 = true → c4 = true) ∧ (c6 = true → c6 = true → c6 = true) ∧ (c6 = true → c6 = true → c6 = true) ∧ (c6 =
  true → inR IntKind.i64 (D.sub b a)) ∧ (c6 = true → c6 = true → c6 = true) ∧ (D.and true c6 = true → c6 = true) ∧ (c7 = true → false = c9 ∧ True) ∧ (c7 = false
  → True ∧ D.eq (D.ilen (checkF c8)) (0 : Int) = c9 ∧ True))) :
    evF (mkc KQ0) noAnn 47 [net cs ns os fs ls ks, .dat I a, .dat I b] [] ⟨True, .dat .bool (ruseF (cs, ns, os, fs, ls, ks) a b), []⟩ := of_eq (by kernel_rfl) hvc
def costsA (n : Net) (a b : Int) : Ann := ⟨fun id s => match id with
  | 3 => match s.sig.T 16 with
    | .buf nm _ => some { α := Int, inv := fun k => costTo n a b k, st := fun k => putM (put s [(20, .dat I k)]) nm (.buf 3 I (costsTo n a b k) []), μ := fun k => D.nat (D.sub (D.ilen n.2.2.2.2.1) k) }
    | _ => none
  | _ => none, fun _ _ => none, fun _ _ => none⟩
theorem vc_costs (a b : Int) (cs : LC) (ns os : LB) (fs : List Off) (ls : List Line) (ks : List Cla) (hvc :
 let c1 := (ls, ks);
 let c2 := (cs, ns, os, fs, c1);
 let c3 := D.ilen ls;
 let c4 := D.nat c3;
 let c5 := (ByteArray.mk (D.nil UInt8).toArray, (0 : Int), (0 : Int), (0 : Int), (0 : Int), (0 : Int));
 let c6 := (ByteArray.mk (D.nil UInt8).toArray, (0 : Int), (0 : Int), (0 : Int), (0 : Int), (0 : Int), D.nil ByteArray); true = true ∧ (ruseP c2 a b → D.ile (0 :
  Int) c3 ∧ D.ile (D.mul (D.ofN (8)) c3) (281474976710656 : Int) ∧ D.ile c3 (9223372036854775807 : Int) ∧ (∃ x, costTo c2 a b x ∧ cs = cs ∧ ns = ns ∧ os = os ∧
  fs = fs ∧ ls = ls ∧ ks = ks ∧ a = a ∧ b = b ∧ c2 = c2 ∧ Value.slice none (0) (0) = Value.slice none (0) (0) ∧ c4 = c4 ∧ c1 = c1 ∧ ls = ls ∧ c3 = c3 ∧ c4 = c4 ∧
  c1 = c1 ∧ ls = ls ∧ c3 = c3 ∧ (0 : Int) = x ∧ D.rep c3 (0 : Int) = costsTo c2 a b x ∧ True) ∧ ∀ (x : Int),
 let c7 := D.ne (waitE c2 x a b) (0 : Int);
 let c8 := costsTo c2 a b x;
 let c9 := D.len c8;
 let c10 := D.add x (1 : Int);
 let c11 := (D.get ls (D.nat x) c5).snd.snd;
 let c12 := c11.fst;
 let c13 := D.add (waitD c2 x a b) c11.snd.snd.fst;
 let c14 := (D.get fs (D.nat c12) c6).snd.snd.snd.snd;
 let c15 := D.mul c14.fst c14.snd.fst;
 let c16 := D.add c13 c15; costTo c2 a b x → (D.lt x c3 = true → D.ile (0 : Int) x ∧ D.ilt x c3 ∧ 1 = 1 ∧ 0 = 0 ∧ True ∧ (c7 = true → c9 = c4 ∧ D.ile (0 : Int) x
  ∧ D.ilt x (D.ofN c9) ∧ c9 = c4 ∧ inR IntKind.i64 c10 ∧ ∃ y, costTo c2 a b y ∧ (cs = cs ∧ ns = ns ∧ os = os ∧ fs = fs ∧ ls = ls ∧ ks = ks ∧ a = a ∧ b = b ∧ c2 =
  c2 ∧ Value.slice none (0) (0) = Value.slice none (0) (0) ∧ c4 = c4 ∧ c1 = c1 ∧ ls = ls ∧ c3 = c3 ∧ c4 = c4 ∧ c1 = c1 ∧ ls = ls ∧ c3 = c3 ∧ c10 = y ∧ D.set c8
  (D.nat x) (-1099511627776 : Int) = costsTo c2 a b y ∧ True) ∧ D.nlt (D.nat (D.sub c3 y)) (D.nat (D.sub c3 x))) ∧ (c7 = false → 1 = 1 ∧ 1 = 1 ∧ 0 = 0 ∧ D.ile (0
  : Int) c12 ∧ D.ilt c12 (D.ilen fs) ∧ 1 = 1 ∧ 0 = 0 ∧ 1 = 1 ∧ 1 = 1 ∧ 0 = 0 ∧ inR IntKind.i64 c13 ∧ 1 = 1 ∧ 1 = 1 ∧ 0 = 0 ∧ 1 = 1 ∧ 1 = 1 ∧ 0 = 0 ∧ inR
  IntKind.i64 c15 ∧ inR IntKind.i64 c16 ∧ c9 = c4 ∧ D.ile (0 : Int) x ∧ D.ilt x (D.ofN c9) ∧ c9 = c4 ∧ inR IntKind.i64 c10 ∧ ∃ y, costTo c2 a b y ∧ (cs = cs ∧ ns
  = ns ∧ os = os ∧ fs = fs ∧ ls = ls ∧ ks = ks ∧ a = a ∧ b = b ∧ c2 = c2 ∧ Value.slice none (0) (0) = Value.slice none (0) (0) ∧ c4 = c4 ∧ c1 = c1 ∧ ls = ls ∧ c3
  = c3 ∧ c4 = c4 ∧ c1 = c1 ∧ ls = ls ∧ c3 = c3 ∧ c10 = y ∧ D.set c8 (D.nat x) c16 = costsTo c2 a b y ∧ True) ∧ D.nlt (D.nat (D.sub c3 y)) (D.nat (D.sub c3 x))))
  ∧ (D.lt x c3 = false → c9 = c4 ∧ c8 = costsF c2 a b ∧ True))) :
    evF (mkc KQ0) (costsA (cs, ns, os, fs, ls, ks) a b) 48 [net cs ns os fs ls ks, .dat I a, .dat I b] [] ⟨ruseP (cs, ns, os, fs, ls, ks) a b, .dat R (costsF (cs, ns, os, fs, ls, ks) a b), []⟩ := of_eq (by kernel_rfl) hvc
def tableA (n : Int) (g : Int → Int → Int) : Ann := ⟨fun id s => match id with
  | 3 => match s.sig.T 11 with
    | .buf nm _ => some { α := Int, inv := fun k => upto k n, st := fun k => putM (put s [(14, .dat I k), (5, .buf nm (D.nat n))]) nm (.buf 37 R (rowsF g n k) []), μ := fun k => D.nat (D.sub n k) }
    | _ => none
  | 7 => match s.sig.T 6, s.sig.T 22 with
    | .dat (.int .i64) i, .buf nm _ => some { α := Int, inv := fun k => upto k n, st := fun k => putM (put s [(29, .dat I k)]) nm (.buf 3 I (rowF g n i k) []), μ := fun k => D.nat (D.sub n k) }
    | _, _ => none
  | _ => none, fun _ _ => none, fun _ _ => none⟩
theorem vc_table (preT : Int → Int → Prop) (g : Int → Int → Int) (cs : LC) (ns os : LB) (fs : List Off) (ls : List Line) (ks : List Cla) (hvc :
 let c1 := D.ilen fs;
 let c2 := D.rep c1 (D.nil Int);
 let c3 := D.nat c1;
 let c4 := (fs, ls, ks);
 let c5 := (cs, ns, os, c4);
 let c6 := Int.ofNat c3;
 let c7 := D.rep c1 (0 : Int); true = true ∧ (preBuild c1 preT → D.ile (0 : Int) c1 ∧ D.ile (D.mul (D.ofN (24)) c1) (281474976710656 : Int) ∧ D.ile c1
  (9223372036854775807 : Int) ∧ D.len c2 = c3 ∧ (∃ x, upto x c1 ∧ cs = cs ∧ ns = ns ∧ os = os ∧ fs = fs ∧ ls = ls ∧ ks = ks ∧ AV.clo2 (Ty.int IntKind.i64)
  (Ty.int IntKind.i64) (Ty.int IntKind.i64) preT g = AV.clo2 (Ty.int IntKind.i64) (Ty.int IntKind.i64) (Ty.int IntKind.i64) preT g ∧ c5 = c5 ∧ Value.slice none
  (0) (0) = Value.slice none (0) (0) ∧ c3 = c3 ∧ c4 = c4 ∧ fs = fs ∧ c1 = c1 ∧ c3 = c3 ∧ c3 = c3 ∧ c6 = c6 ∧ (0 : Int) = x ∧ c2 = rowsF g c1 x ∧ True) ∧ ∀ (x :
  Int),
 let c8 := D.len (rowsF g c1 x);
 let c9 := D.add x (1 : Int); upto x c1 → (D.lt x c6 = true → D.ile (0 : Int) c1 ∧ D.ile (D.mul (D.ofN (8)) c1) (281474976710656 : Int) ∧ D.ile c1
  (9223372036854775807 : Int) ∧ c8 = c3 ∧ D.ile (0 : Int) x ∧ D.ilt x (D.ofN c8) ∧ c8 = c3 ∧ D.len c7 = c3 ∧ c8 = c3 ∧ D.ile (0 : Int) x ∧ D.ilt x (D.ofN c8) ∧
  c8 = c3 ∧ D.nat x = D.nat x ∧ D.len c7 = c3 ∧ (∃ x_3, upto x_3 c1 ∧ cs = cs ∧ ns = ns ∧ os = os ∧ fs = fs ∧ ls = ls ∧ ks = ks ∧ AV.clo2 (Ty.int IntKind.i64)
  (Ty.int IntKind.i64) (Ty.int IntKind.i64) preT g = AV.clo2 (Ty.int IntKind.i64) (Ty.int IntKind.i64) (Ty.int IntKind.i64) preT g ∧ c5 = c5 ∧ Value.slice none
  (0) (0) = Value.slice none (0) (0) ∧ c3 = c3 ∧ x = x ∧ c4 = c4 ∧ fs = fs ∧ c1 = c1 ∧ c3 = c3 ∧ c3 = c3 ∧ c6 = c6 ∧ x = x ∧ D.lt x c6 = D.lt x c6 ∧ x = x ∧ c3 =
  c3 ∧ x = x ∧ c4 = c4 ∧ fs = fs ∧ c1 = c1 ∧ c3 = c3 ∧ c3 = c3 ∧ D.nat x = D.nat x ∧ 0 = 0 ∧ c3 = c3 ∧ x = x ∧ c3 = c3 ∧ D.nat x = D.nat x ∧ 0 = 0 ∧ c3 = c3 ∧ c6
  = c6 ∧ (0 : Int) = x_3 ∧ rowsF g c1 x = rowsF g c1 x ∧ D.nat x = D.nat x ∧ c3 = c3 ∧ c7 = rowF g c1 x x_3 ∧ True) ∧ ∀ (x_3 : Int),
 let c10 := rowF g c1 x x_3;
 let c11 := D.len c10;
 let c12 := D.add x_3 (1 : Int); upto x_3 c1 → (D.lt x_3 c6 = true → c8 = c3 ∧ D.ile (0 : Int) x ∧ D.ilt x (D.ofN c8) ∧ c8 = c3 ∧ D.nat x = D.nat x ∧ preT x x_3
  ∧ c11 = c3 ∧ D.ile (0 : Int) x_3 ∧ D.ilt x_3 (D.ofN c11) ∧ c11 = c3 ∧ inR IntKind.i64 c12 ∧ ∃ y, upto y c1 ∧ (cs = cs ∧ ns = ns ∧ os = os ∧ fs = fs ∧ ls = ls ∧
  ks = ks ∧ AV.clo2 (Ty.int IntKind.i64) (Ty.int IntKind.i64) (Ty.int IntKind.i64) preT g = AV.clo2 (Ty.int IntKind.i64) (Ty.int IntKind.i64) (Ty.int
  IntKind.i64) preT g ∧ c5 = c5 ∧ Value.slice none (0) (0) = Value.slice none (0) (0) ∧ c3 = c3 ∧ x = x ∧ c4 = c4 ∧ fs = fs ∧ c1 = c1 ∧ c3 = c3 ∧ c3 = c3 ∧ c6 =
  c6 ∧ x = x ∧ D.lt x c6 = D.lt x c6 ∧ x = x ∧ c3 = c3 ∧ x = x ∧ c4 = c4 ∧ fs = fs ∧ c1 = c1 ∧ c3 = c3 ∧ c3 = c3 ∧ D.nat x = D.nat x ∧ 0 = 0 ∧ c3 = c3 ∧ x = x ∧
  c3 = c3 ∧ D.nat x = D.nat x ∧ 0 = 0 ∧ c3 = c3 ∧ c6 = c6 ∧ c12 = y ∧ rowsF g c1 x = rowsF g c1 x ∧ D.nat x = D.nat x ∧ c3 = c3 ∧ D.set c10 (D.nat x_3) (g x x_3)
  = rowF g c1 x y ∧ True) ∧ D.nlt (D.nat (D.sub c1 y)) (D.nat (D.sub c1 x_3))) ∧ (D.lt x_3 c6 = false → inR IntKind.i64 c9 ∧ ∃ y, upto y c1 ∧ (cs = cs ∧ ns = ns
  ∧ os = os ∧ fs = fs ∧ ls = ls ∧ ks = ks ∧ AV.clo2 (Ty.int IntKind.i64) (Ty.int IntKind.i64) (Ty.int IntKind.i64) preT g = AV.clo2 (Ty.int IntKind.i64) (Ty.int
  IntKind.i64) (Ty.int IntKind.i64) preT g ∧ c5 = c5 ∧ Value.slice none (0) (0) = Value.slice none (0) (0) ∧ c3 = c3 ∧ c4 = c4 ∧ fs = fs ∧ c1 = c1 ∧ c3 = c3 ∧ c3
  = c3 ∧ c6 = c6 ∧ c9 = y ∧ c11 = c3 ∧ D.set (rowsF g c1 x) (D.nat x) c10 = rowsF g c1 y ∧ True) ∧ D.nlt (D.nat (D.sub c1 y)) (D.nat (D.sub c1 x)))) ∧ (D.lt x c6
  = false → c8 = c3 ∧ rowsF g c1 x = buildF g c1 ∧ True))) :
    evF (mkc KQ0) (tableA (D.ilen fs) g) 51 [net cs ns os fs ls ks, .clo2 I I I preT g] [] ⟨preBuild (D.ilen fs) preT, .dat M (buildF g (D.ilen fs)), []⟩ := of_eq (by kernel_rfl) hvc
def tableM (n : Int) (g : Int → Int → Int) : Ann := ⟨fun id s => match id with
  | 3 => match s.sig.T 11 with
    | .buf nm _ => some { α := Int, inv := fun k => upto k n, st := fun k => putM (put s [(14, .dat I k), (5, .buf nm (D.nat n))]) nm (.mat 37 3 I (rowsF g n k) []), μ := fun k => D.nat (D.sub n k) }
    | _ => none
  | 7 => match s.sig.T 6, s.sig.T 22 with
    | .dat (.int .i64) i, .buf nm _ => some { α := Int, inv := fun k => upto k n, st := fun k => putM (put s [(29, .dat I k)]) nm (.buf 3 I (rowF g n i k) []), μ := fun k => D.nat (D.sub n k) }
    | _, _ => none
  | _ => none, fun _ _ => none, fun _ _ => none⟩
theorem vc_tableM (preT : Int → Int → Prop) (g : Int → Int → Int) (cs : LC) (ns os : LB) (fs : List Off) (ls : List Line) (ks : List Cla) (hvc :
 let c1 := D.ilen fs;
 let c2 := D.rep c1 (D.nil Int);
 let c3 := D.nat c1;
 let c4 := (fs, ls, ks);
 let c5 := (cs, ns, os, c4);
 let c6 := Int.ofNat c3;
 let c7 := D.rep c1 (0 : Int);
 let c8 := buildF g c1; true = true ∧ (preBuild c1 preT → D.ile (0 : Int) c1 ∧ D.ile (D.mul (D.ofN (24)) c1) (281474976710656 : Int) ∧ D.ile c1
  (9223372036854775807 : Int) ∧ D.len c2 = c3 ∧ (∃ x, upto x c1 ∧ cs = cs ∧ ns = ns ∧ os = os ∧ fs = fs ∧ ls = ls ∧ ks = ks ∧ AV.clo2 (Ty.int IntKind.i64)
  (Ty.int IntKind.i64) (Ty.int IntKind.i64) preT g = AV.clo2 (Ty.int IntKind.i64) (Ty.int IntKind.i64) (Ty.int IntKind.i64) preT g ∧ c5 = c5 ∧ Value.slice none
  (0) (0) = Value.slice none (0) (0) ∧ c3 = c3 ∧ c4 = c4 ∧ fs = fs ∧ c1 = c1 ∧ c3 = c3 ∧ c3 = c3 ∧ c6 = c6 ∧ (0 : Int) = x ∧ c2 = rowsF g c1 x ∧ D.allNil (rowsF
  g c1 x) ∧ True) ∧ ∀ (x : Int),
 let c9 := D.len (rowsF g c1 x);
 let c10 := D.add x (1 : Int); upto x c1 → (D.lt x c6 = true → D.ile (0 : Int) c1 ∧ D.ile (D.mul (D.ofN (8)) c1) (281474976710656 : Int) ∧ D.ile c1
  (9223372036854775807 : Int) ∧ c9 = c3 ∧ D.ile (0 : Int) x ∧ D.ilt x (D.ofN c9) ∧ c9 = c3 ∧ D.len c7 = c3 ∧ c9 = c3 ∧ D.ile (0 : Int) x ∧ D.ilt x (D.ofN c9) ∧
  c9 = c3 ∧ D.nat x = D.nat x ∧ D.len c7 = c3 ∧ (∃ x_3, upto x_3 c1 ∧ cs = cs ∧ ns = ns ∧ os = os ∧ fs = fs ∧ ls = ls ∧ ks = ks ∧ AV.clo2 (Ty.int IntKind.i64)
  (Ty.int IntKind.i64) (Ty.int IntKind.i64) preT g = AV.clo2 (Ty.int IntKind.i64) (Ty.int IntKind.i64) (Ty.int IntKind.i64) preT g ∧ c5 = c5 ∧ Value.slice none
  (0) (0) = Value.slice none (0) (0) ∧ c3 = c3 ∧ x = x ∧ c4 = c4 ∧ fs = fs ∧ c1 = c1 ∧ c3 = c3 ∧ c3 = c3 ∧ c6 = c6 ∧ x = x ∧ D.lt x c6 = D.lt x c6 ∧ x = x ∧ c3 =
  c3 ∧ x = x ∧ c4 = c4 ∧ fs = fs ∧ c1 = c1 ∧ c3 = c3 ∧ c3 = c3 ∧ D.nat x = D.nat x ∧ 0 = 0 ∧ c3 = c3 ∧ x = x ∧ c3 = c3 ∧ D.nat x = D.nat x ∧ 0 = 0 ∧ c3 = c3 ∧ c6
  = c6 ∧ (0 : Int) = x_3 ∧ rowsF g c1 x = rowsF g c1 x ∧ D.nat x = D.nat x ∧ c3 = c3 ∧ c7 = rowF g c1 x x_3 ∧ True) ∧ ∀ (x_3 : Int),
 let c11 := rowF g c1 x x_3;
 let c12 := D.len c11;
 let c13 := D.add x_3 (1 : Int); upto x_3 c1 → (D.lt x_3 c6 = true → c9 = c3 ∧ D.ile (0 : Int) x ∧ D.ilt x (D.ofN c9) ∧ c9 = c3 ∧ D.nat x = D.nat x ∧ preT x x_3
  ∧ c12 = c3 ∧ D.ile (0 : Int) x_3 ∧ D.ilt x_3 (D.ofN c12) ∧ c12 = c3 ∧ inR IntKind.i64 c13 ∧ ∃ y, upto y c1 ∧ (cs = cs ∧ ns = ns ∧ os = os ∧ fs = fs ∧ ls = ls ∧
  ks = ks ∧ AV.clo2 (Ty.int IntKind.i64) (Ty.int IntKind.i64) (Ty.int IntKind.i64) preT g = AV.clo2 (Ty.int IntKind.i64) (Ty.int IntKind.i64) (Ty.int
  IntKind.i64) preT g ∧ c5 = c5 ∧ Value.slice none (0) (0) = Value.slice none (0) (0) ∧ c3 = c3 ∧ x = x ∧ c4 = c4 ∧ fs = fs ∧ c1 = c1 ∧ c3 = c3 ∧ c3 = c3 ∧ c6 =
  c6 ∧ x = x ∧ D.lt x c6 = D.lt x c6 ∧ x = x ∧ c3 = c3 ∧ x = x ∧ c4 = c4 ∧ fs = fs ∧ c1 = c1 ∧ c3 = c3 ∧ c3 = c3 ∧ D.nat x = D.nat x ∧ 0 = 0 ∧ c3 = c3 ∧ x = x ∧
  c3 = c3 ∧ D.nat x = D.nat x ∧ 0 = 0 ∧ c3 = c3 ∧ c6 = c6 ∧ c13 = y ∧ rowsF g c1 x = rowsF g c1 x ∧ D.nat x = D.nat x ∧ c3 = c3 ∧ D.set c11 (D.nat x_3) (g x x_3)
  = rowF g c1 x y ∧ True) ∧ D.nlt (D.nat (D.sub c1 y)) (D.nat (D.sub c1 x_3))) ∧ (D.lt x_3 c6 = false → inR IntKind.i64 c10 ∧ ∃ y, upto y c1 ∧ (cs = cs ∧ ns = ns
  ∧ os = os ∧ fs = fs ∧ ls = ls ∧ ks = ks ∧ AV.clo2 (Ty.int IntKind.i64) (Ty.int IntKind.i64) (Ty.int IntKind.i64) preT g = AV.clo2 (Ty.int IntKind.i64) (Ty.int
  IntKind.i64) (Ty.int IntKind.i64) preT g ∧ c5 = c5 ∧ Value.slice none (0) (0) = Value.slice none (0) (0) ∧ c3 = c3 ∧ c4 = c4 ∧ fs = fs ∧ c1 = c1 ∧ c3 = c3 ∧ c3
  = c3 ∧ c6 = c6 ∧ c10 = y ∧ D.len c11 = c3 ∧ D.set (rowsF g c1 x) (D.nat x) c11 = rowsF g c1 y ∧ True) ∧ D.nlt (D.nat (D.sub c1 y)) (D.nat (D.sub c1 x)))) ∧
  (D.lt x c6 = false → c3 = D.len c8 ∧ rowsF g c1 x = c8 ∧ True))) :
    evF (mkc KQ0) (tableM (D.ilen fs) g) 51 [net cs ns os fs ls ks, .clo2 I I I preT g] [] ⟨preBuild (D.ilen fs) preT, .buf 0 (D.len (buildF g (D.ilen fs))), [(0, .mat 37 3 I (buildF g (D.ilen fs)) [])]⟩ := of_eq (by kernel_rfl) hvc
theorem vc_bounds1 (o d : Int) (hvc :
  true = true ∧ (noP2 o d → (-1099511627776 : Int) = none2 o d ∧ True)) :
    evF (mkc KQ0) noAnn 76 [.dat I o, .dat I d] [] ⟨noP2 o d, .dat I (none2 o d), []⟩ := of_eq (by kernel_rfl) hvc
theorem vc_bounds2 (e : Int) (s : List (List Int)) (o d : Int) (hvc :
 let c1 := D.ne e (0 : Int);
 let c2 := D.not c1;
 let c3 := D.get s (D.nat o) (D.nil Int);
 let c4 := D.get c3 (D.nat d) (0 : Int);
 let c5 := D.cnd c1 true (D.eq c4 (-1099511627776 : Int));
 let c6 := bnd2 e s o d;
 let c7 := D.neg c4; true = true ∧ (bnd2P e s o d → (c2 = true → c2 = true → c2 = true) ∧ (c2 = true → c2 = true → c2 = true) ∧ (c2 = true → D.ile (0 : Int) o) ∧
  (c2 = true → D.ilt o (D.ilen s)) ∧ (c2 = true → c2 = true → c2 = true) ∧ (c2 = true → c2 = true → c2 = true) ∧ (c2 = true → c2 = true → c2 = true) ∧ (c2 = true
  → D.ile (0 : Int) d) ∧ (c2 = true → D.ilt d (D.ilen c3)) ∧ (c2 = true → c2 = true → c2 = true) ∧ (c2 = true → c2 = true → c2 = true) ∧ (D.and true c2 = true →
  c2 = true) ∧ (c5 = true → (-1 : Int) = c6 ∧ True) ∧ (c5 = false → D.ile (0 : Int) o ∧ D.ilt o (D.ilen s) ∧ D.ile (0 : Int) d ∧ D.ilt d (D.ilen c3) ∧ inR
  IntKind.i64 c7 ∧ c7 = c6 ∧ True))) :
    evF (mkc KQ0) noAnn 77 [.dat I o, .dat I d, .ip I e, .ip M s] [] ⟨bnd2P e s o d, .dat I (bnd2 e s o d), []⟩ := of_eq (by kernel_rfl) hvc
def tableK (args : List AV) (m : Mem) : Option CRes := match m, args with
  | [], [.agg [.dat (.sl (.pair (.int .i64) (.pair (.sl .bool) (.sl (.int .i64))))) cs, .dat (.sl .str) ns, .dat (.sl .str) os, .dat (.sl (.pair .str (.pair (.int .i64) (.pair (.int .i64) (.pair (.int .i64) (.pair (.int .i64) (.pair (.int .i64) (.sl .str)))))))) fs, .dat (.sl (.pair .str (.pair (.int .i64) (.pair (.int .i64) (.pair (.int .i64) (.pair (.int .i64) (.int .i64))))))) ls, .dat (.sl (.pair .str (.pair (.int .i64) (.int .i64)))) ks], .fn 76 []] => some ⟨preBuild (D.ilen fs) noP2, .buf 0 (D.len (buildF none2 (D.ilen fs))), [(0, .mat 37 3 I (buildF none2 (D.ilen fs)) [])]⟩
  | [], [.agg [.dat (.sl (.pair (.int .i64) (.pair (.sl .bool) (.sl (.int .i64))))) cs, .dat (.sl .str) ns, .dat (.sl .str) os, .dat (.sl (.pair .str (.pair (.int .i64) (.pair (.int .i64) (.pair (.int .i64) (.pair (.int .i64) (.pair (.int .i64) (.sl .str)))))))) fs, .dat (.sl (.pair .str (.pair (.int .i64) (.pair (.int .i64) (.pair (.int .i64) (.pair (.int .i64) (.int .i64))))))) ls, .dat (.sl (.pair .str (.pair (.int .i64) (.int .i64)))) ks], .fn 77 [.ip (.int .i64) e, .ip (.sl (.sl (.int .i64))) s]] => some ⟨preBuild (D.ilen fs) (bnd2P e s), .dat M (buildF (bnd2 e s) (D.ilen fs)), []⟩
  | _, _ => none
def KQ1 : Kt := kOr 51 tableK <|
  kOr 47 (dataK [.row N, .val I, .val I] (fun _ => True) fun (n, a, b, _) => .dat .bool (ruseF n a b)) <|
  kOr 48 (dataK [.row N, .val I, .val I] (fun (n, a, b, _) => ruseP n a b) fun (n, a, b, _) => .dat R (costsF n a b)) KQ0
def matNames (s : St) : List Nat := s.mem.filterMap fun p => match p.2 with
  | .mat _ _ _ _ _ => some p.1
  | _ => none
def boundsA (n : Net) (c : List Int) : Ann := ⟨fun id s => match id with
  | 3 => match s.sig.T 11 with
    | .buf nm _ => some { α := Int, inv := fun k => lstTo n c k, st := fun k => putM (put s [(15, .dat I k)]) nm (.mat 37 3 I (leastTo n c k) []), μ := fun k => D.nat (D.sub (D.ilen n.2.2.2.2.1) k) }
    | _ => none
  | _ => none, fun id s => match id with
  | 8 => some (frz (matNames s) s)
  | 9 => some (frz (allNames s) s)
  | _ => none, fun _ _ => none⟩
theorem vc_rbounds (c : List Int) (cs : LC) (ns os : LB) (fs : List Off) (ls : List Line) (ks : List Cla) (hvc :
 let c1 := (ls, ks);
 let c2 := (cs, ns, os, fs, c1);
 let c3 := D.ilen fs;
 let c4 := buildF none2 c3;
 let c5 := D.len c4;
 let c6 := D.ilen ls;
 let c7 := (ByteArray.mk (D.nil UInt8).toArray, (0 : Int), (0 : Int), (0 : Int), (0 : Int), (0 : Int)); true = true ∧ (costsOk c2 c → preBuild c3 noP2 ∧ (∃ x,
  lstTo c2 c x ∧ cs = cs ∧ ns = ns ∧ os = os ∧ fs = fs ∧ ls = ls ∧ ks = ks ∧ c = c ∧ c2 = c2 ∧ Value.slice none (0) (0) = Value.slice none (0) (0) ∧ c5 = c5 ∧ cs
  = cs ∧ ns = ns ∧ os = os ∧ fs = fs ∧ ls = ls ∧ ks = ks ∧ c5 = c5 ∧ c1 = c1 ∧ ls = ls ∧ c6 = c6 ∧ (0 : Int) = x ∧ c4 = leastTo c2 c x ∧ True) ∧ ∀ (x : Int),
 let c8 := D.get c (D.nat x) (0 : Int);
 let c9 := D.ne c8 (-1099511627776 : Int);
 let c10 := D.len (leastTo c2 c x);
 let c11 := (D.get ls (D.nat x) c7).snd;
 let c12 := c11.fst;
 let c13 := c11.snd.fst;
 let c14 := D.nat c12;
 let c15 := D.get (leastTo c2 c x) c14 (D.nil Int);
 let c16 := D.len c15;
 let c17 := D.neg c8;
 let c18 := D.add x (1 : Int);
 let c19 := D.nat c13;
 let c20 := starS (leastTo c2 c x);
 let c21 := starE (leastTo c2 c x); lstTo c2 c x → (D.lt x c6 = true → D.ile (0 : Int) x ∧ D.ilt x c6 ∧ 1 = 1 ∧ 0 = 0 ∧ D.ile (0 : Int) x ∧ D.ilt x (D.ilen c) ∧
  (c9 = true → 1 = 1 ∧ 1 = 1 ∧ 0 = 0 ∧ c10 = c5 ∧ D.ile (0 : Int) c12 ∧ D.ilt c12 (D.ofN c10) ∧ c10 = c5 ∧ 1 = 1 ∧ 1 = 1 ∧ 0 = 0 ∧ 1 = 1 ∧ 1 = 1 ∧ 0 = 0 ∧ c10 =
  c5 ∧ D.ile (0 : Int) c12 ∧ D.ilt c12 (D.ofN c10) ∧ c10 = c5 ∧ 1 = 1 ∧ 1 = 1 ∧ 0 = 0 ∧ c10 = c5 ∧ D.ile (0 : Int) c13 ∧ D.ilt c13 (D.ofN c16) ∧ c10 = c5 ∧ c16 =
  c16 ∧ D.ile (0 : Int) x ∧ D.ilt x (D.ilen c) ∧ inR IntKind.i64 c17 ∧ c10 = c5 ∧ D.ile (0 : Int) c13 ∧ D.ilt c13 (D.ofN c16) ∧ c10 = c5 ∧ c16 = c16 ∧ inR
  IntKind.i64 c18 ∧ ∃ y, lstTo c2 c y ∧ (cs = cs ∧ ns = ns ∧ os = os ∧ fs = fs ∧ ls = ls ∧ ks = ks ∧ c = c ∧ c2 = c2 ∧ Value.slice none (0) (0) = Value.slice
  none (0) (0) ∧ c5 = c5 ∧ cs = cs ∧ ns = ns ∧ os = os ∧ fs = fs ∧ ls = ls ∧ ks = ks ∧ c5 = c5 ∧ c1 = c1 ∧ ls = ls ∧ c6 = c6 ∧ c18 = y ∧ D.set (leastTo c2 c x)
  c14 (D.set c15 c19 (D.mx (D.get c15 c19 (0 : Int)) c17)) = leastTo c2 c y ∧ True) ∧ D.nlt (D.nat (D.sub c6 y)) (D.nat (D.sub c6 x))) ∧ (c9 = false → inR
  IntKind.i64 c18 ∧ ∃ y, lstTo c2 c y ∧ (cs = cs ∧ ns = ns ∧ os = os ∧ fs = fs ∧ ls = ls ∧ ks = ks ∧ c = c ∧ c2 = c2 ∧ Value.slice none (0) (0) = Value.slice
  none (0) (0) ∧ c5 = c5 ∧ cs = cs ∧ ns = ns ∧ os = os ∧ fs = fs ∧ ls = ls ∧ ks = ks ∧ c5 = c5 ∧ c1 = c1 ∧ ls = ls ∧ c6 = c6 ∧ c18 = y ∧ leastTo c2 c x = leastTo
  c2 c y ∧ True) ∧ D.nlt (D.nat (D.sub c6 y)) (D.nat (D.sub c6 x)))) ∧ (D.lt x c6 = false → cs = cs ∧ ns = ns ∧ os = os ∧ fs = fs ∧ ls = ls ∧ ks = ks ∧ c = c ∧
  c2 = c2 ∧ Value.slice none (0) (0) = Value.slice none (0) (0) ∧ D.len (leastTo c2 c x) = c5 ∧ leastTo c2 c x = leastTo c2 c x ∧ cs = cs ∧ ns = ns ∧ os = os ∧
  fs = fs ∧ ls = ls ∧ ks = ks ∧ D.len (leastTo c2 c x) = c5 ∧ leastTo c2 c x = leastTo c2 c x ∧ c1 = c1 ∧ ls = ls ∧ c6 = c6 ∧ x = x ∧ D.lt x c6 = D.lt x c6 ∧
  starP (leastTo c2 c x) ∧ 1 = 1 ∧ 0 = 0 ∧ 1 = 1 ∧ 0 = 0 ∧ cs = cs ∧ ns = ns ∧ os = os ∧ fs = fs ∧ ls = ls ∧ ks = ks ∧ c = c ∧ c2 = c2 ∧ Value.slice none (0) (0)
  = Value.slice none (0) (0) ∧ leastTo c2 c x = leastTo c2 c x ∧ 1 = 1 ∧ 0 = 0 ∧ c20 = c20 ∧ 1 = 1 ∧ 0 = 0 ∧ c21 = c21 ∧ cs = cs ∧ ns = ns ∧ os = os ∧ fs = fs ∧
  ls = ls ∧ ks = ks ∧ leastTo c2 c x = leastTo c2 c x ∧ c1 = c1 ∧ ls = ls ∧ c6 = c6 ∧ x = x ∧ D.lt x c6 = D.lt x c6 ∧ c20 = c20 ∧ c21 = c21 ∧ leastTo c2 c x =
  leastTo c2 c x ∧ c20 = c20 ∧ c21 = c21 ∧ c20 = c20 ∧ c21 = c21 ∧ preBuild c3 (bnd2P c21 c20) ∧ buildF (bnd2 c21 c20) c3 = boundsF c2 c ∧ True))) :
    evF (mkc KQ1) (boundsA (cs, ns, os, fs, ls, ks) c) 50 [net cs ns os fs ls ks, .dat R c] [] ⟨costsOk (cs, ns, os, fs, ls, ks) c, .dat M (boundsF (cs, ns, os, fs, ls, ks) c), []⟩ := of_eq (by kernel_rfl) hvc
def bestA (n : Net) (c : List Int) (b : List (List Int)) (o d : Int) : Ann := ⟨fun id s => match id with
  | 3 => some { α := Int, inv := fun k => bestTo n c b o d k, st := fun k => put s [(17, .dat I k), (11, .dat I (-1))], μ := fun k => D.nat (D.sub (D.ilen n.2.2.2.2.1) k) }
  | _ => none, fun _ _ => none, fun _ _ => none⟩
theorem vc_best (c : List Int) (b : List (List Int)) (o d : Int) (cs : LC) (ns os : LB) (fs : List Off) (ls : List Line) (ks : List Cla) (hvc :
 let c1 := (ls, ks);
 let c2 := (cs, ns, os, fs, c1);
 let c3 := D.ilen ls;
 let c4 := (ByteArray.mk (D.nil UInt8).toArray, (0 : Int), (0 : Int), (0 : Int), (0 : Int), (0 : Int));
 let c5 := D.get b (D.nat o) (D.nil Int);
 let c6 := bestF c2 c b o d; true = true ∧ (bestP c2 c b o d → (∃ x, bestTo c2 c b o d x ∧ cs = cs ∧ ns = ns ∧ os = os ∧ fs = fs ∧ ls = ls ∧ ks = ks ∧ c = c ∧ b
  = b ∧ o = o ∧ d = d ∧ c2 = c2 ∧ (0 : Int) = (0 : Int) ∧ (-1 : Int) = (-1 : Int) ∧ c1 = c1 ∧ ls = ls ∧ c3 = c3 ∧ (0 : Int) = x ∧ True) ∧ ∀ (x : Int),
 let c7 := (D.get ls (D.nat x) c4).snd;
 let c8 := D.ne c7.fst o;
 let c9 := D.not c8;
 let c10 := D.get c (D.nat x) (0 : Int);
 let c11 := D.cnd c8 true (D.eq c10 (-1099511627776 : Int));
 let c12 := D.not c11;
 let c13 := c7.snd.fst;
 let c14 := D.get b (D.nat c13) (D.nil Int);
 let c15 := D.get c14 (D.nat d) (0 : Int);
 let c16 := D.cnd c11 true (D.lt c15 (0 : Int));
 let c17 := D.add x (1 : Int);
 let c18 := D.add c10 c15;
 let c19 := D.eq c18 (D.get c5 (D.nat d) (0 : Int)); bestTo c2 c b o d x → (D.lt x c3 = true → D.ile (0 : Int) x ∧ D.ilt x c3 ∧ 1 = 1 ∧ 0 = 0 ∧ 1 = 1 ∧ 1 = 1 ∧ 0
  = 0 ∧ (c9 = true → c9 = true → c9 = true) ∧ (c9 = true → c9 = true → c9 = true) ∧ (c9 = true → D.ile (0 : Int) x) ∧ (c9 = true → D.ilt x (D.ilen c)) ∧ (c9 =
  true → c9 = true → c9 = true) ∧ (c9 = true → c9 = true → c9 = true) ∧ (D.and true c9 = true → c9 = true) ∧ (c12 = true → 1 = 1) ∧ (c12 = true → c12 = true →
  c12 = true) ∧ (c12 = true → 1 = 1) ∧ (c12 = true → 0 = 0) ∧ (c12 = true → c12 = true → c12 = true) ∧ (c12 = true → c12 = true → c12 = true) ∧ (c12 = true →
  D.ile (0 : Int) c13) ∧ (c12 = true → D.ilt c13 (D.ilen b)) ∧ (c12 = true → c12 = true → c12 = true) ∧ (c12 = true → c12 = true → c12 = true) ∧ (c12 = true →
  c12 = true → c12 = true) ∧ (c12 = true → D.ile (0 : Int) d) ∧ (c12 = true → D.ilt d (D.ilen c14)) ∧ (c12 = true → c12 = true → c12 = true) ∧ (c12 = true → c12
  = true → c12 = true) ∧ (D.and true c12 = true → c12 = true) ∧ (c16 = true → inR IntKind.i64 c17 ∧ ∃ y, bestTo c2 c b o d y ∧ (cs = cs ∧ ns = ns ∧ os = os ∧ fs
  = fs ∧ ls = ls ∧ ks = ks ∧ c = c ∧ b = b ∧ o = o ∧ d = d ∧ c2 = c2 ∧ (0 : Int) = (0 : Int) ∧ (-1 : Int) = (-1 : Int) ∧ c1 = c1 ∧ ls = ls ∧ c3 = c3 ∧ c17 = y ∧
  True) ∧ D.nlt (D.nat (D.sub c3 y)) (D.nat (D.sub c3 x))) ∧ (c16 = false → D.ile (0 : Int) x ∧ D.ilt x (D.ilen c) ∧ 1 = 1 ∧ 1 = 1 ∧ 0 = 0 ∧ D.ile (0 : Int) c13
  ∧ D.ilt c13 (D.ilen b) ∧ D.ile (0 : Int) d ∧ D.ilt d (D.ilen c14) ∧ inR IntKind.i64 c18 ∧ D.ile (0 : Int) o ∧ D.ilt o (D.ilen b) ∧ D.ile (0 : Int) d ∧ D.ilt d
  (D.ilen c5) ∧ (c19 = true → x = c6 ∧ True) ∧ (c19 = false → inR IntKind.i64 c17 ∧ ∃ y, bestTo c2 c b o d y ∧ (cs = cs ∧ ns = ns ∧ os = os ∧ fs = fs ∧ ls = ls ∧
  ks = ks ∧ c = c ∧ b = b ∧ o = o ∧ d = d ∧ c2 = c2 ∧ (0 : Int) = (0 : Int) ∧ (-1 : Int) = (-1 : Int) ∧ c1 = c1 ∧ ls = ls ∧ c3 = c3 ∧ c17 = y ∧ True) ∧ D.nlt
  (D.nat (D.sub c3 y)) (D.nat (D.sub c3 x))))) ∧ (D.lt x c3 = false → (-1 : Int) = c6 ∧ True))) :
    evF (mkc KQ1) (bestA (cs, ns, os, fs, ls, ks) c b o d) 53 [net cs ns os fs ls ks, .dat R c, .dat M b, .dat I o, .dat I d] [] ⟨bestP (cs, ns, os, fs, ls, ks) c b o d, .dat I (bestF (cs, ns, os, fs, ls, ks) c b o d), []⟩ := of_eq (by kernel_rfl) hvc
def KQ2 : Kt := kOr 50 (dataK [.row N, .val R] (fun (n, c, _) => costsOk n c) fun (n, c, _) => .dat M (boundsF n c)) <|
  kOr 53 (dataK [.row N, .val R, .val M, .val I, .val I] (fun (n, c, b, o, d, _) => bestP n c b o d) fun (n, c, b, o, d, _) => .dat I (bestF n c b o d)) KQ1
theorem vc_next1 (b : List (List Int)) (c : List Int) (o d : Int) (cs : LC) (ns os : LB) (fs : List Off) (ls : List Line) (ks : List Cla) (hvc :
 let c1 := (cs, ns, os, fs, ls, ks);
 let c2 := D.get b (D.nat o) (D.nil Int);
 let c3 := D.cnd (D.eq o d) true (D.lt (D.get c2 (D.nat d) (0 : Int)) (0 : Int));
 let c4 := next2 c1 c b o d; true = true ∧ (bestP c1 c b o d → (D.not (D.eq o d) = true → D.not (D.eq o d) = true → D.not (D.eq o d) = true) ∧ (D.not (D.eq o d)
  = true → D.not (D.eq o d) = true → D.not (D.eq o d) = true) ∧ (D.not (D.eq o d) = true → D.ile (0 : Int) o) ∧ (D.not (D.eq o d) = true → D.ilt o (D.ilen b)) ∧
  (D.not (D.eq o d) = true → D.not (D.eq o d) = true → D.not (D.eq o d) = true) ∧ (D.not (D.eq o d) = true → D.not (D.eq o d) = true → D.not (D.eq o d) = true) ∧
  (D.not (D.eq o d) = true → D.not (D.eq o d) = true → D.not (D.eq o d) = true) ∧ (D.not (D.eq o d) = true → D.ile (0 : Int) d) ∧ (D.not (D.eq o d) = true →
  D.ilt d (D.ilen c2)) ∧ (D.not (D.eq o d) = true → D.not (D.eq o d) = true → D.not (D.eq o d) = true) ∧ (D.not (D.eq o d) = true → D.not (D.eq o d) = true →
  D.not (D.eq o d) = true) ∧ (D.and true (D.not (D.eq o d)) = true → D.not (D.eq o d) = true) ∧ (c3 = true → (-1 : Int) = c4 ∧ True) ∧ (c3 = false → bestP c1 c b
  o d ∧ bestF c1 c b o d = c4 ∧ True))) :
    evF (mkc KQ2) noAnn 52 [.dat I o, .dat I d, .ip M b, .ip N (cs, ns, os, fs, ls, ks), .ip R c] [] ⟨bestP (cs, ns, os, fs, ls, ks) c b o d, .dat I (next2 (cs, ns, os, fs, ls, ks) c b o d), []⟩ := of_eq (by kernel_rfl) hvc
def KQ3 : Kt := kOr 51 (fun args m => match m, args with
  | [], [.agg [.dat (.sl (.pair (.int .i64) (.pair (.sl .bool) (.sl (.int .i64))))) cs, .dat (.sl .str) ns, .dat (.sl .str) os, .dat (.sl (.pair .str (.pair (.int .i64) (.pair (.int .i64) (.pair (.int .i64) (.pair (.int .i64) (.pair (.int .i64) (.sl .str)))))))) fs, .dat (.sl (.pair .str (.pair (.int .i64) (.pair (.int .i64) (.pair (.int .i64) (.pair (.int .i64) (.int .i64))))))) ls, .dat (.sl (.pair .str (.pair (.int .i64) (.int .i64)))) ks], .fn 52 [.ip (.sl (.sl (.int .i64))) b, .ip (.pair (.sl (.pair (.int .i64) (.pair (.sl .bool) (.sl (.int .i64))))) (.pair (.sl .str) (.pair (.sl .str) (.pair (.sl (.pair .str (.pair (.int .i64) (.pair (.int .i64) (.pair (.int .i64) (.pair (.int .i64) (.pair (.int .i64) (.sl .str)))))))) (.pair (.sl (.pair .str (.pair (.int .i64) (.pair (.int .i64) (.pair (.int .i64) (.pair (.int .i64) (.int .i64))))))) (.sl (.pair .str (.pair (.int .i64) (.int .i64))))))))) n, .ip (.sl (.int .i64)) c]] => some ⟨preBuild (D.ilen fs) (bestP n c b), .dat M (buildF (next2 n c b) (D.ilen fs)), []⟩
  | _, _ => none) KQ2
def nextA : Ann := ⟨fun _ _ => none, fun id s => match id with
  | 5 => some (frz (allNames s) s)
  | _ => none, fun _ _ => none⟩
theorem vc_rnext (a b : Int) (cs : LC) (ns os : LB) (fs : List Off) (ls : List Line) (ks : List Cla) (hvc :
 let c1 := (cs, ns, os, fs, ls, ks);
 let c2 := ruseF c1 a b;
 let c3 := D.not c2;
 let c4 := rnextF c1 a b;
 let c5 := costsF c1 a b;
 let c6 := boundsF c1 c5;
 let c7 := D.ilen fs; true = true ∧ (True → True ∧ (c3 = true → c4 = D.nil (List Int) ∧ True) ∧ (c3 = false → ruseP c1 a b ∧ 1 = 1 ∧ 0 = 0 ∧ 1 = 1 ∧ 0 = 0 ∧
  costsOk c1 c5 ∧ 1 = 1 ∧ 0 = 0 ∧ cs = cs ∧ ns = ns ∧ os = os ∧ fs = fs ∧ ls = ls ∧ ks = ks ∧ a = a ∧ b = b ∧ c1 = c1 ∧ Value.slice none (0) (0) = Value.slice
  none (0) (0) ∧ 1 = 1 ∧ 0 = 0 ∧ c5 = c5 ∧ 1 = 1 ∧ 0 = 0 ∧ c6 = c6 ∧ cs = cs ∧ ns = ns ∧ os = os ∧ fs = fs ∧ ls = ls ∧ ks = ks ∧ a = a ∧ b = b ∧ c2 = c2 ∧ c3 =
  c3 ∧ cs = cs ∧ ns = ns ∧ os = os ∧ fs = fs ∧ ls = ls ∧ ks = ks ∧ a = a ∧ b = b ∧ c5 = c5 ∧ cs = cs ∧ ns = ns ∧ os = os ∧ fs = fs ∧ ls = ls ∧ ks = ks ∧ c5 = c5
  ∧ c6 = c6 ∧ preBuild c7 (bestP c1 c5 c6) ∧ buildF (next2 c1 c5 c6) c7 = c4 ∧ True))) :
    evF (mkc KQ3) nextA 25 [net cs ns os fs ls ks, .dat I a, .dat I b] [] ⟨True, .dat M (rnextF (cs, ns, os, fs, ls, ks) a b), []⟩ := of_eq (by kernel_rfl) hvc
theorem vc_rbnds (a b : Int) (cs : LC) (ns os : LB) (fs : List Off) (ls : List Line) (ks : List Cla) (hvc :
 let c1 := (cs, ns, os, fs, ls, ks);
 let c2 := D.not (ruseF c1 a b);
 let c3 := rboundsF c1 a b;
 let c4 := costsF c1 a b; true = true ∧ (True → True ∧ (c2 = true → c3 = D.nil (List Int) ∧ True) ∧ (c2 = false → ruseP c1 a b ∧ costsOk c1 c4 ∧ boundsF c1 c4 =
  c3 ∧ True))) :
    evF (mkc KQ3) noAnn 27 [net cs ns os fs ls ks, .dat I a, .dat I b] [] ⟨True, .dat M (rboundsF (cs, ns, os, fs, ls, ks) a b), []⟩ := of_eq (by kernel_rfl) hvc
theorem vc_rcosts (a b : Int) (cs : LC) (ns os : LB) (fs : List Off) (ls : List Line) (ks : List Cla) (hvc :
 let c1 := (cs, ns, os, fs, ls, ks);
 let c2 := D.not (ruseF c1 a b);
 let c3 := rcostsF c1 a b; true = true ∧ (True → True ∧ (c2 = true → c3 = D.nil Int ∧ True) ∧ (c2 = false → ruseP c1 a b ∧ costsF c1 a b = c3 ∧ True))) :
    evF (mkc KQ3) noAnn 22 [net cs ns os fs ls ks, .dat I a, .dat I b] [] ⟨True, .dat R (rcostsF (cs, ns, os, fs, ls, ks) a b), []⟩ := of_eq (by kernel_rfl) hvc
def KQ4 : Kt := kOr 22 (dataK [.row N, .val I, .val I] (fun _ => True) fun (n, a, b, _) => .dat R (rcostsF n a b)) <|
  kOr 27 (dataK [.row N, .val I, .val I] (fun _ => True) fun (n, a, b, _) => .dat M (rboundsF n a b)) <|
  kOr 25 (dataK [.row N, .val I, .val I] (fun _ => True) fun (n, a, b, _) => .dat M (rnextF n a b)) KQ3
theorem KSQ0 : KSound Tryz.prog G0 KQ0 := kOr_ok (dataK_ok fun (m, _) => Mp.s_star m) KSR6
theorem rng_iff {a b : Int} : rngF a b = true ↔ 0 ≤ a ∧ a < b ∧ b ≤ 2000000 ∧ b ≤ a + 86400 := by
  unfold rngF; simp only [Bool.and_eq_true, decide_eq_true_eq, and_assoc]
theorem sound_len {n : Net} : soundF n = decide (((checkF n).length : Int) = 0) := by
  unfold soundF
  cases checkF n with
  | nil => rfl
  | cons a l =>
    symm
    show decide _ = false
    rw [decide_eq_false_iff_not, List.length_cons]; omega
theorem ruse_iff {n : Net} {a b : Int} : ruseF n a b = true ↔ (0 ≤ a ∧ a < b ∧ b ≤ 2000000 ∧ b ≤ a + 86400) ∧ soundF n = true := by
  unfold ruseF; rw [Bool.and_eq_true, rng_iff]
theorem t_ruse (a b : Int) (cs : LC) (ns os : LB) (fs : List Off) (ls : List Line) (ks : List Cla) : SoundC Tryz.prog G0 47 [net cs ns os fs ls ks, .dat I a, .dat I b] [] ⟨True, .dat .bool (ruseF (cs, ns, os, fs, ls, ks) a b), []⟩ := by
  refine sound_of_ev (c := mkc KQ0) KSQ0 KI0s hm (vc_ruse a b cs ns os fs ls ks ⟨rfl, fun _ => ?_⟩)
  simp only [cnd_or, D.and, D.not, Bool.true_and, true_and, and_true, imp_self, implies_true, Bool.not_eq_true', Bool.or_eq_true, Bool.or_eq_false_iff, D.eq, D.lt, D.gt, D.le, D.ilen, D.sub, decide_eq_true_eq, decide_eq_false_iff_not]
  refine ⟨fun h => in_small (by omega), fun h => ?_, fun h => ?_⟩
  · unfold ruseF
    have : rngF a b = false := by
      rw [← Bool.not_eq_true, rng_iff]; omega
    rw [this]; rfl
  · unfold ruseF
    rw [rng_iff.2 (by omega), Bool.true_and, sound_len]; rfl
theorem sound_noF (cs : LC) (ns os : LB) (fs : List Off) (ls : List Line) (ks : List Cla) (h : soundF (cs, ns, os, fs, ls, ks) = true) : noF (cs, ns, os, fs, ls, ks) = true := ((checkF_nil cs ns os fs ls ks).1 (List.isEmpty_iff.1 h)).1
theorem sound_line (cs : LC) (ns os : LB) (fs : List Off) (ls : List Line) (ks : List Cla) {i : Int} (h : soundF (cs, ns, os, fs, ls, ks) = true) (i0 : 0 ≤ i) (i1 : i < ls.length) : 0 ≤ (lineOf (cs, ns, os, fs, ls, ks) i).2.1 ∧ (lineOf (cs, ns, os, fs, ls, ks) i).2.1 < fs.length ∧ 0 ≤ (lineOf (cs, ns, os, fs, ls, ks) i).2.2.1 ∧ (lineOf (cs, ns, os, fs, ls, ks) i).2.2.1 < fs.length ∧ (lineOf (cs, ns, os, fs, ls, ks) i).2.1 ≠ (lineOf (cs, ns, os, fs, ls, ks) i).2.2.1 ∧ 1 ≤ (lineOf (cs, ns, os, fs, ls, ks) i).2.2.2.2.1 ∧ (lineOf (cs, ns, os, fs, ls, ks) i).2.2.2.2.1 ≤ 5000 := by
  have hno := sound_noF cs ns os fs ls ks h
  have hl : lineOf (cs, ns, os, fs, ls, ks) i ∈ ls := by
    unfold lineOf
    show ls.getD i.toNat _ ∈ ls
    rw [List.getD_eq_getElem?_getD, List.getElem?_eq_getElem (by omega), Option.getD_some]
    exact List.getElem_mem _
  obtain ⟨g1, g2, g3, g4, g5, g6, g7, g8⟩ := goodLin_spec ((noF_lines cs ns os fs ls ks hno).2.2.2 _ hl)
  exact ⟨g1, g2, g3, g4, g5, g7, g8⟩
theorem sound_off (cs : LC) (ns os : LB) (fs : List Off) (ls : List Line) (ks : List Cla) {o : Int} (h : soundF (cs, ns, os, fs, ls, ks) = true) (o0 : 0 ≤ o) (o1 : o < fs.length) : 0 < (offOf (cs, ns, os, fs, ls, ks) o).2.2.2.2.1 * (offOf (cs, ns, os, fs, ls, ks) o).2.2.2.2.2.1 ∧ (offOf (cs, ns, os, fs, ls, ks) o).2.2.2.2.1 * (offOf (cs, ns, os, fs, ls, ks) o).2.2.2.2.2.1 ≤ 960 := by
  have hno := sound_noF cs ns os fs ls ks h
  have ho : offOf (cs, ns, os, fs, ls, ks) o ∈ fs := by
    unfold offOf
    show fs.getD o.toNat _ ∈ fs
    rw [List.getD_eq_getElem?_getD, List.getElem?_eq_getElem (by omega), Option.getD_some]
    exact List.getElem_mem _
  have gc := (noF_offs cs ns os fs ls ks hno).2.2.2 _ ho
  unfold goodOff idxF fromF at gc
  simp only [Bool.and_eq_true, decide_eq_true_eq] at gc
  obtain ⟨⟨_, p0, p1⟩, q0, q1⟩ := gc
  generalize (offOf (cs, ns, os, fs, ls, ks) o).2.2.2.2.1 = p at *
  generalize (offOf (cs, ns, os, fs, ls, ks) o).2.2.2.2.2.1 = q at *
  refine ⟨Int.mul_pos (by omega) (by omega), ?_⟩
  have := Int.mul_le_mul (a := p) (b := q) (c := 4) (d := 240) p1 q1 (by omega) (by omega)
  omega
theorem wait_le (cs : LC) (ns os : LB) (fs : List Off) (ls : List Line) (ks : List Cla) {i a b : Int} (h : ruseF (cs, ns, os, fs, ls, ks) a b = true) (i0 : 0 ≤ i) (i1 : i < ls.length) : (waitE (cs, ns, os, fs, ls, ks) i a b = 0 ∧ waitO (cs, ns, os, fs, ls, ks) i a b = some (waitD (cs, ns, os, fs, ls, ks) i a b) ∧ 0 ≤ waitD (cs, ns, os, fs, ls, ks) i a b ∧ waitD (cs, ns, os, fs, ls, ks) i a b ≤ 86400) ∨ (waitE (cs, ns, os, fs, ls, ks) i a b = 20 ∧ waitO (cs, ns, os, fs, ls, ks) i a b = none) := by
  obtain ⟨⟨a0, ab, b1, hb⟩, hs⟩ := ruse_iff.1 h
  have hu : usableF (cs, ns, os, fs, ls, ks) i [a, b] = true := by
    unfold usableF idxF
    rw [hs, Bool.and_true, Bool.and_eq_true]
    exact ⟨decide_eq_true ⟨i0, i1⟩, by simp [timeOk]; omega⟩
  have hok : waitOk (cs, ns, os, fs, ls, ks) i a b = true := by
    unfold waitOk; rw [hu, decide_eq_true ab, decide_eq_true hb]; rfl
  have ha := line_at cs ns os fs ls ks (usable_first cs ns os fs ls ks hu (List.mem_cons_self)).1
  unfold waitE waitD
  rw [if_pos hok, if_pos hok]
  cases e : waitO (cs, ns, os, fs, ls, ks) i a b with
  | none => exact .inr ⟨rfl, rfl⟩
  | some w =>
    obtain ⟨_, s, u, s1, s2, _, s4, s5⟩ := wait_some ha ab e
    have := firstO_range s4
    exact .inl ⟨rfl, rfl, by show 0 ≤ w; omega, by show w ≤ 86400; omega⟩
theorem cost_cases (cs : LC) (ns os : LB) (fs : List Off) (ls : List Line) (ks : List Cla) {i a b : Int} (h : ruseF (cs, ns, os, fs, ls, ks) a b = true) (i0 : 0 ≤ i) (i1 : i < ls.length) : costF (cs, ns, os, fs, ls, ks) a b i = noneI ∨ (0 < costF (cs, ns, os, fs, ls, ks) a b i ∧ costF (cs, ns, os, fs, ls, ks) a b i ≤ 100000) := by
  obtain ⟨_, hs⟩ := ruse_iff.1 h
  obtain ⟨l0, l1, l2, l3, l4, l5, l6⟩ := sound_line cs ns os fs ls ks hs i0 i1
  obtain ⟨o0, o1⟩ := sound_off cs ns os fs ls ks hs l2 l3
  unfold costF
  rcases wait_le cs ns os fs ls ks h i0 i1 with ⟨e, _, w0, w1⟩ | ⟨e, _⟩
  · rw [if_pos e]; right; omega
  · rw [if_neg (by omega)]; exact .inl rfl
theorem costsF_len (n : Net) (a b : Int) : (costsF n a b).length = n.2.2.2.2.1.length := by simp [costsF]
theorem costsF_at (cs : LC) (ns os : LB) (fs : List Off) (ls : List Line) (ks : List Cla) (a b : Int) {i : Int} (i0 : 0 ≤ i) (i1 : i < ls.length) : (costsF (cs, ns, os, fs, ls, ks) a b).getD i.toNat 0 = costF (cs, ns, os, fs, ls, ks) a b i := by
  unfold costsF
  rw [List.getD_eq_getElem?_getD, List.getElem?_map, List.getElem?_range (by show i.toNat < ls.length; omega)]
  simp [Int.toNat_of_nonneg i0]
theorem costs_ok (cs : LC) (ns os : LB) (fs : List Off) (ls : List Line) (ks : List Cla) {a b : Int} (h : ruseF (cs, ns, os, fs, ls, ks) a b = true) : costsOk (cs, ns, os, fs, ls, ks) (costsF (cs, ns, os, fs, ls, ks) a b) := by
  refine ⟨(ruse_iff.1 h).2, costsF_len _ _ _, fun i i0 i1 => ?_⟩
  have i1 : i < ls.length := by rw [costsF_len] at i1; exact i1
  rw [costsF_at cs ns os fs ls ks a b i0 i1]
  rcases cost_cases cs ns os fs ls ks h i0 i1 with g | g
  · exact .inl g
  · right; omega
theorem costsTo_len (cs : LC) (ns os : LB) (fs : List Off) (ls : List Line) (ks : List Cla) {a b k : Int} (h : 0 ≤ k ∧ k ≤ ls.length) : (costsTo (cs, ns, os, fs, ls, ks) a b k).length = ls.length := by
  unfold costsTo
  rw [List.length_append, List.length_take, List.length_replicate, costsF_len]
  show min k.toNat ls.length + (ls.length - k.toNat) = ls.length
  omega
theorem costsTo_next (cs : LC) (ns os : LB) (fs : List Off) (ls : List Line) (ks : List Cla) {a b k v : Int} (k0 : 0 ≤ k) (k1 : k < ls.length) (hv : v = costF (cs, ns, os, fs, ls, ks) a b k) : (costsTo (cs, ns, os, fs, ls, ks) a b k).set k.toNat v = costsTo (cs, ns, os, fs, ls, ks) a b (k + 1) := by
  have e : (k + 1).toNat = k.toNat + 1 := by omega
  have := Mp.fill_set (costsF (cs, ns, os, fs, ls, ks) a b) 0 v k.toNat (by
    unfold costsF
    rw [List.getElem?_map, List.getElem?_range (by show k.toNat < ls.length; omega), hv]; simp [Int.toNat_of_nonneg k0])
  rw [costsF_len] at this
  unfold costsTo; rw [e]; exact this
theorem t_costs (a b : Int) (cs : LC) (ns os : LB) (fs : List Off) (ls : List Line) (ks : List Cla) : SoundC Tryz.prog G0 48 [net cs ns os fs ls ks, .dat I a, .dat I b] [] ⟨ruseP (cs, ns, os, fs, ls, ks) a b, .dat R (costsF (cs, ns, os, fs, ls, ks) a b), []⟩ := by
  refine sound_of_ev (c := mkc KQ0) KSQ0 KI0s hm (vc_costs a b cs ns os fs ls ks ⟨rfl, fun hp => ?_⟩)
  have hp : ruseF (cs, ns, os, fs, ls, ks) a b = true := hp
  obtain ⟨_, hs⟩ := ruse_iff.1 hp
  have l40 := (lines_ok cs ns os fs ls ks (sound_noF cs ns os fs ls ks hs)).2
  simp only [eq_self, true_and, and_true, Int.toNat_natCast, D.nil, D.ne, D.lt, D.ilen, D.ile, D.ilt, D.nlt, D.sub, D.add, D.mul, D.nat, D.ofN, D.len, D.get, D.set, D.rep, decide_eq_true_eq, decide_eq_false_iff_not, bne_iff_ne, bne_eq_false_iff_eq, lineOf_fold cs ns os fs ls ks]
  have lf : ∀ x : Int, fs.getD (lineOf (cs, ns, os, fs, ls, ks) x).2.2.1.toNat (⟨#[]⟩, 0, 0, 0, 0, 0, []) = offOf (cs, ns, os, fs, ls, ks) (lineOf (cs, ns, os, fs, ls, ks) x).2.2.1 := fun _ => rfl
  refine ⟨by omega, by omega, by omega, ⟨0, ⟨hp, by omega, by omega⟩, rfl, by simp [costsTo]⟩, fun x hx => ⟨fun hlt => ?_, fun hge => ?_⟩⟩
  · obtain ⟨_, x0, x1⟩ := hx
    have hl := costsTo_len cs ns os fs ls ks (a := a) (b := b) ⟨x0, x1⟩
    obtain ⟨l0, l1, l2, l3, l4, l5, l6⟩ := sound_line cs ns os fs ls ks hs x0 hlt
    obtain ⟨o0, o1⟩ := sound_off cs ns os fs ls ks hs l2 l3
    refine ⟨x0, hlt, fun hw => ?_, fun hw => ?_⟩
    · refine ⟨hl, x0, by omega, hl, in_small (by omega), x + 1, ⟨hp, by omega, (by show x + 1 ≤ (ls.length : Int); omega)⟩, ⟨rfl, costsTo_next cs ns os fs ls ks x0 hlt ?_⟩, by omega⟩
      unfold costF; rw [if_neg hw]; rfl
    · rcases wait_le cs ns os fs ls ks hp x0 hlt with ⟨e, _, w0, w1⟩ | ⟨e, _⟩
      · refine ⟨l2, l3, in_small (by omega), in_small (by rw [lf]; omega), in_small (by rw [lf]; omega), hl, x0, by omega, hl, in_small (by omega), x + 1, ⟨hp, by omega, (by show x + 1 ≤ (ls.length : Int); omega)⟩, ⟨rfl, costsTo_next cs ns os fs ls ks x0 hlt ?_⟩, by omega⟩
        unfold costF; rw [if_pos e]; rfl
      · exfalso; omega
  · obtain ⟨_, x0, x1⟩ := hx
    have x1 : x ≤ ls.length := x1
    have e : x.toNat = ls.length := by omega
    refine ⟨costsTo_len cs ns os fs ls ks ⟨x0, x1⟩, ?_⟩
    unfold costsTo
    rw [e, List.take_of_length_le (by rw [costsF_len]; exact Nat.le_refl _)]
    show _ ++ List.replicate (ls.length - ls.length) 0 = _
    simp
theorem t_table (preT : Int → Int → Prop) (g : Int → Int → Int) (cs : LC) (ns os : LB) (fs : List Off) (ls : List Line) (ks : List Cla) : SoundC Tryz.prog G0 51 [net cs ns os fs ls ks, .clo2 I I I preT g] [] ⟨preBuild (D.ilen fs) preT, .dat M (buildF g (D.ilen fs)), []⟩ := by
  refine sound_of_ev (c := mkc KQ0) KSQ0 KI0s hm (vc_table preT g cs ns os fs ls ks ⟨rfl, fun hp => ?_⟩)
  obtain ⟨p1, p2, p3⟩ := hp
  simp only [eq_self, true_and, and_true, Int.toNat_natCast, Int.ofNat_eq_natCast, D.nil, D.lt, D.ilen, D.ile, D.ilt, D.nlt, D.sub, D.add, D.mul, D.nat, D.ofN, D.len, D.set, D.rep, decide_eq_true_eq, decide_eq_false_iff_not] at p1 p2 p3 ⊢
  have en : (fs.length : Int).toNat = fs.length := Int.toNat_natCast _
  refine ⟨by omega, by omega, by omega, by simp, ⟨0, ⟨by omega, .inr rfl⟩, by simp, by rw [Mp.rowsF_zero]; simp⟩, fun x hx => ⟨fun hlt => ?_, fun hge => ?_⟩⟩
  · have h0 := hx.1
    have hl := Mp.rowsF_len g fs.length x hx
    rw [en] at hl
    refine ⟨by omega, by omega, by omega, hl, h0, by omega, hl, by simp, hl, h0, by omega, hl, by simp, ⟨0, ⟨by omega, .inr rfl⟩, by simp, by rw [Mp.rowF_zero]; simp⟩, fun y hy => ⟨fun hlt2 => ?_, fun hge => ?_⟩⟩
    · have h2 := hy.1
      have hl2 := Mp.rowF_len g fs.length x y hy
      rw [en] at hl2
      refine ⟨hl, h0, by omega, hl, p3 x y h0 hlt h2 hlt2, hl2, h2, by omega, hl2, in_small (by omega), y + 1, ⟨by omega, .inl (by omega)⟩, ⟨rfl, ?_⟩, by omega⟩
      exact Mp.rowF_succ g fs.length x y h2 hlt2
    · have hl2 := Mp.rowF_len g fs.length x y hy
      rw [en] at hl2
      refine ⟨in_small (by omega), x + 1, ⟨by omega, .inl (by omega)⟩, ⟨rfl, hl2, ?_⟩, by omega⟩
      exact Mp.rowsF_succ g fs.length x y h0 hlt hy hge
  · have hl := Mp.rowsF_len g fs.length x hx
    rw [en] at hl
    exact ⟨hl, Mp.rowsF_end g fs.length x hx hge⟩
theorem t_tableM (preT : Int → Int → Prop) (g : Int → Int → Int) (cs : LC) (ns os : LB) (fs : List Off) (ls : List Line) (ks : List Cla) : SoundC Tryz.prog G0 51 [net cs ns os fs ls ks, .clo2 I I I preT g] [] ⟨preBuild (D.ilen fs) preT, .buf 0 (D.len (buildF g (D.ilen fs))), [(0, .mat 37 3 I (buildF g (D.ilen fs)) [])]⟩ := by
  refine sound_of_ev (c := mkc KQ0) KSQ0 KI0s hm (vc_tableM preT g cs ns os fs ls ks ⟨rfl, fun hp => ?_⟩)
  obtain ⟨p1, p2, p3⟩ := hp
  simp only [eq_self, true_and, and_true, Int.toNat_natCast, Int.ofNat_eq_natCast, D.nil, D.lt, D.ilen, D.ile, D.ilt, D.nlt, D.sub, D.add, D.mul, D.nat, D.ofN, D.len, D.set, D.rep, decide_eq_true_eq, decide_eq_false_iff_not, D.allNil] at p1 p2 p3 ⊢
  have en : (fs.length : Int).toNat = fs.length := Int.toNat_natCast _
  refine ⟨by omega, by omega, by omega, by simp, ⟨0, ⟨by omega, .inr rfl⟩, by simp, by rw [Mp.rowsF_zero]; simp, ?_⟩, fun x hx => ⟨fun hlt => ?_, fun hge => ?_⟩⟩
  · rw [Mp.rowsF_zero]
    intro r hr
    exact List.eq_of_mem_replicate hr
  · have h0 := hx.1
    have hl := Mp.rowsF_len g fs.length x hx
    rw [en] at hl
    refine ⟨by omega, by omega, by omega, hl, h0, by omega, hl, by simp, hl, h0, by omega, hl, by simp, ⟨0, ⟨by omega, .inr rfl⟩, by simp, by rw [Mp.rowF_zero]; simp⟩, fun y hy => ⟨fun hlt2 => ?_, fun hge => ?_⟩⟩
    · have h2 := hy.1
      have hl2 := Mp.rowF_len g fs.length x y hy
      rw [en] at hl2
      refine ⟨hl, h0, by omega, hl, p3 x y h0 hlt h2 hlt2, hl2, h2, by omega, hl2, in_small (by omega), y + 1, ⟨by omega, .inl (by omega)⟩, ⟨rfl, ?_⟩, by omega⟩
      exact Mp.rowF_succ g fs.length x y h2 hlt2
    · have hl2 := Mp.rowF_len g fs.length x y hy
      rw [en] at hl2
      refine ⟨in_small (by omega), x + 1, ⟨by omega, .inl (by omega)⟩, ⟨rfl, hl2, ?_⟩, by omega⟩
      exact Mp.rowsF_succ g fs.length x y h0 hlt hy hge
  · have e := Mp.rowsF_end g fs.length x hx hge
    refine ⟨?_, e⟩
    rw [Mp.buildF_length, en]
theorem t_bounds1 (o d : Int) : SoundC Tryz.prog G0 76 [.dat I o, .dat I d] [] ⟨noP2 o d, .dat I (none2 o d), []⟩ :=
  sound_of_ev (c := mkc KQ0) KSQ0 KI0s hm (vc_bounds1 o d ⟨rfl, fun _ => ⟨rfl, trivial⟩⟩)
theorem t_bounds2 (e : Int) (s : List (List Int)) (o d : Int) : SoundC Tryz.prog G0 77 [.dat I o, .dat I d, .ip I e, .ip M s] [] ⟨bnd2P e s o d, .dat I (bnd2 e s o d), []⟩ := by
  refine sound_of_ev (c := mkc KQ0) KSQ0 KI0s hm (vc_bounds2 e s o d ⟨rfl, fun hp => ?_⟩)
  have hat : (s.getD o.toNat []).getD d.toNat 0 = at2 s o d := rfl
  simp only [cnd_or, D.and, D.not, Bool.true_and, true_and, and_true, imp_self, implies_true, Bool.not_eq_true', Bool.or_eq_true, Bool.or_eq_false_iff, D.nil, D.eq, D.ne, D.ilen, D.ile, D.ilt, D.neg, D.nat, D.get, beq_iff_eq, bne_iff_ne, beq_eq_false_iff_ne, bne_eq_false_iff_eq, hat]
  refine ⟨fun h => (hp h).1.1, fun h => (hp h).1.2.1, fun h => (hp h).1.2.2.1, fun h => (hp h).1.2.2.2, fun h => ?_, fun h => ?_⟩
  · unfold bnd2
    rcases h with h | h
    · rw [if_neg h]
    · split
      · exact (if_pos h).symm
      · rfl
  · obtain ⟨⟨q1, q2, q3, q4⟩, q5⟩ := hp h.1
    refine ⟨q1, q2, q3, q4, ?_, ?_⟩
    · rcases q5 with q5 | q5
      · exact (h.2 q5).elim
      · unfold inR; simp only; omega
    · unfold bnd2
      rw [if_pos h.1]; exact (if_neg h.2).symm
theorem relL_cons2 {P : Program} {C : Ctx} {a x x' : AV} {us : List Value} (h : AV.relL P C [a, x] us) (hx : ∀ v, x.rel P C v → x'.rel P C v) : AV.relL P C [a, x'] us := by
  obtain ⟨u, us, rfl, h1, u2, us, rfl, h2, h3⟩ := h
  exact ⟨_, _, rfl, h1, _, _, rfl, hx _ h2, h3⟩
theorem tableK_ok : ∀ args m c, tableK args m = some c → SoundC Tryz.prog G0 51 args m c := by
  intro args m c hc
  unfold tableK at hc
  split at hc
  · rename_i cs ns os fs ls ks
    cases hc
    exact (t_tableM _ _ cs ns os fs ls ks).args fun C us hG hu => relL_cons2 hu fun v hv => clo2_of_fn (by kernel_rfl) rfl (fun x y => t_bounds1 x y) hG hv
  · rename_i cs ns os fs ls ks e s
    cases hc
    exact (t_table _ _ cs ns os fs ls ks).args fun C us hG hu => relL_cons2 hu fun v hv => clo2_of_fn (by kernel_rfl) rfl (fun x y => t_bounds2 e s x y) hG hv
  · cases hc
theorem buildF_congr {g g' : Int → Int → Int} {m : Nat} (h : ∀ i j : Int, 0 ≤ i → i < m → 0 ≤ j → j < m → g i j = g' i j) : buildF g m = buildF g' m := by
  unfold buildF
  simp only [Int.toNat_natCast]
  refine List.map_congr_left fun i hi => List.map_congr_left fun j hj => ?_
  have := List.mem_range.1 hi; have := List.mem_range.1 hj
  exact h _ _ (by omega) (by omega) (by omega) (by omega)
theorem buildF_set {g : Int → Int → Int} {m : Nat} {a b v : Int} (a0 : 0 ≤ a) (a1 : a < m) (b0 : 0 ≤ b) (b1 : b < m) :
    (buildF g m).set a.toNat (((buildF g m).getD a.toNat []).set b.toNat v) = buildF (fun o d => if o = a ∧ d = b then v else g o d) m := by
  rw [Mp.buildF_row g m a a0 a1]
  unfold buildF
  simp only [Int.toNat_natCast]
  refine List.ext_getElem (by simp) fun i h1 h2 => ?_
  rw [List.length_map, List.length_range] at h2
  rw [List.getElem_set]
  by_cases e : a.toNat = i
  · rw [if_pos e]
    rw [List.getElem_map, List.getElem_range]
    refine List.ext_getElem (by simp) fun j h3 h4 => ?_
    rw [List.length_map, List.length_range] at h4
    rw [List.getElem_set, List.getElem_map, List.getElem_range, List.getElem_map, List.getElem_range]
    have ei : (i : Int) = a := by omega
    by_cases e2 : b.toNat = j
    · rw [if_pos e2, if_pos ⟨ei, by omega⟩]
    · rw [if_neg e2, if_neg (fun q => e2 (by omega)), ei]
  · rw [if_neg e]
    rw [List.getElem_map, List.getElem_map, List.getElem_range]
    refine List.map_congr_left fun j hj => ?_
    rw [if_neg (fun q => e (by omega))]
theorem valid_of {m : List (List Int)} (sq : Mp.Sq m.length m) (hl : m.length ≤ 40) (h : ∀ i j : Int, 0 ≤ i → i < m.length → 0 ≤ j → j < m.length → Mp.elemF (at2 m i j) = true) : Mp.validF m = true := by
  unfold Mp.validF
  rw [Bool.and_eq_true, Bool.not_eq_true', Bool.not_eq_true', decide_eq_false_iff_not, List.any_eq_false]
  refine ⟨by omega, fun r hr => ?_⟩
  obtain ⟨i, hi, rfl⟩ := List.getElem_of_mem hr
  have e : m[i] = m.getD (i : Int).toNat [] := by rw [Int.toNat_natCast, List.getD_eq_getElem?_getD, List.getElem?_eq_getElem hi, Option.getD_some]
  have hrow := sq.row i (by omega) (by omega)
  rw [e]
  unfold Mp.rowBad
  rw [Bool.not_eq_true, Bool.or_eq_false_iff, decide_eq_false_iff_not, Mp.wrongF_false]
  refine ⟨by omega, fun k k0 k1 => ?_⟩
  rw [hrow] at k1
  exact h i k (by omega) (by omega) k0 k1
theorem leastN_succ (ls : List Line) (c : List Int) (k : Nat) (o d : Int) : leastN ls c (k + 1) o d = if c.getD k 0 ≠ noneI ∧ (ls.getD k (⟨#[]⟩, 0, 0, 0, 0, 0)).2.1 = o ∧ (ls.getD k (⟨#[]⟩, 0, 0, 0, 0, 0)).2.2.1 = d then max (leastN ls c k o d) (-(c.getD k 0)) else leastN ls c k o d := rfl
theorem leastN_cases {n : Net} {c : List Int} (h : costsOk n c) (ls : List Line) (o d : Int) : ∀ k : Nat, k ≤ c.length → leastN ls c k o d = noneI ∨ (-1000000 ≤ leastN ls c k o d ∧ leastN ls c k o d ≤ -1)
  | 0, _ => .inl rfl
  | k + 1, hk => by
    have ih := leastN_cases h ls o d k (by omega)
    have hc := h.2.2 k (by omega) (by omega)
    rw [Int.toNat_natCast] at hc
    rw [leastN_succ]
    split
    · rename_i g
      rcases hc with hc | hc
      · exact (g.1 hc).elim
      · right
        rcases ih with ih | ih
        · rw [ih]; unfold noneI; omega
        · omega
    · exact ih
theorem leastTo_sq (cs : LC) (ns os : LB) (fs : List Off) (ls : List Line) (ks : List Cla) (c : List Int) (k : Int) : Mp.Sq fs.length (leastTo (cs, ns, os, fs, ls, ks) c k) := Mp.buildF_sq _ _
theorem leastTo_at (cs : LC) (ns os : LB) (fs : List Off) (ls : List Line) (ks : List Cla) (c : List Int) (k : Int) {o d : Int} (o0 : 0 ≤ o) (o1 : o < fs.length) (d0 : 0 ≤ d) (d1 : d < fs.length) : at2 (leastTo (cs, ns, os, fs, ls, ks) c k) o d = leastN ls c k.toNat o d := Mp.buildF_at _ _ o d o0 o1 d0 d1
theorem leastTo_valid (cs : LC) (ns os : LB) (fs : List Off) (ls : List Line) (ks : List Cla) {c : List Int} {k : Int} (h : costsOk (cs, ns, os, fs, ls, ks) c) (k0 : 0 ≤ k) (k1 : k ≤ ls.length) : Mp.validF (leastTo (cs, ns, os, fs, ls, ks) c k) = true := by
  have sq := leastTo_sq cs ns os fs ls ks c k
  have l12 := (noF_offs cs ns os fs ls ks (sound_noF cs ns os fs ls ks h.1)).1
  have hcl : c.length = ls.length := h.2.1
  refine valid_of (by rw [sq.len]; exact sq) (by rw [sq.len]; omega) fun i j i0 i1 j0 j1 => ?_
  rw [sq.len] at i1 j1
  rw [leastTo_at cs ns os fs ls ks c k i0 i1 j0 j1]
  unfold Mp.elemF Mp.infF
  rcases leastN_cases h ls i j k.toNat (by omega) with g | g
  · rw [g]; rfl
  · simp only [Bool.or_eq_true, Bool.and_eq_true, decide_eq_true_eq]; right; omega
theorem star_E {m : List (List Int)} (h : Mp.validF m = true) (he : starE m = 0) : starS m = Mp.starN m m.length := by
  unfold starE starS Mp.starF at *
  rw [h] at he ⊢
  simp only [cond_true] at he ⊢
  cases hb : Mp.starBad m with
  | true => rw [hb] at he; simp only [cond_true] at he; omega
  | false => rfl
theorem least_P (cs : LC) (ns os : LB) (fs : List Off) (ls : List Line) (ks : List Cla) {c : List Int} (h : costsOk (cs, ns, os, fs, ls, ks) c) {o d : Int} (o0 : 0 ≤ o) (o1 : o < fs.length) (d0 : 0 ≤ d) (d1 : d < fs.length) : bnd2P (starE (leastF (cs, ns, os, fs, ls, ks) c)) (starS (leastF (cs, ns, os, fs, ls, ks) c)) o d := by
  intro he
  have hv : Mp.validF (leastF (cs, ns, os, fs, ls, ks) c) = true := leastTo_valid cs ns os fs ls ks h (by omega) (Int.le_refl _)
  have sq : Mp.Sq fs.length (leastF (cs, ns, os, fs, ls, ks) c) := leastTo_sq cs ns os fs ls ks c _
  have l12 := (noF_offs cs ns os fs ls ks (sound_noF cs ns os fs ls ks h.1)).1
  rw [star_E hv he]
  have sN := Mp.starN_sq (leastF (cs, ns, os, fs, ls, ks) c) (leastF (cs, ns, os, fs, ls, ks) c).length
  have b1 := Mp.starN_bd hv (leastF (cs, ns, os, fs, ls, ks) c).length (Nat.le_refl _) o d o0 (by rw [sq.len]; exact o1) d0 (by rw [sq.len]; exact d1)
  have b3 := Mp.bd_top (k := (leastF (cs, ns, os, fs, ls, ks) c).length) (by rw [sq.len]; omega)
  refine ⟨sN.idx2 o0 (by rw [sq.len]; exact o1) d0 (by rw [sq.len]; exact d1), .inr ?_⟩
  omega
theorem least_next (cs : LC) (ns os : LB) (fs : List Off) (ls : List Line) (ks : List Cla) {c : List Int} {k : Int} (h : costsOk (cs, ns, os, fs, ls, ks) c) (k0 : 0 ≤ k) (k1 : k < ls.length) (hc : c.getD k.toNat 0 ≠ noneI) :
    (leastTo (cs, ns, os, fs, ls, ks) c k).set (lineOf (cs, ns, os, fs, ls, ks) k).2.1.toNat (((leastTo (cs, ns, os, fs, ls, ks) c k).getD (lineOf (cs, ns, os, fs, ls, ks) k).2.1.toNat []).set (lineOf (cs, ns, os, fs, ls, ks) k).2.2.1.toNat (max (((leastTo (cs, ns, os, fs, ls, ks) c k).getD (lineOf (cs, ns, os, fs, ls, ks) k).2.1.toNat []).getD (lineOf (cs, ns, os, fs, ls, ks) k).2.2.1.toNat 0) (-(c.getD k.toNat 0)))) = leastTo (cs, ns, os, fs, ls, ks) c (k + 1) := by
  obtain ⟨l0, l1, l2, l3, _⟩ := sound_line cs ns os fs ls ks h.1 k0 k1
  have e1 : (k + 1).toNat = k.toNat + 1 := by omega
  have ha := leastTo_at cs ns os fs ls ks c k l0 l1 l2 l3
  have ha' : ((leastTo (cs, ns, os, fs, ls, ks) c k).getD (lineOf (cs, ns, os, fs, ls, ks) k).2.1.toNat []).getD (lineOf (cs, ns, os, fs, ls, ks) k).2.2.1.toNat 0 = leastN ls c k.toNat (lineOf (cs, ns, os, fs, ls, ks) k).2.1 (lineOf (cs, ns, os, fs, ls, ks) k).2.2.1 := ha
  rw [ha']
  unfold leastTo
  rw [e1]
  show (buildF _ (fs.length : Int)).set _ (((buildF _ (fs.length : Int)).getD _ _).set _ _) = buildF _ (fs.length : Int)
  rw [buildF_set l0 l1 l2 l3]
  refine buildF_congr fun i j i0 i1 j0 j1 => ?_
  show _ = leastN ls c (k.toNat + 1) i j
  rw [leastN_succ]
  by_cases g : i = (lineOf (cs, ns, os, fs, ls, ks) k).2.1 ∧ j = (lineOf (cs, ns, os, fs, ls, ks) k).2.2.1
  · rw [if_pos g, if_pos ⟨hc, g.1.symm, g.2.symm⟩, g.1, g.2]
  · rw [if_neg g, if_neg (fun q => g ⟨q.2.1.symm, q.2.2.symm⟩)]
theorem least_skip (cs : LC) (ns os : LB) (fs : List Off) (ls : List Line) (ks : List Cla) {c : List Int} {k : Int} (k0 : 0 ≤ k) (hc : c.getD k.toNat 0 = noneI) : leastTo (cs, ns, os, fs, ls, ks) c k = leastTo (cs, ns, os, fs, ls, ks) c (k + 1) := by
  have e1 : (k + 1).toNat = k.toNat + 1 := by omega
  unfold leastTo
  rw [e1]
  refine buildF_congr fun i j i0 i1 j0 j1 => ?_
  show _ = leastN ls c (k.toNat + 1) i j
  rw [leastN_succ, if_neg (fun q => q.1 hc)]
theorem KSQ1 : KSound Tryz.prog G0 KQ1 := kOr_ok tableK_ok <| kOr_ok (dataK_ok fun ((cs, ns, os, fs, ls, ks), a, b, _) => t_ruse a b cs ns os fs ls ks) <| kOr_ok (dataK_ok fun ((cs, ns, os, fs, ls, ks), a, b, _) => t_costs a b cs ns os fs ls ks) KSQ0
theorem t_rbounds (c : List Int) (cs : LC) (ns os : LB) (fs : List Off) (ls : List Line) (ks : List Cla) : SoundC Tryz.prog G0 50 [net cs ns os fs ls ks, .dat R c] [] ⟨costsOk (cs, ns, os, fs, ls, ks) c, .dat M (boundsF (cs, ns, os, fs, ls, ks) c), []⟩ := by
  refine sound_of_ev (c := mkc KQ1) KSQ1 KI0s hm (vc_rbounds c cs ns os fs ls ks ⟨rfl, fun hp => ?_⟩)
  have hno := sound_noF cs ns os fs ls ks hp.1
  have l40 := (lines_ok cs ns os fs ls ks hno).2
  have l12 := (noF_offs cs ns os fs ls ks hno).1
  have hcl : c.length = ls.length := hp.2.1
  simp only [eq_self, true_and, and_true, D.nil, D.ne, D.lt, D.ilen, D.ile, D.ilt, D.nlt, D.sub, D.add, D.neg, D.nat, D.ofN, D.len, D.get, D.mx, D.set, decide_eq_true_eq, decide_eq_false_iff_not, bne_iff_ne, bne_eq_false_iff_eq, lineOf_fold cs ns os fs ls ks]
  have en : (fs.length : Int).toNat = fs.length := Int.toNat_natCast _
  have bl : ∀ g : Int → Int → Int, (buildF g fs.length).length = fs.length := fun g => by rw [Mp.buildF_length, en]
  have ll : ∀ x, (leastTo (cs, ns, os, fs, ls, ks) c x).length = fs.length := fun x => bl _
  refine ⟨⟨by omega, by omega, fun _ _ _ _ _ _ => trivial⟩, ⟨0, ⟨hp, by omega, by omega⟩, rfl, rfl⟩, fun x hx => ⟨fun hlt => ?_, fun hge => ?_⟩⟩
  · obtain ⟨_, x0, x1⟩ := hx
    obtain ⟨l0, l1, l2, l3, _⟩ := sound_line cs ns os fs ls ks hp.1 x0 hlt
    have hrow := (leastTo_sq cs ns os fs ls ks c x).row _ l0 l1
    have hc := hp.2.2 x x0 (by omega)
    have hx1 : x + 1 ≤ (((cs, ns, os, fs, ls, ks) : Net).2.2.2.2.1.length : Int) := (by show x + 1 ≤ (ls.length : Int); omega)
    refine ⟨x0, hlt, x0, by omega, fun hn => ?_, fun hn => ?_⟩
    · have hl : (leastTo (cs, ns, os, fs, ls, ks) c x).length = (buildF none2 fs.length).length := by rw [ll, bl]
      have hb : (lineOf (cs, ns, os, fs, ls, ks) x).2.1 < ((leastTo (cs, ns, os, fs, ls, ks) c x).length : Int) := by rw [ll]; exact l1
      have hr : (lineOf (cs, ns, os, fs, ls, ks) x).2.2.1 < (((leastTo (cs, ns, os, fs, ls, ks) c x).getD (lineOf (cs, ns, os, fs, ls, ks) x).2.1.toNat []).length : Int) := by rw [hrow]; exact l3
      refine ⟨hl, l0, hb, hl, hl, l0, hb, hl, hl, l2, hr, hl, x0, by omega, ?_, hl, l2, hr, hl, in_small (by omega), x + 1, ⟨hp, by omega, hx1⟩, ⟨rfl, least_next cs ns os fs ls ks hp x0 hlt hn⟩, by omega⟩
      rcases hc with hc | hc
      · exact (hn hc).elim
      · exact in_small (by omega)
    · exact ⟨in_small (by omega), x + 1, ⟨hp, by omega, hx1⟩, ⟨rfl, least_skip cs ns os fs ls ks x0 hn⟩, by omega⟩
  · obtain ⟨_, x0, x1⟩ := hx
    have x1 : x ≤ ls.length := x1
    have e : x = ls.length := by omega
    have el : leastTo (cs, ns, os, fs, ls, ks) c x = leastF (cs, ns, os, fs, ls, ks) c := by rw [e]; rfl
    rw [el]
    refine ⟨?_, ?_, ?_, ?_, ?_⟩
    all_goals first
      | (rw [← el, ll, bl])
      | (show List.length _ ≤ 20; rw [← el, ll]; omega)
      | exact ⟨by omega, by omega, fun i j i0 i1 j0 j1 => least_P cs ns os fs ls ks hp i0 i1 j0 j1⟩
      | rfl
theorem find_range {m : Nat} {p : Nat → Bool} {i : Nat} (hi : i < m) (hp : p i = true) (h : (List.range i).all (fun j => !p j) = true) : (List.range m).find? p = some i := by
  have e : m = i + (m - i - 1 + 1) := by omega
  rw [e, List.range_add, List.find?_append]
  have : (List.range i).find? p = none := by
    rw [List.find?_eq_none]
    intro x hx
    have := List.all_eq_true.1 h x hx
    simpa using this
  rw [this, List.range_succ_eq_map, List.map_cons, List.find?_cons]
  simp [hp]
theorem find_range_no {m : Nat} {p : Nat → Bool} (h : (List.range m).all (fun j => !p j) = true) : (List.range m).find? p = none := by
  rw [List.find?_eq_none]
  intro x hx
  have := List.all_eq_true.1 h x hx
  simpa using this
theorem bestTo_next {n : Net} {c : List Int} {b : List (List Int)} {o d x : Int} (hx : bestTo n c b o d x) (x1 : x < n.2.2.2.2.1.length) (h : isBest n c b o d x = false) : bestTo n c b o d (x + 1) := by
  obtain ⟨hp, x0, _, ha⟩ := hx
  refine ⟨hp, by omega, by omega, ?_⟩
  rw [show (x + 1).toNat = x.toNat + 1 by omega, List.range_succ, List.all_append, ha, List.all_cons, Int.toNat_of_nonneg x0, h]; rfl
theorem isBest_iff {n : Net} {c : List Int} {b : List (List Int)} {o d i : Int} : isBest n c b o d i = true ↔ (lineOf n i).2.1 = o ∧ c.getD i.toNat 0 ≠ noneI ∧ 0 ≤ at2 b (lineOf n i).2.2.1 d ∧ c.getD i.toNat 0 + at2 b (lineOf n i).2.2.1 d = at2 b o d := by
  unfold isBest
  simp only [Bool.and_eq_true, decide_eq_true_eq, and_assoc]
theorem isBest_no {n : Net} {c : List Int} {b : List (List Int)} {o d i : Int} (h : ¬ ((lineOf n i).2.1 = o ∧ c.getD i.toNat 0 ≠ noneI ∧ 0 ≤ at2 b (lineOf n i).2.2.1 d ∧ c.getD i.toNat 0 + at2 b (lineOf n i).2.2.1 d = at2 b o d)) : isBest n c b o d i = false := by
  rw [← Bool.not_eq_true, isBest_iff]; exact h
theorem t_best (c : List Int) (b : List (List Int)) (o d : Int) (cs : LC) (ns os : LB) (fs : List Off) (ls : List Line) (ks : List Cla) : SoundC Tryz.prog G0 53 [net cs ns os fs ls ks, .dat R c, .dat M b, .dat I o, .dat I d] [] ⟨bestP (cs, ns, os, fs, ls, ks) c b o d, .dat I (bestF (cs, ns, os, fs, ls, ks) c b o d), []⟩ := by
  refine sound_of_ev (c := mkc KQ1) KSQ1 KI0s hm (vc_best c b o d cs ns os fs ls ks ⟨rfl, fun hp => ?_⟩)
  obtain ⟨hc, hb, o0, o1, d0, d1⟩ := hp
  have hno := sound_noF cs ns os fs ls ks hc.1
  have l40 := (lines_ok cs ns os fs ls ks hno).2
  have hcl : c.length = ls.length := hc.2.1
  have hat : ∀ i j : Int, (b.getD i.toNat []).getD j.toNat 0 = at2 b i j := fun _ _ => rfl
  simp only [cnd_or, D.and, D.not, Bool.true_and, eq_self, true_and, and_true, imp_self, implies_true, Bool.not_eq_true', Bool.or_eq_true, Bool.or_eq_false_iff, exists_eq_right', D.nil, D.eq, D.ne, D.lt, D.ilen, D.ile, D.ilt, D.nlt, D.sub, D.add, D.nat, D.get, decide_eq_true_eq, decide_eq_false_iff_not, beq_iff_eq, bne_iff_ne, beq_eq_false_iff_ne, bne_eq_false_iff_eq, lineOf_fold cs ns os fs ls ks, hat]
  refine ⟨⟨⟨hc, hb, o0, o1, d0, d1⟩, by omega, by omega, rfl⟩, fun x hx => ⟨fun hlt => ?_, fun hge => ?_⟩⟩
  · obtain ⟨hp, x0, x1, ha⟩ := id hx
    obtain ⟨l0, l1, l2, l3, _⟩ := sound_line cs ns os fs ls ks hc.1 x0 hlt
    obtain ⟨⟨i1, i2, i3, i4⟩, i5, i6⟩ := hb _ _ l2 l3 d0 d1
    obtain ⟨⟨j1, j2, j3, j4⟩, j5, j6⟩ := hb _ _ o0 o1 d0 d1
    have hcx := hc.2.2 x x0 (by omega)
    have hx1 : x + 1 ≤ (((cs, ns, os, fs, ls, ks) : Net).2.2.2.2.1.length : Int) := (by show x + 1 ≤ (ls.length : Int); omega)
    refine ⟨x0, hlt, fun _ => x0, fun _ => by omega, fun _ => l2, fun _ => i2, fun _ => d0, fun _ => i4, fun h => ⟨in_small (by omega), x + 1, bestTo_next hx hlt (isBest_no fun q => ?_), rfl, by omega⟩, fun h => ⟨x0, by omega, l2, i2, d0, i4, ?_, o0, j2, d0, j4, fun h2 => ?_, fun h2 => ⟨in_small (by omega), x + 1, bestTo_next hx hlt (isBest_no fun q => h2 q.2.2.2), rfl, by omega⟩⟩⟩
    · rcases h with (h | h) | h
      · exact h q.1
      · exact q.2.1 h
      · omega
    · rcases hcx with hcx | hcx
      · exact (h.1.2 hcx).elim
      · unfold inR; simp only; omega
    · have hbst : isBest (cs, ns, os, fs, ls, ks) c b o d x = true := isBest_iff.2 ⟨by first | exact h.1.1 | exact Decidable.not_not.1 h.1.1, h.1.2, by omega, h2⟩
      unfold bestF
      rw [find_range (i := x.toNat) (by show x.toNat < ls.length; omega) (by rw [Int.toNat_of_nonneg x0]; exact hbst) ha]
      show x = ((x.toNat : Nat) : Int)
      omega
  · obtain ⟨hp, x0, x1, ha⟩ := hx
    have x1 : x ≤ ls.length := x1
    have e : x.toNat = ls.length := by omega
    rw [e] at ha
    unfold bestF
    rw [find_range_no (show (List.range ((cs, ns, os, fs, ls, ks) : Net).2.2.2.2.1.length).all _ = true from ha)]
theorem KSQ2 : KSound Tryz.prog G0 KQ2 := kOr_ok (dataK_ok fun ((cs, ns, os, fs, ls, ks), c, _) => t_rbounds c cs ns os fs ls ks) <| kOr_ok (dataK_ok fun ((cs, ns, os, fs, ls, ks), c, b, o, d, _) => t_best c b o d cs ns os fs ls ks) KSQ1
theorem t_next1 (b : List (List Int)) (c : List Int) (o d : Int) (cs : LC) (ns os : LB) (fs : List Off) (ls : List Line) (ks : List Cla) : SoundC Tryz.prog G0 52 [.dat I o, .dat I d, .ip M b, .ip N (cs, ns, os, fs, ls, ks), .ip R c] [] ⟨bestP (cs, ns, os, fs, ls, ks) c b o d, .dat I (next2 (cs, ns, os, fs, ls, ks) c b o d), []⟩ := by
  refine sound_of_ev (c := mkc KQ2) KSQ2 KI0s hm (vc_next1 b c o d cs ns os fs ls ks ⟨rfl, fun hp => ?_⟩)
  obtain ⟨⟨j1, j2, j3, j4⟩, j5, j6⟩ := hp.2.1 o d hp.2.2.1 hp.2.2.2.1 hp.2.2.2.2.1 hp.2.2.2.2.2
  have hat : ∀ i j : Int, (b.getD i.toNat []).getD j.toNat 0 = at2 b i j := fun _ _ => rfl
  simp only [cnd_or, D.and, D.not, Bool.true_and, true_and, and_true, imp_self, implies_true, Bool.not_eq_true', Bool.or_eq_true, Bool.or_eq_false_iff, D.nil, D.eq, D.lt, D.ilen, D.ile, D.ilt, D.nat, D.get, decide_eq_true_eq, decide_eq_false_iff_not, beq_iff_eq, beq_eq_false_iff_ne, hat]
  refine ⟨fun _ => j1, fun _ => j2, fun _ => j3, fun _ => j4, fun h => ?_, fun h => ⟨hp, ?_⟩⟩
  · unfold next2; exact (if_pos h).symm
  · unfold next2; exact (if_neg (by omega)).symm
theorem KSQ3 : KSound Tryz.prog G0 KQ3 := kOr_ok (fun args m c hc => by
  split at hc
  · rename_i cs ns os fs ls ks b n c
    cases hc
    exact (t_table _ _ cs ns os fs ls ks).args fun C us hG hu => relL_cons2 hu fun v hv => clo2_of_fn (by kernel_rfl) rfl (fun x y => by obtain ⟨a1, a2, a3, a4, a5, a6⟩ := n; exact t_next1 b c x y a1 a2 a3 a4 a5 a6) hG hv
  · cases hc) KSQ2
theorem bnd_ok (cs : LC) (ns os : LB) (fs : List Off) (ls : List Line) (ks : List Cla) {c : List Int} (h : costsOk (cs, ns, os, fs, ls, ks) c) : boundOk (cs, ns, os, fs, ls, ks) (boundsF (cs, ns, os, fs, ls, ks) c) := by
  intro o d o0 o1 d0 d1
  have sq : Mp.Sq fs.length (boundsF (cs, ns, os, fs, ls, ks) c) := Mp.buildF_sq _ _
  refine ⟨sq.idx2 o0 o1 d0 d1, ?_⟩
  have ha : at2 (boundsF (cs, ns, os, fs, ls, ks) c) o d = bnd2 (starE (leastF (cs, ns, os, fs, ls, ks) c)) (starS (leastF (cs, ns, os, fs, ls, ks) c)) o d := Mp.buildF_at _ _ o d o0 o1 d0 d1
  have hp := least_P cs ns os fs ls ks h o0 o1 d0 d1
  rw [ha]
  unfold bnd2P at hp
  unfold bnd2
  split
  · rename_i he
    obtain ⟨_, hp⟩ := hp he
    split
    · omega
    · rcases hp with hp | hp
      · contradiction
      · omega
  · omega
theorem t_rnext (a b : Int) (cs : LC) (ns os : LB) (fs : List Off) (ls : List Line) (ks : List Cla) : SoundC Tryz.prog G0 25 [net cs ns os fs ls ks, .dat I a, .dat I b] [] ⟨True, .dat M (rnextF (cs, ns, os, fs, ls, ks) a b), []⟩ := by
  refine sound_of_ev (c := mkc KQ3) KSQ3 KI0s hm (vc_rnext a b cs ns os fs ls ks ⟨rfl, fun _ => ?_⟩)
  simp only [D.not, eq_self, true_and, and_true, Bool.not_eq_true', Bool.not_eq_false', D.nil, D.ilen]
  refine ⟨fun h => ?_, fun h => ?_⟩
  · unfold rnextF; rw [h]; rfl
  · have hc := costs_ok cs ns os fs ls ks h
    have l12 := (noF_offs cs ns os fs ls ks (sound_noF cs ns os fs ls ks hc.1)).1
    refine ⟨h, hc, ⟨by omega, by omega, fun i j i0 i1 j0 j1 => ⟨hc, bnd_ok cs ns os fs ls ks hc, i0, i1, j0, j1⟩⟩, ?_⟩
    unfold rnextF; rw [h]; rfl
theorem t_rbnds (a b : Int) (cs : LC) (ns os : LB) (fs : List Off) (ls : List Line) (ks : List Cla) : SoundC Tryz.prog G0 27 [net cs ns os fs ls ks, .dat I a, .dat I b] [] ⟨True, .dat M (rboundsF (cs, ns, os, fs, ls, ks) a b), []⟩ := by
  refine sound_of_ev (c := mkc KQ3) KSQ3 KI0s hm (vc_rbnds a b cs ns os fs ls ks ⟨rfl, fun _ => ?_⟩)
  simp only [D.not, true_and, and_true, Bool.not_eq_true', Bool.not_eq_false', D.nil]
  refine ⟨fun h => ?_, fun h => ⟨h, costs_ok cs ns os fs ls ks h, ?_⟩⟩
  · unfold rboundsF; rw [h]; rfl
  · unfold rboundsF; rw [h]; rfl
theorem t_rcosts (a b : Int) (cs : LC) (ns os : LB) (fs : List Off) (ls : List Line) (ks : List Cla) : SoundC Tryz.prog G0 22 [net cs ns os fs ls ks, .dat I a, .dat I b] [] ⟨True, .dat R (rcostsF (cs, ns, os, fs, ls, ks) a b), []⟩ := by
  refine sound_of_ev (c := mkc KQ3) KSQ3 KI0s hm (vc_rcosts a b cs ns os fs ls ks ⟨rfl, fun _ => ?_⟩)
  simp only [D.not, true_and, and_true, Bool.not_eq_true', Bool.not_eq_false', D.nil]
  refine ⟨fun h => ?_, fun h => ⟨h, ?_⟩⟩
  · unfold rcostsF; rw [h]; rfl
  · unfold rcostsF; rw [h]; rfl
theorem KSQ4 : KSound Tryz.prog G0 KQ4 := kOr_ok (dataK_ok fun ((cs, ns, os, fs, ls, ks), a, b, _) => t_rcosts a b cs ns os fs ls ks) <| kOr_ok (dataK_ok fun ((cs, ns, os, fs, ls, ks), a, b, _) => t_rbnds a b cs ns os fs ls ks) <| kOr_ok (dataK_ok fun ((cs, ns, os, fs, ls, ks), a, b, _) => t_rnext a b cs ns os fs ls ks) KSQ3
end Go.Eng.Sv
