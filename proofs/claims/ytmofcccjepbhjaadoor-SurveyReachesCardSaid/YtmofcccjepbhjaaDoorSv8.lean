/- PeSv8 -/
import Derived.Test.YtmofcccjepbhjaaDoorW22
import Derived.Test.YtmofcccjepbhjaaDoorSvK
import Derived.Test.YtmofcccjepbhjaaDoorSv6
set_option linter.unusedSimpArgs false
set_option linter.unusedVariables false
namespace Go.Eng.Sv
open Go.Proofs
noncomputable def ringN (i : Int) : ByteArray := D.sApp (⟨#[114, 105, 110, 103, 95]⟩) (D.ofBytes [97 + i])
noncomputable def ringTo (ls : List Line) (m a : Int) : List Line := ls ++ (List.range a.toNat).map fun i : Nat => (ringN i, (i : Int), D.rem ((i : Int) + 1) m, 0, 100, 1)
noncomputable def negTo (d : List (List Int)) (m a b : Int) : Bool := ((List.range a.toNat).any fun i => (List.range m.toNat).any fun j => decide (at2 d i j < 0)) || (List.range b.toNat).any fun j => decide (at2 d a j < 0)
noncomputable def lreachA (cs : List (Int × List Bool × List Int)) (ns os : List ByteArray) (fs : List Off) (ls : List Line) (ks : List Cla) : Ann := ⟨fun id s => match id with
  | 11 => some { α := Int, inv := fun a => upN a (D.ilen fs), st := fun a => put s [(8, .dat I a), (7, .dat .bool (negTo (dist2 (cs, ns, os, fs, ls, ks)) (D.ilen fs) a 0))], μ := fun a => D.nat (D.sub (D.ilen fs) a) }
  | 14 => match s.sig.T 8 with
    | .dat (.int .i64) a => some { α := Int, inv := fun b => upN b (D.ilen fs), st := fun b => put s [(9, .dat I b), (7, .dat .bool (negTo (dist2 (cs, ns, os, fs, ls, ks)) (D.ilen fs) a b))], μ := fun b => D.nat (D.sub (D.ilen fs) b) }
    | _ => none
  | 18 => some { α := Int, inv := fun i => upN i (D.ilen (checkF (cs, ns, os, fs, ls, ks))), st := fun i => put s [(10, .dat I i)], μ := fun i => D.nat (D.sub (D.ilen (checkF (cs, ns, os, fs, ls, ks))) i) }
  | 25 => some { α := Int, inv := fun a => upN a (D.ilen fs), st := fun a => putM (putM (put s [(12, .dat I a)]) 1 (.buf 45 Ln (ringTo ls (D.ilen fs) a) [])) 0 (.var [.dat (.sl C) cs, .dat (.sl S) ns, .dat (.sl S) os, .dat (.sl Of) fs, .buf 1 (D.len (ringTo ls (D.ilen fs) a)), .dat (.sl Kl) ks]), μ := fun a => D.nat (D.sub (D.ilen fs) a) }
  | _ => none, fun id s => match id with
  | 28 => some (put (frz [1] s) [(94, .top), (97, .top)])
  | _ => none, fun _ _ => none⟩
set_option maxRecDepth 100000 in
theorem vc_lreach (cs : List (Int × List Bool × List Int)) (ns os : List ByteArray) (fs : List Off) (ls : List Line) (ks : List Cla) (hvc :
    let c1 := (ls, ks);
    let c2 := (fs, c1);
    let c3 := (cs, ns, os, c2);
    let c4 := consF c3;
    let c5 := D.not c4;
    let c6 := D.not c5;
    let c7 := D.cnd c5 true (D.gt (D.ilen ls) (28 : Int));
    let c8 := D.ilen fs;
    let c9 := dist2 c3;
    let c10 := sqF c9 c8;
    let c11 := D.not c10;
    let c12 := checkF c3;
    let c13 := D.ilen c12;
    let c14 := ((0 : Int), (0 : Int), (0 : Int));
    let c15 := D.nadd (0) (D.len ls);
    let c16 := D.app (D.nil (ByteArray × Int × Int × Int × Int × Int)) ls;
    let c17 := D.gt c8 (1 : Int);
    let c18 := ((0 : Int), (100 : Int), (1 : Int));
    let c19 := D.gt c13 (0 : Int); true = true ∧ (True → True ∧ True ∧ (c6 = true → c6 = true → c6 = true) ∧ (c6 = true → c6 = true → c6 = true) ∧ (c6 = true → c6 =
     true → c6 = true) ∧ (D.and true c6 = true → c6 = true) ∧ (c7 = true → true = true ∧ True) ∧ (c7 = false → True ∧ True ∧ okInt c8 ∧ (c11 = true → false = true ∧
     True) ∧ (c11 = false → (∃ x, upN x c8 ∧ cs = cs ∧ ns = ns ∧ os = os ∧ fs = fs ∧ ls = ls ∧ ks = ks ∧ c3 = c3 ∧ false = false ∧ true = true ∧ c12 = c12 ∧ c9 = c9
     ∧ c8 = c8 ∧ false = negTo c9 c8 x (0 : Int) ∧ (0 : Int) = x ∧ true = true ∧ cs = cs ∧ ns = ns ∧ os = os ∧ fs = fs ∧ ls = ls ∧ ks = ks ∧ c4 = c4 ∧ c5 = c5 ∧ c5
     = c5 ∧ c7 = c7 ∧ cs = cs ∧ ns = ns ∧ os = os ∧ fs = fs ∧ ls = ls ∧ ks = ks ∧ c12 = c12 ∧ cs = cs ∧ ns = ns ∧ os = os ∧ fs = fs ∧ ls = ls ∧ ks = ks ∧ c9 = c9 ∧
     c2 = c2 ∧ fs = fs ∧ c8 = c8 ∧ c9 = c9 ∧ c8 = c8 ∧ c10 = c10 ∧ c11 = c11 ∧ True) ∧ ∀ (x : Int),
    let c20 := negTo c9 c8 x (0 : Int);
    let c21 := D.get c9 (D.nat x) (D.nil Int);
    let c22 := D.add x (1 : Int);
    let c23 := D.cnd true (D.beq c20 c19) false; upN x c8 → (D.lt x c8 = true → (∃ x_3, upN x_3 c8 ∧ cs = cs ∧ ns = ns ∧ os = os ∧ fs = fs ∧ ls = ls ∧ ks = ks ∧ c3
     = c3 ∧ false = false ∧ true = true ∧ c12 = c12 ∧ c9 = c9 ∧ c8 = c8 ∧ c20 = negTo c9 c8 x x_3 ∧ x = x ∧ (0 : Int) = x_3 ∧ true = true ∧ cs = cs ∧ ns = ns ∧ os =
     os ∧ fs = fs ∧ ls = ls ∧ ks = ks ∧ c4 = c4 ∧ c5 = c5 ∧ c5 = c5 ∧ c7 = c7 ∧ cs = cs ∧ ns = ns ∧ os = os ∧ fs = fs ∧ ls = ls ∧ ks = ks ∧ c12 = c12 ∧ cs = cs ∧ ns
     = ns ∧ os = os ∧ fs = fs ∧ ls = ls ∧ ks = ks ∧ c9 = c9 ∧ c2 = c2 ∧ fs = fs ∧ c8 = c8 ∧ c9 = c9 ∧ c8 = c8 ∧ c10 = c10 ∧ c11 = c11 ∧ x = x ∧ c8 = c8 ∧ D.lt x c8
     = D.lt x c8 ∧ True) ∧ ∀ (x_3 : Int),
    let c24 := negTo c9 c8 x x_3;
    let c25 := D.not c24;
    let c26 := D.add x_3 (1 : Int); upN x_3 c8 → (D.lt x_3 c8 = true → (c25 = true → c25 = true → c25 = true) ∧ (c25 = true → c25 = true → c25 = true) ∧ (c25 = true
     → D.ile (0 : Int) x) ∧ (c25 = true → D.ilt x (D.ilen c9)) ∧ (c25 = true → c25 = true → c25 = true) ∧ (c25 = true → c25 = true → c25 = true) ∧ (c25 = true → c25
     = true → c25 = true) ∧ (c25 = true → D.ile (0 : Int) x_3) ∧ (c25 = true → D.ilt x_3 (D.ilen c21)) ∧ (c25 = true → c25 = true → c25 = true) ∧ (c25 = true → c25
     = true → c25 = true) ∧ (D.and true c25 = true → c25 = true) ∧ inR IntKind.i64 c26 ∧ ∃ y, upN y c8 ∧ (cs = cs ∧ ns = ns ∧ os = os ∧ fs = fs ∧ ls = ls ∧ ks = ks
     ∧ c3 = c3 ∧ false = false ∧ true = true ∧ c12 = c12 ∧ c9 = c9 ∧ c8 = c8 ∧ D.cnd c24 true (D.lt (D.get c21 (D.nat x_3) (0 : Int)) (0 : Int)) = negTo c9 c8 x y ∧
     x = x ∧ c26 = y ∧ true = true ∧ cs = cs ∧ ns = ns ∧ os = os ∧ fs = fs ∧ ls = ls ∧ ks = ks ∧ c4 = c4 ∧ c5 = c5 ∧ c5 = c5 ∧ c7 = c7 ∧ cs = cs ∧ ns = ns ∧ os = os
     ∧ fs = fs ∧ ls = ls ∧ ks = ks ∧ c12 = c12 ∧ cs = cs ∧ ns = ns ∧ os = os ∧ fs = fs ∧ ls = ls ∧ ks = ks ∧ c9 = c9 ∧ c2 = c2 ∧ fs = fs ∧ c8 = c8 ∧ c9 = c9 ∧ c8 =
     c8 ∧ c10 = c10 ∧ c11 = c11 ∧ x = x ∧ c8 = c8 ∧ D.lt x c8 = D.lt x c8 ∧ True) ∧ D.nlt (D.nat (D.sub c8 y)) (D.nat (D.sub c8 x_3))) ∧ (D.lt x_3 c8 = false → inR
     IntKind.i64 c22 ∧ ∃ y, upN y c8 ∧ (cs = cs ∧ ns = ns ∧ os = os ∧ fs = fs ∧ ls = ls ∧ ks = ks ∧ c3 = c3 ∧ false = false ∧ true = true ∧ c12 = c12 ∧ c9 = c9 ∧ c8
     = c8 ∧ c24 = negTo c9 c8 y (0 : Int) ∧ c22 = y ∧ true = true ∧ cs = cs ∧ ns = ns ∧ os = os ∧ fs = fs ∧ ls = ls ∧ ks = ks ∧ c4 = c4 ∧ c5 = c5 ∧ c5 = c5 ∧ c7 =
     c7 ∧ cs = cs ∧ ns = ns ∧ os = os ∧ fs = fs ∧ ls = ls ∧ ks = ks ∧ c12 = c12 ∧ cs = cs ∧ ns = ns ∧ os = os ∧ fs = fs ∧ ls = ls ∧ ks = ks ∧ c9 = c9 ∧ c2 = c2 ∧ fs
     = fs ∧ c8 = c8 ∧ c9 = c9 ∧ c8 = c8 ∧ c10 = c10 ∧ c11 = c11 ∧ True) ∧ D.nlt (D.nat (D.sub c8 y)) (D.nat (D.sub c8 x)))) ∧ (D.lt x c8 = false → (∃ x_3, upN x_3
     c13 ∧ cs = cs ∧ ns = ns ∧ os = os ∧ fs = fs ∧ ls = ls ∧ ks = ks ∧ c3 = c3 ∧ true = true ∧ c12 = c12 ∧ c9 = c9 ∧ c8 = c8 ∧ c20 = c20 ∧ x = x ∧ (0 : Int) = x_3 ∧
     true = true ∧ cs = cs ∧ ns = ns ∧ os = os ∧ fs = fs ∧ ls = ls ∧ ks = ks ∧ c4 = c4 ∧ c5 = c5 ∧ c5 = c5 ∧ c7 = c7 ∧ cs = cs ∧ ns = ns ∧ os = os ∧ fs = fs ∧ ls =
     ls ∧ ks = ks ∧ c12 = c12 ∧ cs = cs ∧ ns = ns ∧ os = os ∧ fs = fs ∧ ls = ls ∧ ks = ks ∧ c9 = c9 ∧ c2 = c2 ∧ fs = fs ∧ c8 = c8 ∧ c9 = c9 ∧ c8 = c8 ∧ c10 = c10 ∧
     c11 = c11 ∧ x = x ∧ c8 = c8 ∧ D.lt x c8 = D.lt x c8 ∧ True) ∧ ∀ (x_3 : Int),
    let c27 := D.get c12 (D.nat x_3) c14;
    let c28 := D.ne c27.fst (3 : Int);
    let c29 := D.not c28;
    let c30 := c27.snd;
    let c31 := D.cnd c28 true (D.ne c30.snd (111 : Int));
    let c32 := D.not c31;
    let c33 := c30.fst;
    let c34 := D.cnd c31 true (D.lt c33 (0 : Int));
    let c35 := D.not c34;
    let c36 := D.cnd c34 true (D.ge c33 c8);
    let c37 := D.add x_3 (1 : Int); upN x_3 c13 → (D.lt x_3 c13 = true → D.ile (0 : Int) x_3 ∧ D.ilt x_3 c13 ∧ (c29 = true → c29 = true → c29 = true) ∧ (c29 = true
     → c29 = true → c29 = true) ∧ (c29 = true → D.ile (0 : Int) x_3) ∧ (c29 = true → D.ilt x_3 c13) ∧ (c29 = true → c29 = true → c29 = true) ∧ (c29 = true → c29 =
     true → c29 = true) ∧ (c29 = true → c29 = true → c29 = true) ∧ (D.and true c29 = true → c29 = true) ∧ (c32 = true → c32 = true → c32 = true) ∧ (c32 = true → c32
     = true → c32 = true) ∧ (c32 = true → D.ile (0 : Int) x_3) ∧ (c32 = true → D.ilt x_3 c13) ∧ (c32 = true → c32 = true → c32 = true) ∧ (c32 = true → c32 = true →
     c32 = true) ∧ (c32 = true → c32 = true → c32 = true) ∧ (D.and true c32 = true → c32 = true) ∧ (c35 = true → c35 = true → c35 = true) ∧ (c35 = true → c35 = true
     → c35 = true) ∧ (c35 = true → D.ile (0 : Int) x_3) ∧ (c35 = true → D.ilt x_3 c13) ∧ (c35 = true → c35 = true → c35 = true) ∧ (c35 = true → c35 = true → c35 =
     true) ∧ (c35 = true → c35 = true → c35 = true) ∧ (c35 = true → c35 = true → c35 = true) ∧ (D.and true c35 = true → c35 = true) ∧ (c36 = true → false = true ∧
     True) ∧ (c36 = false → inR IntKind.i64 c37 ∧ ∃ y, upN y c13 ∧ (cs = cs ∧ ns = ns ∧ os = os ∧ fs = fs ∧ ls = ls ∧ ks = ks ∧ c3 = c3 ∧ true = true ∧ c12 = c12 ∧
     c9 = c9 ∧ c8 = c8 ∧ c20 = c20 ∧ x = x ∧ c37 = y ∧ true = true ∧ cs = cs ∧ ns = ns ∧ os = os ∧ fs = fs ∧ ls = ls ∧ ks = ks ∧ c4 = c4 ∧ c5 = c5 ∧ c5 = c5 ∧ c7 =
     c7 ∧ cs = cs ∧ ns = ns ∧ os = os ∧ fs = fs ∧ ls = ls ∧ ks = ks ∧ c12 = c12 ∧ cs = cs ∧ ns = ns ∧ os = os ∧ fs = fs ∧ ls = ls ∧ ks = ks ∧ c9 = c9 ∧ c2 = c2 ∧ fs
     = fs ∧ c8 = c8 ∧ c9 = c9 ∧ c8 = c8 ∧ c10 = c10 ∧ c11 = c11 ∧ x = x ∧ c8 = c8 ∧ D.lt x c8 = D.lt x c8 ∧ True) ∧ D.nlt (D.nat (D.sub c13 y)) (D.nat (D.sub c13
     x_3)))) ∧ (D.lt x_3 c13 = false → 1 = 1 ∧ 0 = 0 ∧ D.len (D.nil (ByteArray × Int × Int × Int × Int × Int)) = 0 ∧ D.nle (D.nmul c15 (56)) (140737488355328) ∧
     D.nle c15 (9223372036854775807) ∧ 1 = 1 ∧ 1 = 1 ∧ 0 = 0 ∧ D.len c16 = c15 ∧ (∃ x_6, upN x_6 c8 ∧ cs = cs ∧ ns = ns ∧ os = os ∧ fs = fs ∧ ls = ls ∧ ks = ks ∧ c3
     = c3 ∧ true = true ∧ c12 = c12 ∧ c9 = c9 ∧ c8 = c8 ∧ c20 = c20 ∧ x = x ∧ x_3 = x_3 ∧ 1 = 1 ∧ 0 = 0 ∧ 0 = 0 ∧ (0 : Int) = x_6 ∧ true = true ∧ cs = cs ∧ ns = ns
     ∧ os = os ∧ fs = fs ∧ ls = ls ∧ ks = ks ∧ c4 = c4 ∧ c5 = c5 ∧ c5 = c5 ∧ c7 = c7 ∧ cs = cs ∧ ns = ns ∧ os = os ∧ fs = fs ∧ ls = ls ∧ ks = ks ∧ c12 = c12 ∧ cs =
     cs ∧ ns = ns ∧ os = os ∧ fs = fs ∧ ls = ls ∧ ks = ks ∧ c9 = c9 ∧ c2 = c2 ∧ fs = fs ∧ c8 = c8 ∧ c9 = c9 ∧ c8 = c8 ∧ c10 = c10 ∧ c11 = c11 ∧ x = x ∧ c8 = c8 ∧
     D.lt x c8 = D.lt x c8 ∧ x_3 = x_3 ∧ c12 = c12 ∧ c13 = c13 ∧ D.lt x_3 c13 = D.lt x_3 c13 ∧ cs = cs ∧ ns = ns ∧ os = os ∧ fs = fs ∧ ls = ls ∧ ks = ks ∧ 0 = 0 ∧
     c1 = c1 ∧ ls = ls ∧ c15 = c15 ∧ 1 = 1 ∧ 0 = 0 ∧ 4 = 4 ∧ cs = cs ∧ ns = ns ∧ os = os ∧ fs = fs ∧ c15 = D.len (ringTo ls c8 x_6) ∧ ks = ks ∧ c16 = ringTo ls c8
     x_6 ∧ True) ∧ ∀ (x_6 : Int),
    let c38 := D.cnd (D.lt x_6 c8) c17 false;
    let c39 := D.add (97 : Int) x_6;
    let c40 := D.ofBytes [c39];
    let c41 := D.add x_6 (1 : Int);
    let c42 := D.len (ringTo ls c8 x_6);
    let c43 := [(D.sApp (ByteArray.mk #[(114 : UInt8), (105 : UInt8), (110 : UInt8), (103 : UInt8), (95 : UInt8)]) c40, x_6, D.rem c41 c8, c18)];
    let c44 := D.nadd c42 (D.len c43);
    let c45 := D.app (ringTo ls c8 x_6) c43;
    let c46 := (cs, ns, os, fs, ringTo ls c8 x_6, ks);
    let c47 := D.not (noF c46); upN x_6 c8 → (D.lt x_6 c8 = true → D.lt x_6 c8 = true → D.lt x_6 c8 = true) ∧ (D.and true (D.lt x_6 c8) = true → D.lt x_6 c8 = true)
     ∧ (c38 = true → 1 = 1 ∧ 1 = 1 ∧ 0 = 0 ∧ inR IntKind.i64 c39 ∧ inR IntKind.u8 c39 ∧ D.strFits (ByteArray.mk #[(114 : UInt8), (105 : UInt8), (110 : UInt8), (103
     : UInt8), (95 : UInt8)]) c40 ∧ inR IntKind.i64 c41 ∧ D.ine c8 (0 : Int) ∧ c42 = c42 ∧ D.nle (D.nmul c44 (56)) (140737488355328) ∧ D.nle c44
     (9223372036854775807) ∧ 1 = 1 ∧ 1 = 1 ∧ 0 = 0 ∧ D.len c45 = c44 ∧ inR IntKind.i64 c41 ∧ ∃ y, upN y c8 ∧ (cs = cs ∧ ns = ns ∧ os = os ∧ fs = fs ∧ ls = ls ∧ ks =
     ks ∧ c3 = c3 ∧ true = true ∧ c12 = c12 ∧ c9 = c9 ∧ c8 = c8 ∧ c20 = c20 ∧ x = x ∧ x_3 = x_3 ∧ 1 = 1 ∧ 0 = 0 ∧ 0 = 0 ∧ c41 = y ∧ true = true ∧ cs = cs ∧ ns = ns
     ∧ os = os ∧ fs = fs ∧ ls = ls ∧ ks = ks ∧ c4 = c4 ∧ c5 = c5 ∧ c5 = c5 ∧ c7 = c7 ∧ cs = cs ∧ ns = ns ∧ os = os ∧ fs = fs ∧ ls = ls ∧ ks = ks ∧ c12 = c12 ∧ cs =
     cs ∧ ns = ns ∧ os = os ∧ fs = fs ∧ ls = ls ∧ ks = ks ∧ c9 = c9 ∧ c2 = c2 ∧ fs = fs ∧ c8 = c8 ∧ c9 = c9 ∧ c8 = c8 ∧ c10 = c10 ∧ c11 = c11 ∧ x = x ∧ c8 = c8 ∧
     D.lt x c8 = D.lt x c8 ∧ x_3 = x_3 ∧ c12 = c12 ∧ c13 = c13 ∧ D.lt x_3 c13 = D.lt x_3 c13 ∧ cs = cs ∧ ns = ns ∧ os = os ∧ fs = fs ∧ ls = ls ∧ ks = ks ∧ 0 = 0 ∧
     c1 = c1 ∧ ls = ls ∧ c15 = c15 ∧ 1 = 1 ∧ 0 = 0 ∧ 4 = 4 ∧ cs = cs ∧ ns = ns ∧ os = os ∧ fs = fs ∧ c44 = D.len (ringTo ls c8 y) ∧ ks = ks ∧ c45 = ringTo ls c8 y ∧
     True) ∧ D.nlt (D.nat (D.sub c8 y)) (D.nat (D.sub c8 x_6))) ∧ (c38 = false → cs = cs ∧ ns = ns ∧ os = os ∧ fs = fs ∧ ls = ls ∧ ks = ks ∧ c3 = c3 ∧ true = true ∧
     c12 = c12 ∧ c9 = c9 ∧ c8 = c8 ∧ c20 = c20 ∧ x = x ∧ x_3 = x_3 ∧ 1 = 1 ∧ 0 = 0 ∧ 0 = 0 ∧ x_6 = x_6 ∧ true = true ∧ cs = cs ∧ ns = ns ∧ os = os ∧ fs = fs ∧ ls =
     ls ∧ ks = ks ∧ c4 = c4 ∧ c5 = c5 ∧ c5 = c5 ∧ c7 = c7 ∧ cs = cs ∧ ns = ns ∧ os = os ∧ fs = fs ∧ ls = ls ∧ ks = ks ∧ c12 = c12 ∧ cs = cs ∧ ns = ns ∧ os = os ∧ fs
     = fs ∧ ls = ls ∧ ks = ks ∧ c9 = c9 ∧ c2 = c2 ∧ fs = fs ∧ c8 = c8 ∧ c9 = c9 ∧ c8 = c8 ∧ c10 = c10 ∧ c11 = c11 ∧ x = x ∧ c8 = c8 ∧ D.lt x c8 = D.lt x c8 ∧ x_3 =
     x_3 ∧ c12 = c12 ∧ c13 = c13 ∧ D.lt x_3 c13 = D.lt x_3 c13 ∧ cs = cs ∧ ns = ns ∧ os = os ∧ fs = fs ∧ ls = ls ∧ ks = ks ∧ c1 = c1 ∧ ls = ls ∧ 1 = 1 ∧ 0 = 0 ∧ 4 =
     4 ∧ x_6 = x_6 ∧ c8 = c8 ∧ D.lt x_6 c8 = D.lt x_6 c8 ∧ D.lt x_6 c8 = D.lt x_6 c8 ∧ c38 = c38 ∧ cs = cs ∧ ns = ns ∧ os = os ∧ fs = fs ∧ c42 = c42 ∧ ringTo ls c8
     x_6 = ringTo ls c8 x_6 ∧ ks = ks ∧ (true = true → true = true → true = true) ∧ (true = true → true = true → true = true) ∧ (true = true → true = true → true =
     true) ∧ (true = true → true = true → true = true) ∧ (D.and true true = true → true = true) ∧ (c23 = true → 1 = 1) ∧ (c23 = true → 0 = 0) ∧ (c23 = true → c23 =
     true → c23 = true) ∧ (c23 = true → fewC c46 = true) ∧ (c23 = true → c23 = true → c23 = true) ∧ (c23 = true → c23 = true → c23 = true) ∧ (D.and c23 (D.not c47)
     = true → 1 = 1) ∧ (D.and c23 (D.not c47) = true → 0 = 0) ∧ (D.and c23 (D.not c47) = true → D.and c23 (D.not c47) = true → D.and c23 (D.not c47) = true) ∧
     (D.and c23 (D.not c47) = true → True) ∧ (D.and c23 (D.not c47) = true → D.and c23 (D.not c47) = true → D.and c23 (D.not c47) = true) ∧ (D.and c23 (D.not c47) =
     true → D.and c23 (D.not c47) = true → D.and c23 (D.not c47) = true) ∧ (c23 = true → c23 = true → c23 = true) ∧ (c23 = true → D.and c23 (D.not c47) = true →
     D.and c23 (D.not c47) = true) ∧ (D.and true c23 = true → c23 = true) ∧ D.cnd c23 (D.cnd c47 true (D.eq (D.ilen (checkF c46)) (0 : Int))) false = true ∧
     True))))))) :
    evF (mkc K18) (lreachA cs ns os fs ls ks) 7 [net cs ns os fs ls ks] [] ⟨True, .dat .bool true, []⟩ := of_eq (by kernel_rfl) hvc

theorem negTo_zero (d : List (List Int)) (m : Int) : negTo d m 0 0 = false := rfl
theorem negTo_row {d : List (List Int)} {m a : Int} (a0 : 0 ≤ a) : negTo d m a m = negTo d m (a + 1) 0 := by
  unfold negTo
  rw [show (a + 1).toNat = a.toNat + 1 by omega, List.range_succ, List.any_append, List.any_cons, List.any_nil, Bool.or_false, show List.range (Int.toNat 0) = [] from rfl, List.any_nil, Bool.or_false, Int.toNat_of_nonneg a0]
theorem negTo_next {d : List (List Int)} {m a b : Int} (b0 : 0 ≤ b) : (negTo d m a b || decide (at2 d a b < 0)) = negTo d m a (b + 1) := by
  unfold negTo
  rw [show (b + 1).toNat = b.toNat + 1 by omega, List.range_succ, List.any_append, List.any_cons, List.any_nil, Bool.or_false, Int.toNat_of_nonneg b0, Bool.or_assoc]
theorem reach_nil {m : Nat} {ls : List Line} : reachTo m ls m = [] ↔ ∀ a b : Nat, a < m → b < m → cell (relaxedF ls) a b ≠ -1 := by
  unfold reachTo
  rw [List.filterMap_eq_nil_iff, Int.toNat_natCast]
  constructor
  · intro h a b ha hb e
    have := h b (List.mem_range.2 hb)
    have hr : reach1 m ls b = true := List.any_eq_true.2 ⟨a, List.mem_range.2 ha, decide_eq_true e⟩
    rw [if_pos hr] at this
    cases this
  · intro h b hb
    rw [if_neg]
    intro hr
    obtain ⟨a, ha, e⟩ := List.any_eq_true.1 hr
    exact h a b (List.mem_range.1 ha) (List.mem_range.1 hb) (of_decide_eq_true e)
theorem reach_mem {m : Nat} {ls : List Line} {x : Int × Int × Int} (h : x ∈ reachTo m ls m) : x.1 = 3 ∧ x.2.2 = 111 ∧ 0 ≤ x.2.1 ∧ x.2.1 < m := by
  unfold reachTo at h
  obtain ⟨b, hb, e⟩ := List.mem_filterMap.1 h
  rw [Int.toNat_natCast] at hb
  have hb := List.mem_range.1 hb
  split at e
  · have e := Option.some.inj e
    subst e
    exact ⟨rfl, rfl, Int.natCast_nonneg _, by show (b : Int) < m; omega⟩
  · cases e
theorem neg_reach (cs : List (Int × List Bool × List Int)) (ns os : List ByteArray) (fs : List Off) (ls : List Line) (ks : List Cla) (h : noF (cs, ns, os, fs, ls, ks) = true) (h0 : 0 < fs.length) : negTo (dist2 (cs, ns, os, fs, ls, ks)) fs.length fs.length 0 = decide ((((checkF (cs, ns, os, fs, ls, ks)).length : Nat) : Int) > 0) := by
  have dk := distOk (lines_ok cs ns os fs ls ks h).1 h0
  have e1 : dist2 (cs, ns, os, fs, ls, ks) = distF fs.length ls := by unfold dist2; rw [if_pos h]
  have e2 : checkF (cs, ns, os, fs, ls, ks) = reachTo fs.length ls fs.length := by unfold checkF; rw [if_pos h]
  have hat : ∀ a b : Nat, a < fs.length → b < fs.length → at2 (distF fs.length ls) a b = cell (relaxedF ls) a b := by
    intro a b ha hb
    unfold at2 distF
    rw [List.getD_eq_getElem?_getD, List.getD_eq_getElem?_getD, List.getElem?_map, List.getElem?_range (by omega), Option.map_some, Option.getD_some, ← List.getD_eq_getElem?_getD, distRow_at (by omega), Int.toNat_natCast, Int.toNat_natCast]
  rw [e1, e2]
  by_cases hn : reachTo fs.length ls fs.length = []
  · rw [hn]
    have hr := reach_nil.1 hn
    show negTo _ _ _ _ = false
    unfold negTo
    rw [show List.range (Int.toNat 0) = [] from rfl, List.any_nil, Bool.or_false, List.any_eq_false]
    intro a ha g
    obtain ⟨b, hb, e⟩ := List.any_eq_true.1 g
    rw [Int.toNat_natCast] at ha hb
    have ha := List.mem_range.1 ha
    have hb := List.mem_range.1 hb
    have e := of_decide_eq_true e
    have := dk.low a b (by omega) (by omega) (by omega) (by omega)
    rw [hat a b ha hb] at e this
    exact hr a b ha hb (by omega)
  · have hl := List.length_pos_iff.2 hn
    rw [decide_eq_true (show (((reachTo fs.length ls fs.length).length : Nat) : Int) > 0 by omega)]
    obtain ⟨a, b, ha, hb, e⟩ : ∃ a b : Nat, a < fs.length ∧ b < fs.length ∧ cell (relaxedF ls) a b = -1 := by
      refine Classical.byContradiction fun g => hn (reach_nil.2 fun a b ha hb e => g ⟨a, b, ha, hb, e⟩)
    unfold negTo
    rw [Bool.or_eq_true]
    refine .inl (List.any_eq_true.2 ⟨a, List.mem_range.2 (by omega), List.any_eq_true.2 ⟨b, List.mem_range.2 (by omega), decide_eq_true ?_⟩⟩)
    rw [hat a b ha hb, e]; decide
theorem ringTo_len (ls : List Line) (m a : Int) : (ringTo ls m a).length = ls.length + a.toNat := by unfold ringTo; simp
theorem ringTo_next {ls : List Line} {m a : Int} (a0 : 0 ≤ a) : ringTo ls m a ++ [(ringN a, a, D.rem (a + 1) m, 0, 100, 1)] = ringTo ls m (a + 1) := by
  unfold ringTo
  rw [show (a + 1).toNat = a.toNat + 1 by omega, List.range_succ, List.map_append, List.map_singleton, List.append_assoc, Int.toNat_of_nonneg a0]
theorem ring_walk {ls : List Line} {m : Nat} {a : Nat} (ha : a < m) : ∀ k : Nat, ∃ n, Walk (ringTo ls m m) a ((a + k) % m) n
  | 0 => ⟨0, by rw [Nat.add_zero, Nat.mod_eq_of_lt ha]; exact .nil a⟩
  | k + 1 => by
    obtain ⟨n, w⟩ := ring_walk (ls := ls) ha k
    have hlt : (a + k) % m < m := Nat.mod_lt _ (by omega)
    have hm : (ringN ((a + k) % m : Nat), (((a + k) % m : Nat) : Int), D.rem ((((a + k) % m : Nat) : Int) + 1) m, 0, 100, 1) ∈ ringTo ls m m := by
      unfold ringTo
      exact List.mem_append.2 (.inr (List.mem_map.2 ⟨(a + k) % m, List.mem_range.2 (by omega), rfl⟩))
    have hto : (D.rem ((((a + k) % m : Nat) : Int) + 1) m).toNat = (a + (k + 1)) % m := by
      show (((((a + k) % m : Nat) : Int) + 1).tmod (m : Int)).toNat = _
      rw [show (((a + k) % m : Nat) : Int) + 1 = (((a + k) % m + 1 : Nat) : Int) by omega, ← Int.ofNat_tmod, Int.toNat_natCast, ← Nat.add_assoc, Nat.mod_add_mod]
    have := Walk.snoc _ hm (show Walk _ _ (lFrom (ringN ((a + k) % m : Nat), (((a + k) % m : Nat) : Int), D.rem ((((a + k) % m : Nat) : Int) + 1) m, 0, 100, 1)).toNat n by unfold lFrom; rw [Int.toNat_natCast]; exact w)
    unfold lTo at this
    simp only [hto] at this
    exact ⟨_, this⟩
theorem ring_ok (cs : List (Int × List Bool × List Int)) (ns os : List ByteArray) (fs : List Off) (ls : List Line) (ks : List Cla) {m a : Int} (hm : m = fs.length) (h0 : 0 < fs.length) (ha : 0 ≤ a ∧ a ≤ m) (hex : ¬ (a < m ∧ m > 1)) (h : noF (cs, ns, os, fs, ringTo ls m a, ks) = true) : checkF (cs, ns, os, fs, ringTo ls m a, ks) = [] := by
  subst hm
  have ok := (lines_ok cs ns os fs (ringTo ls fs.length a) ks h).1
  have h12 := ok.n12
  have e2 : checkF (cs, ns, os, fs, ringTo ls fs.length a, ks) = reachTo fs.length (ringTo ls fs.length a) fs.length := by unfold checkF; rw [if_pos h]
  rw [e2]
  refine reach_nil.2 fun x y hx hy e => ?_
  have hd := relaxedF_dist ok (show x < 12 by omega)
  by_cases h1 : fs.length = 1
  · have : x = 0 := by omega
    have : y = 0 := by omega
    subst x; subst y
    have := hd.self
    omega
  · have : a = fs.length := by omega
    subst this
    obtain ⟨n, w⟩ := ring_walk (ls := ls) hx (fs.length + y - x)
    rw [show x + (fs.length + y - x) = y + fs.length by omega, Nat.add_mod_right, Nat.mod_eq_of_lt hy] at w
    have := hd.walk ok w
    omega
set_option maxRecDepth 20000 in
set_option maxHeartbeats 2000000 in
theorem t_lreach (cs : List (Int × List Bool × List Int)) (ns os : List ByteArray) (fs : List Off) (ls : List Line) (ks : List Cla) : SoundC Tryd.prog G0 7 [net cs ns os fs ls ks] [] ⟨True, .dat .bool true, []⟩ := by
  refine sound_of_ev (c := mkc K18) KS18' KI0s hm (vc_lreach cs ns os fs ls ks ⟨rfl, fun hp => ?_⟩)
  simp only [cnd_or, cnd_and, D.and, D.or, D.not, Bool.true_and, Bool.and_true, Bool.false_or, Bool.or_false, eq_self, true_and, and_true, imp_self, implies_true, Bool.not_eq_true', Bool.or_eq_true, Bool.or_eq_false_iff, Bool.not_eq_false', Bool.and_eq_true, Bool.and_eq_false_imp, Bool.not_not, forall_const, exists_eq_right, exists_eq_right', exists_eq_left, exists_eq_left', Int.toNat_natCast, Nat.zero_add, Nat.mul_one, Int.ofNat_eq_natCast, D.nil, D.eq, D.ne, D.lt, D.gt, D.le, D.ge, D.beq, D.ilen, D.slen, D.ile, D.ilt, D.ine, D.nle, D.nlt, D.sub, D.add, D.mul, D.neg, D.nat, D.ofN, D.len, D.nadd, D.nmul, D.get, D.mn, D.mx, D.set, D.app, D.tail, D.part, D.seg, D.rep, D.at2, decide_eq_true_eq, decide_eq_false_iff_not, beq_iff_eq, bne_iff_ne, beq_eq_false_iff_ne, bne_eq_false_iff_eq, List.nil_append]
  intro ⟨hc, hlen⟩
  obtain ⟨hf, hnf, dk⟩ := cons_parts cs ns os fs ls ks hc
  have hpos := dk.pos
  have h12 := dk.m12
  have ld := dk.len
  have hneg := neg_reach cs ns os fs ls ks hnf hpos
  have hmem : ∀ x ∈ checkF (cs, ns, os, fs, ls, ks), x.1 = 3 ∧ x.2.2 = 111 ∧ 0 ≤ x.2.1 ∧ x.2.1 < fs.length := fun x hx => by
    unfold checkF at hx
    rw [if_pos hnf] at hx
    exact reach_mem hx
  have hlc : (checkF (cs, ns, os, fs, ls, ks)).length ≤ 12 := by
    unfold checkF
    rw [if_pos hnf]
    have := reachTo_len (fs.length : Int) ls fs.length
    rw [Int.toNat_natCast] at this
    exact Nat.le_trans this h12
  have few2 : ∀ a : Int, 0 ≤ a → a ≤ fs.length → fewC (cs, ns, os, fs, ringTo ls fs.length a, ks) = true := fun a a0 a1 => by
    obtain ⟨g1, g2⟩ := fewC_iff.1 (few_fewC hf)
    obtain ⟨l1, l2, l3, l4, l5, l6⟩ := few_lens cs ns os fs ls ks g1
    refine fewC_iff.2 ⟨decide_eq_true ⟨l1, l2, l3, l4, ?_, l6⟩, g2⟩
    show (ringTo ls fs.length a).length ≤ 50
    rw [ringTo_len]; omega
  have ring := fun a ha hex h => ring_ok cs ns os fs ls ks (m := (fs.length : Int)) (a := a) rfl hpos ha hex h
  simp only [at2_fold]
  have hrow := dk.row
  generalize dist2 (cs, ns, os, fs, ls, ks) = d at dk hneg hrow ld ⊢
  generalize checkF (cs, ns, os, fs, ls, ks) = l at hneg hmem hlc ⊢
  have z : upN 0 (fs.length : Int) := ⟨Int.le_refl _, Int.natCast_nonneg _⟩
  refine ⟨(show (fs.length : Int) ≤ 1000000 by omega), fun h => (by rw [dk.sq] at h; cases h), fun _ => ⟨⟨0, z, (negTo_zero _ _).symm, rfl⟩, fun a ⟨a0, a1⟩ => ⟨fun ha => ?_, fun ha => ?_⟩⟩⟩
  · refine ⟨⟨0, z, rfl, rfl⟩, fun b ⟨b0, b1⟩ => ⟨fun hb => ?_, fun hb => ?_⟩⟩
    · have hr := hrow a a0 ha
      exact ⟨fun _ => a0, fun _ => by omega, fun _ => b0, fun _ => by omega, in_small (by omega), b + 1, ⟨by omega, by omega⟩, ⟨negTo_next b0, rfl⟩, by omega⟩
    · have : b = fs.length := by omega
      subst this
      exact ⟨in_small (by omega), a + 1, ⟨by omega, by omega⟩, ⟨negTo_row a0, rfl⟩, by omega⟩
  · have : a = fs.length := by omega
    subst this
    refine ⟨⟨Int.le_refl _, Int.natCast_nonneg _⟩, fun i ⟨i0, i1⟩ => ⟨fun hi => ?_, fun hi => ?_⟩⟩
    · have hx := hmem (l.getD i.toNat (0, 0, 0)) (by
        rw [List.getD_eq_getElem?_getD, List.getElem?_eq_getElem (by omega), Option.getD_some]
        exact List.getElem_mem _)
      generalize l.getD i.toNat (0, 0, 0) = x at hx ⊢
      obtain ⟨x1, x2, x3, x4⟩ := hx
      refine ⟨i0, hi, fun _ => i0, fun _ => hi, fun _ => i0, fun _ => hi, fun _ => i0, fun _ => hi, fun g => ?_, fun _ => ⟨in_small (by omega), i + 1, ⟨by omega, by omega⟩, rfl, by omega⟩⟩
      omega
    · refine ⟨List.length_nil, by omega, by omega, ⟨0, z, rfl, by rw [ringTo_len]; rfl, by unfold ringTo; exact (List.append_nil _).symm⟩, fun c ⟨c0, c1⟩ => ⟨fun ⟨hc1, hc2⟩ => ?_, fun hex => ?_⟩⟩
      · have hl := ringTo_len ls fs.length c
        have hn := ringTo_next (ls := ls) (m := (fs.length : Int)) c0
        have hn2 := congrArg List.length hn
        rw [List.length_append] at hn2
        simp only [List.length_singleton] at hn2 ⊢
        refine ⟨in_small (by omega), ?_, ?_, in_small (by omega), by omega, by omega, by omega, by rw [List.length_append]; rfl, in_small (by omega), c + 1, ⟨by omega, by omega⟩, ⟨rfl, hn2, hn⟩, by omega⟩
        · show (0 : Int) ≤ 97 + c ∧ 97 + c ≤ 255
          omega
        · show ((_ + (strOfNums [97 + c]).size : Nat) : Int) ≤ 9223372036854775807
          have : (strOfNums [97 + c]).size = 1 := rfl
          rw [this]; decide
      · refine ⟨fun _ => few2 c c0 c1, hneg, ?_⟩
        cases hr : noF (cs, ns, os, fs, ringTo ls fs.length c, ks) with
        | false => exact .inl rfl
        | true =>
          rw [ring c ⟨c0, c1⟩ (fun g => hex g.1 g.2) hr]
          exact .inr rfl
end Go.Eng.Sv
