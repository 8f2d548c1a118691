/- PeSv7 -/
import Derived.Test.YtmofcccjepbhjaaDoorW22
import Derived.Test.YtmofcccjepbhjaaDoorSvK
import Derived.Test.YtmofcccjepbhjaaDoorSv6
set_option linter.unusedSimpArgs false
set_option linter.unusedVariables false
namespace Go.Eng.Sv
open Go.Proofs

noncomputable def withL (n : Net) (ls : List Line) : Net := (n.1, n.2.1, n.2.2.1, n.2.2.2.1, ls, n.2.2.2.2.2)
noncomputable def lessL (ls : List Line) (k : Int) : List Line := ls.take k.toNat ++ ls.drop (k.toNat + 1)

noncomputable def llinesA (n : Net) (w v : Int) : Ann := ⟨fun id s => match id with
  | 17 => some { α := Int, inv := fun a => upN a (D.ilen n.2.2.2.1), st := fun a => put s [(15, .dat I a)], μ := fun a => D.nat (D.sub (D.ilen n.2.2.2.1) a) }
  | 20 => match s.sig.T 15 with
    | .dat (.int .i64) _ => some { α := Int, inv := fun b => upN b (D.ilen n.2.2.2.1), st := fun b => put s [(16, .dat I b)], μ := fun b => D.nat (D.sub (D.ilen n.2.2.2.1) b) }
    | _ => none
  | _ => none, fun id s => match id with
  | 10 => some (put (frz [1, 3] s) [(67, .top), (68, .top), (35, .top), (40, .top), (49, .top)])
  | _ => none, fun _ _ => none⟩
set_option maxRecDepth 100000 in
theorem vc_llines (w v : Int) (cs : List (Int × List Bool × List Int)) (ns os : List ByteArray) (fs : List Off) (ls : List Line) (ks : List Cla) (hvc :
    let c1 := (ls, ks);
    let c2 := (fs, c1);
    let c3 := (cs, ns, os, c2);
    let c4 := consF c3;
    let c5 := D.not c4;
    let c6 := D.not c5;
    let c7 := D.ilen ls;
    let c8 := D.cnd c5 true (D.eq c7 (0 : Int));
    let c9 := D.rem w c7;
    let c10 := D.part ls (0 : Int) c9;
    let c11 := D.nadd (0) (D.len c10);
    let c12 := D.add c9 (1 : Int);
    let c13 := D.app (D.nil (ByteArray × Int × Int × Int × Int × Int)) c10;
    let c14 := D.tail ls c12;
    let c15 := D.nadd c11 (D.len c14);
    let c16 := D.app c13 c14;
    let c17 := D.nadd (0) (D.len ls);
    let c18 := D.app (D.nil (ByteArray × Int × Int × Int × Int × Int)) ls;
    let c19 := D.len c18;
    let c20 := D.nat c9;
    let c21 := (ByteArray.mk (D.nil UInt8).toArray, (0 : Int), (0 : Int), (0 : Int), (0 : Int), (0 : Int));
    let c22 := D.get ls c20 c21;
    let c23 := c22.snd;
    let c24 := c23.snd;
    let c25 := c24.snd.snd;
    let c26 := c25.fst;
    let c27 := D.add c26 v;
    let c28 := D.get c18 c20 c21;
    let c29 := c28.snd;
    let c30 := c29.snd;
    let c31 := c30.snd;
    let c32 := D.mn (5000 : Int) c27;
    let c33 := D.set c18 c20 (c28.fst, c29.fst, c30.fst, c31.fst, c32, c31.snd.snd);
    let c34 := D.ilen fs;
    let c35 := dist2 c3;
    let c36 := sqF c35 c34;
    let c37 := D.not c36;
    let c38 := D.not c37;
    let c39 := dist2 (cs, ns, os, fs, c16, ks);
    let c40 := D.cnd c37 true (D.not (sqF c39 c34));
    let c41 := D.not c40;
    let c42 := dist2 (cs, ns, os, fs, c33, ks);
    let c43 := D.cnd c40 true (D.not (sqF c42 c34));
    let c44 := D.not c43;
    let c45 := c23.fst;
    let c46 := D.ilen c35;
    let c47 := c24.fst;
    let c48 := D.get c35 (D.nat c45) (D.nil Int);
    let c49 := D.cnd c43 true (D.gt (D.get c48 (D.nat c47) (0 : Int)) c26); true = true ∧ (u8sP w [v] → True ∧ True ∧ (c6 = true → c6 = true → c6 = true) ∧ (c6 =
     true → c6 = true → c6 = true) ∧ (c6 = true → c6 = true → c6 = true) ∧ (D.and true c6 = true → c6 = true) ∧ (c8 = true → true = true ∧ True) ∧ (c8 = false → inR
     IntKind.i64 w ∧ D.ine c7 (0 : Int) ∧ 1 = 1 ∧ 0 = 0 ∧ D.ile (0 : Int) (0 : Int) ∧ D.ile (0 : Int) c9 ∧ D.ile c9 c7 ∧ D.len (D.nil (ByteArray × Int × Int × Int ×
     Int × Int)) = 0 ∧ D.nle (D.nmul c11 (56)) (140737488355328) ∧ D.nle c11 (9223372036854775807) ∧ inR IntKind.i64 c12 ∧ D.ile (0 : Int) c12 ∧ D.ile c12 c7 ∧
     D.len c13 = c11 ∧ D.nle (D.nmul c15 (56)) (140737488355328) ∧ D.nle c15 (9223372036854775807) ∧ 1 = 1 ∧ 1 = 1 ∧ 0 = 0 ∧ D.len c16 = c15 ∧ 1 = 1 ∧ 0 = 0 ∧ D.len
     (D.nil (ByteArray × Int × Int × Int × Int × Int)) = 0 ∧ D.nle (D.nmul c17 (56)) (140737488355328) ∧ D.nle c17 (9223372036854775807) ∧ 1 = 1 ∧ 1 = 1 ∧ 0 = 0 ∧
     c19 = c17 ∧ 1 = 1 ∧ 1 = 1 ∧ 0 = 0 ∧ D.ile (0 : Int) c9 ∧ D.ilt c9 c7 ∧ inR IntKind.i64 v ∧ inR IntKind.i64 c27 ∧ c19 = c17 ∧ D.ile (0 : Int) c9 ∧ D.ilt c9
     (D.ofN c19) ∧ c19 = c17 ∧ c19 = c17 ∧ cs = cs ∧ ns = ns ∧ os = os ∧ fs = fs ∧ ls = ls ∧ ks = ks ∧ w = w ∧ v = v ∧ c3 = c3 ∧ false = false ∧ true = true ∧ c9 =
     c9 ∧ 1 = 1 ∧ 0 = 0 ∧ 0 = 0 ∧ 1 = 1 ∧ 0 = 0 ∧ 0 = 0 ∧ true = true ∧ cs = cs ∧ ns = ns ∧ os = os ∧ fs = fs ∧ ls = ls ∧ ks = ks ∧ c4 = c4 ∧ c5 = c5 ∧ c5 = c5 ∧ c8
     = c8 ∧ w = w ∧ w = w ∧ c1 = c1 ∧ ls = ls ∧ c7 = c7 ∧ c9 = c9 ∧ cs = cs ∧ ns = ns ∧ os = os ∧ fs = fs ∧ ls = ls ∧ ks = ks ∧ c1 = c1 ∧ ls = ls ∧ c9 = c9 ∧ c10 =
     c10 ∧ c1 = c1 ∧ ls = ls ∧ c9 = c9 ∧ c12 = c12 ∧ c14 = c14 ∧ D.len c16 = c15 ∧ c16 = c16 ∧ 1 = 1 ∧ 0 = 0 ∧ 4 = 4 ∧ cs = cs ∧ ns = ns ∧ os = os ∧ fs = fs ∧ ls =
     ls ∧ ks = ks ∧ c1 = c1 ∧ ls = ls ∧ D.len c33 = c17 ∧ c33 = c33 ∧ 1 = 1 ∧ 0 = 0 ∧ 4 = 4 ∧ 1 = 1 ∧ 0 = 0 ∧ 4 = 4 ∧ D.len c33 = c17 ∧ c33 = c33 ∧ c9 = c9 ∧ c1 =
     c1 ∧ ls = ls ∧ c9 = c9 ∧ c22 = c22 ∧ c25 = c25 ∧ c26 = c26 ∧ v = v ∧ v = v ∧ c27 = c27 ∧ c32 = c32 ∧ cs = cs ∧ ns = ns ∧ os = os ∧ fs = fs ∧ D.len c16 = c15 ∧
     c16 = c16 ∧ ks = ks ∧ cs = cs ∧ ns = ns ∧ os = os ∧ fs = fs ∧ D.len c33 = c17 ∧ c33 = c33 ∧ ks = ks ∧ True ∧ 1 = 1 ∧ 0 = 0 ∧ True ∧ 1 = 1 ∧ 0 = 0 ∧ True ∧
     okInt c34 ∧ (c38 = true → c38 = true → c38 = true) ∧ (c38 = true → c38 = true → c38 = true) ∧ (c38 = true → okInt c34) ∧ (c38 = true → c38 = true → c38 = true)
     ∧ (D.and true c38 = true → c38 = true) ∧ (c41 = true → c41 = true → c41 = true) ∧ (c41 = true → c41 = true → c41 = true) ∧ (c41 = true → okInt c34) ∧ (c41 =
     true → c41 = true → c41 = true) ∧ (D.and true c41 = true → c41 = true) ∧ (c44 = true → c44 = true → c44 = true) ∧ (c44 = true → c44 = true → c44 = true) ∧ (c44
     = true → c44 = true → c44 = true) ∧ (c44 = true → D.ile (0 : Int) c9) ∧ (c44 = true → D.ilt c9 c7) ∧ (c44 = true → c44 = true → c44 = true) ∧ (c44 = true → c44
     = true → c44 = true) ∧ (c44 = true → c44 = true → c44 = true) ∧ (c44 = true → c44 = true → c44 = true) ∧ (c44 = true → D.ile (0 : Int) c45) ∧ (c44 = true →
     D.ilt c45 c46) ∧ (c44 = true → c44 = true → c44 = true) ∧ (c44 = true → c44 = true → c44 = true) ∧ (c44 = true → c44 = true → c44 = true) ∧ (c44 = true → c44 =
     true → c44 = true) ∧ (c44 = true → D.ile (0 : Int) c9) ∧ (c44 = true → D.ilt c9 c7) ∧ (c44 = true → c44 = true → c44 = true) ∧ (c44 = true → c44 = true → c44 =
     true) ∧ (c44 = true → c44 = true → c44 = true) ∧ (c44 = true → c44 = true → c44 = true) ∧ (c44 = true → D.ile (0 : Int) c47) ∧ (c44 = true → D.ilt c47 (D.ilen
     c48)) ∧ (c44 = true → c44 = true → c44 = true) ∧ (c44 = true → c44 = true → c44 = true) ∧ (c44 = true → c44 = true → c44 = true) ∧ (c44 = true → c44 = true →
     c44 = true) ∧ (c44 = true → D.ile (0 : Int) c9) ∧ (c44 = true → D.ilt c9 c7) ∧ (c44 = true → c44 = true → c44 = true) ∧ (c44 = true → c44 = true → c44 = true)
     ∧ (c44 = true → c44 = true → c44 = true) ∧ (c44 = true → c44 = true → c44 = true) ∧ (D.and true c44 = true → c44 = true) ∧ (c49 = true → false = true ∧ True) ∧
     (c49 = false → (∃ x, upN x c34 ∧ cs = cs ∧ ns = ns ∧ os = os ∧ fs = fs ∧ ls = ls ∧ ks = ks ∧ w = w ∧ v = v ∧ c3 = c3 ∧ true = true ∧ c9 = c9 ∧ 1 = 1 ∧ 0 = 0 ∧
     0 = 0 ∧ 1 = 1 ∧ 0 = 0 ∧ 0 = 0 ∧ c35 = c35 ∧ c39 = c39 ∧ c42 = c42 ∧ c34 = c34 ∧ (0 : Int) = x ∧ true = true ∧ cs = cs ∧ ns = ns ∧ os = os ∧ fs = fs ∧ ls = ls ∧
     ks = ks ∧ c4 = c4 ∧ c5 = c5 ∧ c5 = c5 ∧ c8 = c8 ∧ w = w ∧ w = w ∧ c1 = c1 ∧ ls = ls ∧ c7 = c7 ∧ c9 = c9 ∧ cs = cs ∧ ns = ns ∧ os = os ∧ fs = fs ∧ ls = ls ∧ ks
     = ks ∧ c1 = c1 ∧ ls = ls ∧ c9 = c9 ∧ c10 = c10 ∧ c1 = c1 ∧ ls = ls ∧ c9 = c9 ∧ c12 = c12 ∧ c14 = c14 ∧ c16 = c16 ∧ 1 = 1 ∧ 0 = 0 ∧ 4 = 4 ∧ cs = cs ∧ ns = ns ∧
     os = os ∧ fs = fs ∧ ls = ls ∧ ks = ks ∧ c1 = c1 ∧ ls = ls ∧ c33 = c33 ∧ 1 = 1 ∧ 0 = 0 ∧ 4 = 4 ∧ 1 = 1 ∧ 0 = 0 ∧ 4 = 4 ∧ c33 = c33 ∧ c9 = c9 ∧ c1 = c1 ∧ ls = ls
     ∧ c9 = c9 ∧ c22 = c22 ∧ c25 = c25 ∧ c26 = c26 ∧ v = v ∧ v = v ∧ c27 = c27 ∧ c32 = c32 ∧ cs = cs ∧ ns = ns ∧ os = os ∧ fs = fs ∧ ls = ls ∧ ks = ks ∧ c35 = c35 ∧
     cs = cs ∧ ns = ns ∧ os = os ∧ fs = fs ∧ c16 = c16 ∧ ks = ks ∧ c39 = c39 ∧ cs = cs ∧ ns = ns ∧ os = os ∧ fs = fs ∧ c33 = c33 ∧ ks = ks ∧ c42 = c42 ∧ c2 = c2 ∧
     fs = fs ∧ c34 = c34 ∧ c35 = c35 ∧ c34 = c34 ∧ c36 = c36 ∧ c37 = c37 ∧ c37 = c37 ∧ c40 = c40 ∧ c40 = c40 ∧ c43 = c43 ∧ c43 = c43 ∧ c49 = c49 ∧ cs = cs ∧ ns = ns
     ∧ os = os ∧ fs = fs ∧ c16 = c16 ∧ ks = ks ∧ cs = cs ∧ ns = ns ∧ os = os ∧ fs = fs ∧ c33 = c33 ∧ ks = ks ∧ True) ∧ ∀ (x : Int),
    let c50 := D.get c35 (D.nat x) (D.nil Int);
    let c51 := D.ilen c50;
    let c52 := D.get c39 (D.nat x) (D.nil Int);
    let c53 := D.get c42 (D.nat x) (D.nil Int);
    let c54 := D.add x (1 : Int); upN x c34 → (D.lt x c34 = true → (∃ x_3, upN x_3 c34 ∧ cs = cs ∧ ns = ns ∧ os = os ∧ fs = fs ∧ ls = ls ∧ ks = ks ∧ w = w ∧ v = v ∧
     c3 = c3 ∧ true = true ∧ c9 = c9 ∧ 1 = 1 ∧ 0 = 0 ∧ 0 = 0 ∧ 1 = 1 ∧ 0 = 0 ∧ 0 = 0 ∧ c35 = c35 ∧ c39 = c39 ∧ c42 = c42 ∧ c34 = c34 ∧ x = x ∧ (0 : Int) = x_3 ∧
     true = true ∧ cs = cs ∧ ns = ns ∧ os = os ∧ fs = fs ∧ ls = ls ∧ ks = ks ∧ c4 = c4 ∧ c5 = c5 ∧ c5 = c5 ∧ c8 = c8 ∧ w = w ∧ w = w ∧ c1 = c1 ∧ ls = ls ∧ c7 = c7 ∧
     c9 = c9 ∧ cs = cs ∧ ns = ns ∧ os = os ∧ fs = fs ∧ ls = ls ∧ ks = ks ∧ c1 = c1 ∧ ls = ls ∧ c9 = c9 ∧ c10 = c10 ∧ c1 = c1 ∧ ls = ls ∧ c9 = c9 ∧ c12 = c12 ∧ c14 =
     c14 ∧ c16 = c16 ∧ 1 = 1 ∧ 0 = 0 ∧ 4 = 4 ∧ cs = cs ∧ ns = ns ∧ os = os ∧ fs = fs ∧ ls = ls ∧ ks = ks ∧ c1 = c1 ∧ ls = ls ∧ c33 = c33 ∧ 1 = 1 ∧ 0 = 0 ∧ 4 = 4 ∧ 1
     = 1 ∧ 0 = 0 ∧ 4 = 4 ∧ c33 = c33 ∧ c9 = c9 ∧ c1 = c1 ∧ ls = ls ∧ c9 = c9 ∧ c22 = c22 ∧ c25 = c25 ∧ c26 = c26 ∧ v = v ∧ v = v ∧ c27 = c27 ∧ c32 = c32 ∧ cs = cs ∧
     ns = ns ∧ os = os ∧ fs = fs ∧ ls = ls ∧ ks = ks ∧ c35 = c35 ∧ cs = cs ∧ ns = ns ∧ os = os ∧ fs = fs ∧ c16 = c16 ∧ ks = ks ∧ c39 = c39 ∧ cs = cs ∧ ns = ns ∧ os
     = os ∧ fs = fs ∧ c33 = c33 ∧ ks = ks ∧ c42 = c42 ∧ c2 = c2 ∧ fs = fs ∧ c34 = c34 ∧ c35 = c35 ∧ c34 = c34 ∧ c36 = c36 ∧ c37 = c37 ∧ c37 = c37 ∧ c40 = c40 ∧ c40
     = c40 ∧ c43 = c43 ∧ c43 = c43 ∧ c49 = c49 ∧ x = x ∧ c34 = c34 ∧ D.lt x c34 = D.lt x c34 ∧ cs = cs ∧ ns = ns ∧ os = os ∧ fs = fs ∧ c16 = c16 ∧ ks = ks ∧ cs = cs
     ∧ ns = ns ∧ os = os ∧ fs = fs ∧ c33 = c33 ∧ ks = ks ∧ True) ∧ ∀ (x_3 : Int),
    let c55 := D.get c50 (D.nat x_3) (0 : Int);
    let c56 := D.lt c55 (0 : Int);
    let c57 := D.get c52 (D.nat x_3) (0 : Int);
    let c58 := D.ge c57 (0 : Int);
    let c59 := D.get c53 (D.nat x_3) (0 : Int);
    let c60 := D.cnd c56 (D.cnd c58 true (D.ge c59 (0 : Int))) false;
    let c61 := D.not c60;
    let c62 := D.ge c55 (0 : Int);
    let c63 := D.and c61 c62;
    let c64 := D.cnd c58 (D.lt c57 c55) false;
    let c65 := D.cnd c60 true (D.cnd c62 (D.cnd c64 true (D.lt c59 c55)) false);
    let c66 := D.add x_3 (1 : Int); upN x_3 c34 → (D.lt x_3 c34 = true → D.ile (0 : Int) x ∧ D.ilt x c46 ∧ D.ile (0 : Int) x_3 ∧ D.ilt x_3 c51 ∧ (c56 = true → c56 =
     true → c56 = true) ∧ (c56 = true → c56 = true → c56 = true) ∧ (c56 = true → D.ile (0 : Int) x) ∧ (c56 = true → D.ilt x (D.ilen c39)) ∧ (c56 = true → c56 = true
     → c56 = true) ∧ (c56 = true → c56 = true → c56 = true) ∧ (c56 = true → c56 = true → c56 = true) ∧ (c56 = true → D.ile (0 : Int) x_3) ∧ (c56 = true → D.ilt x_3
     (D.ilen c52)) ∧ (c56 = true → c56 = true → c56 = true) ∧ (c56 = true → c56 = true → c56 = true) ∧ (c56 = true → c56 = true → c56 = true) ∧ (D.and c56 (D.not
     c58) = true → D.and c56 (D.not c58) = true → D.and c56 (D.not c58) = true) ∧ (D.and c56 (D.not c58) = true → D.and c56 (D.not c58) = true → D.and c56 (D.not
     c58) = true) ∧ (D.and c56 (D.not c58) = true → D.ile (0 : Int) x) ∧ (D.and c56 (D.not c58) = true → D.ilt x (D.ilen c42)) ∧ (D.and c56 (D.not c58) = true →
     D.and c56 (D.not c58) = true → D.and c56 (D.not c58) = true) ∧ (D.and c56 (D.not c58) = true → D.and c56 (D.not c58) = true → D.and c56 (D.not c58) = true) ∧
     (D.and c56 (D.not c58) = true → D.and c56 (D.not c58) = true → D.and c56 (D.not c58) = true) ∧ (D.and c56 (D.not c58) = true → D.ile (0 : Int) x_3) ∧ (D.and
     c56 (D.not c58) = true → D.ilt x_3 (D.ilen c53)) ∧ (D.and c56 (D.not c58) = true → D.and c56 (D.not c58) = true → D.and c56 (D.not c58) = true) ∧ (D.and c56
     (D.not c58) = true → D.and c56 (D.not c58) = true → D.and c56 (D.not c58) = true) ∧ (c56 = true → c56 = true → c56 = true) ∧ (c56 = true → D.and c56 (D.not
     c58) = true → D.and c56 (D.not c58) = true) ∧ (D.and true c56 = true → c56 = true) ∧ (c61 = true → c61 = true → c61 = true) ∧ (c61 = true → c61 = true → c61 =
     true) ∧ (c61 = true → D.ile (0 : Int) x) ∧ (c61 = true → D.ilt x c46) ∧ (c61 = true → c61 = true → c61 = true) ∧ (c61 = true → c61 = true → c61 = true) ∧ (c61
     = true → c61 = true → c61 = true) ∧ (c61 = true → D.ile (0 : Int) x_3) ∧ (c61 = true → D.ilt x_3 c51) ∧ (c61 = true → c61 = true → c61 = true) ∧ (c61 = true →
     c61 = true → c61 = true) ∧ (c61 = true → c61 = true → c61 = true) ∧ (c63 = true → c63 = true → c63 = true) ∧ (c63 = true → c63 = true → c63 = true) ∧ (c63 =
     true → D.ile (0 : Int) x) ∧ (c63 = true → D.ilt x (D.ilen c39)) ∧ (c63 = true → c63 = true → c63 = true) ∧ (c63 = true → c63 = true → c63 = true) ∧ (c63 = true
     → c63 = true → c63 = true) ∧ (c63 = true → D.ile (0 : Int) x_3) ∧ (c63 = true → D.ilt x_3 (D.ilen c52)) ∧ (c63 = true → c63 = true → c63 = true) ∧ (c63 = true
     → c63 = true → c63 = true) ∧ (c63 = true → c63 = true → c63 = true) ∧ (D.and c63 c58 = true → D.and c63 c58 = true → D.and c63 c58 = true) ∧ (D.and c63 c58 =
     true → D.and c63 c58 = true → D.and c63 c58 = true) ∧ (D.and c63 c58 = true → D.ile (0 : Int) x) ∧ (D.and c63 c58 = true → D.ilt x (D.ilen c39)) ∧ (D.and c63
     c58 = true → D.and c63 c58 = true → D.and c63 c58 = true) ∧ (D.and c63 c58 = true → D.and c63 c58 = true → D.and c63 c58 = true) ∧ (D.and c63 c58 = true →
     D.and c63 c58 = true → D.and c63 c58 = true) ∧ (D.and c63 c58 = true → D.ile (0 : Int) x_3) ∧ (D.and c63 c58 = true → D.ilt x_3 (D.ilen c52)) ∧ (D.and c63 c58
     = true → D.and c63 c58 = true → D.and c63 c58 = true) ∧ (D.and c63 c58 = true → D.and c63 c58 = true → D.and c63 c58 = true) ∧ (D.and c63 c58 = true → D.and
     c63 c58 = true → D.and c63 c58 = true) ∧ (D.and c63 c58 = true → D.ile (0 : Int) x) ∧ (D.and c63 c58 = true → D.ilt x c46) ∧ (D.and c63 c58 = true → D.and c63
     c58 = true → D.and c63 c58 = true) ∧ (D.and c63 c58 = true → D.and c63 c58 = true → D.and c63 c58 = true) ∧ (D.and c63 c58 = true → D.and c63 c58 = true →
     D.and c63 c58 = true) ∧ (D.and c63 c58 = true → D.ile (0 : Int) x_3) ∧ (D.and c63 c58 = true → D.ilt x_3 c51) ∧ (D.and c63 c58 = true → D.and c63 c58 = true →
     D.and c63 c58 = true) ∧ (D.and c63 c58 = true → D.and c63 c58 = true → D.and c63 c58 = true) ∧ (D.and c63 c58 = true → D.and c63 c58 = true → D.and c63 c58 =
     true) ∧ (c63 = true → c63 = true → c63 = true) ∧ (c63 = true → D.and c63 c58 = true → D.and c63 c58 = true) ∧ (c63 = true → c63 = true → c63 = true) ∧ (D.and
     c63 (D.not c64) = true → D.and c63 (D.not c64) = true → D.and c63 (D.not c64) = true) ∧ (D.and c63 (D.not c64) = true → D.and c63 (D.not c64) = true → D.and
     c63 (D.not c64) = true) ∧ (D.and c63 (D.not c64) = true → D.ile (0 : Int) x) ∧ (D.and c63 (D.not c64) = true → D.ilt x (D.ilen c42)) ∧ (D.and c63 (D.not c64) =
     true → D.and c63 (D.not c64) = true → D.and c63 (D.not c64) = true) ∧ (D.and c63 (D.not c64) = true → D.and c63 (D.not c64) = true → D.and c63 (D.not c64) =
     true) ∧ (D.and c63 (D.not c64) = true → D.and c63 (D.not c64) = true → D.and c63 (D.not c64) = true) ∧ (D.and c63 (D.not c64) = true → D.ile (0 : Int) x_3) ∧
     (D.and c63 (D.not c64) = true → D.ilt x_3 (D.ilen c53)) ∧ (D.and c63 (D.not c64) = true → D.and c63 (D.not c64) = true → D.and c63 (D.not c64) = true) ∧ (D.and
     c63 (D.not c64) = true → D.and c63 (D.not c64) = true → D.and c63 (D.not c64) = true) ∧ (D.and c63 (D.not c64) = true → D.and c63 (D.not c64) = true → D.and
     c63 (D.not c64) = true) ∧ (D.and c63 (D.not c64) = true → D.ile (0 : Int) x) ∧ (D.and c63 (D.not c64) = true → D.ilt x c46) ∧ (D.and c63 (D.not c64) = true →
     D.and c63 (D.not c64) = true → D.and c63 (D.not c64) = true) ∧ (D.and c63 (D.not c64) = true → D.and c63 (D.not c64) = true → D.and c63 (D.not c64) = true) ∧
     (D.and c63 (D.not c64) = true → D.and c63 (D.not c64) = true → D.and c63 (D.not c64) = true) ∧ (D.and c63 (D.not c64) = true → D.ile (0 : Int) x_3) ∧ (D.and
     c63 (D.not c64) = true → D.ilt x_3 c51) ∧ (D.and c63 (D.not c64) = true → D.and c63 (D.not c64) = true → D.and c63 (D.not c64) = true) ∧ (D.and c63 (D.not c64)
     = true → D.and c63 (D.not c64) = true → D.and c63 (D.not c64) = true) ∧ (D.and c63 (D.not c64) = true → D.and c63 (D.not c64) = true → D.and c63 (D.not c64) =
     true) ∧ (c63 = true → c63 = true → c63 = true) ∧ (c63 = true → D.and c63 (D.not c64) = true → D.and c63 (D.not c64) = true) ∧ (c61 = true → c61 = true → c61 =
     true) ∧ (c61 = true → c63 = true → c63 = true) ∧ (D.and true c61 = true → c61 = true) ∧ (c65 = true → false = true ∧ True) ∧ (c65 = false → inR IntKind.i64 c66
     ∧ ∃ y, upN y c34 ∧ (cs = cs ∧ ns = ns ∧ os = os ∧ fs = fs ∧ ls = ls ∧ ks = ks ∧ w = w ∧ v = v ∧ c3 = c3 ∧ true = true ∧ c9 = c9 ∧ 1 = 1 ∧ 0 = 0 ∧ 0 = 0 ∧ 1 = 1
     ∧ 0 = 0 ∧ 0 = 0 ∧ c35 = c35 ∧ c39 = c39 ∧ c42 = c42 ∧ c34 = c34 ∧ x = x ∧ c66 = y ∧ true = true ∧ cs = cs ∧ ns = ns ∧ os = os ∧ fs = fs ∧ ls = ls ∧ ks = ks ∧
     c4 = c4 ∧ c5 = c5 ∧ c5 = c5 ∧ c8 = c8 ∧ w = w ∧ w = w ∧ c1 = c1 ∧ ls = ls ∧ c7 = c7 ∧ c9 = c9 ∧ cs = cs ∧ ns = ns ∧ os = os ∧ fs = fs ∧ ls = ls ∧ ks = ks ∧ c1
     = c1 ∧ ls = ls ∧ c9 = c9 ∧ c10 = c10 ∧ c1 = c1 ∧ ls = ls ∧ c9 = c9 ∧ c12 = c12 ∧ c14 = c14 ∧ c16 = c16 ∧ 1 = 1 ∧ 0 = 0 ∧ 4 = 4 ∧ cs = cs ∧ ns = ns ∧ os = os ∧
     fs = fs ∧ ls = ls ∧ ks = ks ∧ c1 = c1 ∧ ls = ls ∧ c33 = c33 ∧ 1 = 1 ∧ 0 = 0 ∧ 4 = 4 ∧ 1 = 1 ∧ 0 = 0 ∧ 4 = 4 ∧ c33 = c33 ∧ c9 = c9 ∧ c1 = c1 ∧ ls = ls ∧ c9 = c9
     ∧ c22 = c22 ∧ c25 = c25 ∧ c26 = c26 ∧ v = v ∧ v = v ∧ c27 = c27 ∧ c32 = c32 ∧ cs = cs ∧ ns = ns ∧ os = os ∧ fs = fs ∧ ls = ls ∧ ks = ks ∧ c35 = c35 ∧ cs = cs ∧
     ns = ns ∧ os = os ∧ fs = fs ∧ c16 = c16 ∧ ks = ks ∧ c39 = c39 ∧ cs = cs ∧ ns = ns ∧ os = os ∧ fs = fs ∧ c33 = c33 ∧ ks = ks ∧ c42 = c42 ∧ c2 = c2 ∧ fs = fs ∧
     c34 = c34 ∧ c35 = c35 ∧ c34 = c34 ∧ c36 = c36 ∧ c37 = c37 ∧ c37 = c37 ∧ c40 = c40 ∧ c40 = c40 ∧ c43 = c43 ∧ c43 = c43 ∧ c49 = c49 ∧ x = x ∧ c34 = c34 ∧ D.lt x
     c34 = D.lt x c34 ∧ cs = cs ∧ ns = ns ∧ os = os ∧ fs = fs ∧ c16 = c16 ∧ ks = ks ∧ cs = cs ∧ ns = ns ∧ os = os ∧ fs = fs ∧ c33 = c33 ∧ ks = ks ∧ True) ∧ D.nlt
     (D.nat (D.sub c34 y)) (D.nat (D.sub c34 x_3)))) ∧ (D.lt x_3 c34 = false → inR IntKind.i64 c54 ∧ ∃ y, upN y c34 ∧ (cs = cs ∧ ns = ns ∧ os = os ∧ fs = fs ∧ ls =
     ls ∧ ks = ks ∧ w = w ∧ v = v ∧ c3 = c3 ∧ true = true ∧ c9 = c9 ∧ 1 = 1 ∧ 0 = 0 ∧ 0 = 0 ∧ 1 = 1 ∧ 0 = 0 ∧ 0 = 0 ∧ c35 = c35 ∧ c39 = c39 ∧ c42 = c42 ∧ c34 = c34
     ∧ c54 = y ∧ true = true ∧ cs = cs ∧ ns = ns ∧ os = os ∧ fs = fs ∧ ls = ls ∧ ks = ks ∧ c4 = c4 ∧ c5 = c5 ∧ c5 = c5 ∧ c8 = c8 ∧ w = w ∧ w = w ∧ c1 = c1 ∧ ls = ls
     ∧ c7 = c7 ∧ c9 = c9 ∧ cs = cs ∧ ns = ns ∧ os = os ∧ fs = fs ∧ ls = ls ∧ ks = ks ∧ c1 = c1 ∧ ls = ls ∧ c9 = c9 ∧ c10 = c10 ∧ c1 = c1 ∧ ls = ls ∧ c9 = c9 ∧ c12 =
     c12 ∧ c14 = c14 ∧ c16 = c16 ∧ 1 = 1 ∧ 0 = 0 ∧ 4 = 4 ∧ cs = cs ∧ ns = ns ∧ os = os ∧ fs = fs ∧ ls = ls ∧ ks = ks ∧ c1 = c1 ∧ ls = ls ∧ c33 = c33 ∧ 1 = 1 ∧ 0 = 0
     ∧ 4 = 4 ∧ 1 = 1 ∧ 0 = 0 ∧ 4 = 4 ∧ c33 = c33 ∧ c9 = c9 ∧ c1 = c1 ∧ ls = ls ∧ c9 = c9 ∧ c22 = c22 ∧ c25 = c25 ∧ c26 = c26 ∧ v = v ∧ v = v ∧ c27 = c27 ∧ c32 = c32
     ∧ cs = cs ∧ ns = ns ∧ os = os ∧ fs = fs ∧ ls = ls ∧ ks = ks ∧ c35 = c35 ∧ cs = cs ∧ ns = ns ∧ os = os ∧ fs = fs ∧ c16 = c16 ∧ ks = ks ∧ c39 = c39 ∧ cs = cs ∧
     ns = ns ∧ os = os ∧ fs = fs ∧ c33 = c33 ∧ ks = ks ∧ c42 = c42 ∧ c2 = c2 ∧ fs = fs ∧ c34 = c34 ∧ c35 = c35 ∧ c34 = c34 ∧ c36 = c36 ∧ c37 = c37 ∧ c37 = c37 ∧ c40
     = c40 ∧ c40 = c40 ∧ c43 = c43 ∧ c43 = c43 ∧ c49 = c49 ∧ cs = cs ∧ ns = ns ∧ os = os ∧ fs = fs ∧ c16 = c16 ∧ ks = ks ∧ cs = cs ∧ ns = ns ∧ os = os ∧ fs = fs ∧
     c33 = c33 ∧ ks = ks ∧ True) ∧ D.nlt (D.nat (D.sub c34 y)) (D.nat (D.sub c34 x)))) ∧ (D.lt x c34 = false → true = true ∧ True))))) :
    evF (mkc K18) (llinesA (cs, ns, os, fs, ls, ks) w v) 6 [net cs ns os fs ls ks, .dat U8 w, .dat U8 v] [] ⟨u8sP w [v], .dat .bool true, []⟩ := of_eq (by kernel_rfl) hvc

noncomputable def slowL (ls : List Line) (k : Nat) (v : Int) : List Line := ls.set k ((ls.getD k (⟨#[]⟩, 0, 0, 0, 0, 0)).1, (ls.getD k (⟨#[]⟩, 0, 0, 0, 0, 0)).2.1, (ls.getD k (⟨#[]⟩, 0, 0, 0, 0, 0)).2.2.1, (ls.getD k (⟨#[]⟩, 0, 0, 0, 0, 0)).2.2.2.1, min 5000 ((ls.getD k (⟨#[]⟩, 0, 0, 0, 0, 0)).2.2.2.2.1 + v), (ls.getD k (⟨#[]⟩, 0, 0, 0, 0, 0)).2.2.2.2.2)
theorem slowL_at {ls : List Line} {k : Nat} {v : Int} (hv : 0 ≤ v) (hk : k < ls.length) (htr : ∀ l ∈ ls, lTravel l ≤ 5000) (i : Nat) (hi : i < ls.length) :
    ∃ r, (slowL ls k v)[i]? = some r ∧ r.1 = ls[i].1 ∧ lFrom r = lFrom ls[i] ∧ lTo r = lTo ls[i] ∧ lAt r = lAt ls[i] ∧ lLoad r = lLoad ls[i] ∧ lTravel ls[i] ≤ lTravel r ∧ lTravel r ≤ 5000 := by
  have ht := htr ls[i] (List.getElem_mem hi)
  unfold slowL
  rw [List.getElem?_set, List.getD_eq_getElem?_getD, List.getElem?_eq_getElem hk, Option.getD_some]
  by_cases e : k = i
  · subst e
    rw [if_pos rfl, if_pos hk]
    refine ⟨_, rfl, rfl, rfl, rfl, rfl, rfl, ?_, ?_⟩
    · show lTravel ls[k] ≤ min 5000 (lTravel ls[k] + v); omega
    · show min 5000 (lTravel ls[k] + v) ≤ 5000; omega
  · rw [if_neg e, List.getElem?_eq_getElem hi]
    exact ⟨_, rfl, rfl, rfl, rfl, rfl, rfl, Int.le_refl _, ht⟩
theorem slowL_len (ls : List Line) (k : Nat) (v : Int) : (slowL ls k v).length = ls.length := List.length_set
theorem slowL_names {ls : List Line} {k : Nat} {v : Int} (hv : 0 ≤ v) (hk : k < ls.length) (htr : ∀ l ∈ ls, lTravel l ≤ 5000) : (slowL ls k v).map (·.1) = ls.map (·.1) := by
  apply List.ext_getElem?
  intro i
  rw [List.getElem?_map, List.getElem?_map]
  by_cases h : i < ls.length
  · obtain ⟨r, h1, h2, _⟩ := slowL_at hv hk htr i h
    rw [h1, List.getElem?_eq_getElem h, Option.map_some, Option.map_some, h2]
  · rw [List.getElem?_eq_none (by rw [slowL_len]; omega), List.getElem?_eq_none (by omega)]
theorem noF_less (cs : List (Int × List Bool × List Int)) (ns os : List ByteArray) (fs : List Off) (ls : List Line) (ks : List Cla) (h : noF (cs, ns, os, fs, ls, ks) = true) (k : Nat) : noF (cs, ns, os, fs, ls.take k ++ ls.drop (k + 1), ks) = true := by
  obtain ⟨h1, h2, h3, h4⟩ := noF_lines cs ns os fs ls ks h
  have hs : (ls.take k ++ ls.drop (k + 1)).Sublist ls := by
    rw [← List.eraseIdx_eq_take_drop_succ]; exact List.eraseIdx_sublist _ _
  have hl := hs.length_le
  exact noF_with cs ns os fs ls ks h _ (by omega) (fun x hx => h2 x (hs.subset hx)) (h3.sublist hs) fun x hx => h4 x (hs.subset hx)
theorem noF_slow (cs : List (Int × List Bool × List Int)) (ns os : List ByteArray) (fs : List Off) (ls : List Line) (ks : List Cla) (h : noF (cs, ns, os, fs, ls, ks) = true) {k : Nat} (hk : k < ls.length) {v : Int} (hv : 0 ≤ v) : noF (cs, ns, os, fs, slowL ls k v, ks) = true := by
  obtain ⟨h1, h2, h3, h4⟩ := noF_lines cs ns os fs ls ks h
  have htr : ∀ l ∈ ls, lTravel l ≤ 5000 := fun l hl => (goodLin_spec (h4 l hl)).2.2.2.2.2.2.2
  have hn := slowL_names hv hk htr
  refine noF_with cs ns os fs ls ks h _ (by rw [slowL_len]; exact h1) (fun x hx => ?_) ?_ fun x hx => ?_
  · have : x.1 ∈ ls.map (·.1) := hn ▸ List.mem_map_of_mem hx
    obtain ⟨y, hy, e⟩ := List.mem_map.1 this
    rw [← e]; exact h2 y hy
  · have : (ls.map (·.1)).Pairwise (fun a b : ByteArray => a.toList ≠ b.toList) := List.pairwise_map.2 h3
    rw [← hn] at this
    exact (List.pairwise_map (f := fun l : Line => l.1) (R := fun a b : ByteArray => a.toList ≠ b.toList)).1 this
  · obtain ⟨i, hi, rfl⟩ := List.mem_iff_getElem.1 hx
    have hi' : i < ls.length := by rwa [slowL_len] at hi
    obtain ⟨r, e1, e2, e3, e4, e5, e6, e7, e8⟩ := slowL_at hv hk htr i hi'
    rw [List.getElem?_eq_getElem hi] at e1
    have e1 := Option.some.inj e1
    rw [e1]
    have hg := h4 _ (List.getElem_mem hi')
    unfold goodLin at hg ⊢
    unfold lFrom at e3
    unfold lTo at e4
    unfold lAt at e5
    unfold lLoad at e6
    unfold lTravel at e7 e8
    rw [e3, e4, e5, e6]
    simp only [Bool.and_eq_true] at hg ⊢
    refine ⟨⟨hg.1.1, ?_⟩, hg.2⟩
    have := of_decide_eq_true hg.1.2
    exact decide_eq_true ⟨by omega, e8⟩
theorem at2_cell {m : Nat} {ls : List Line} {a b : Int} (a0 : 0 ≤ a) (a1 : a < m) (b0 : 0 ≤ b) (b1 : b < m) : at2 (distF m ls) a b = cell (relaxedF ls) a.toNat b.toNat := by
  unfold at2 distF
  rw [List.getD_eq_getElem?_getD, List.getD_eq_getElem?_getD, List.getElem?_map, List.getElem?_range (by omega), Option.map_some, Option.getD_some, ← List.getD_eq_getElem?_getD, distRow_at (by omega)]
theorem dist_mono {m : Nat} {ls rs : List Line} (ok : LinesOk m ls) (ok' : LinesOk m rs) (h : ∀ l ∈ ls, ∃ r ∈ rs, lFrom r = lFrom l ∧ lTo r = lTo l ∧ lTravel r ≤ lTravel l) {a b : Int} (a0 : 0 ≤ a) (a1 : a < m) (b0 : 0 ≤ b) (b1 : b < m)
    (hd : 0 ≤ at2 (distF m ls) a b) : 0 ≤ at2 (distF m rs) a b ∧ at2 (distF m rs) a b ≤ at2 (distF m ls) a b := by
  have := ok.n12
  rw [at2_cell a0 a1 b0 b1] at hd
  rw [at2_cell a0 a1 b0 b1, at2_cell a0 a1 b0 b1]
  obtain ⟨n, hn, w⟩ := ((relaxedF_dist ok (show a.toNat < 12 by omega)).toWalk ok _ b.toNat (by omega) hd (Nat.le_refl _)).map h
  have := (relaxedF_dist ok' (show a.toNat < 12 by omega)).walk ok' w
  omega
theorem dist_ends {m : Nat} {ls rs : List Line} (ok : LinesOk m ls) (ok' : LinesOk m rs) (h : ∀ l ∈ ls, ∃ r ∈ rs, lFrom r = lFrom l ∧ lTo r = lTo l) {a b : Int} (a0 : 0 ≤ a) (a1 : a < m) (b0 : 0 ≤ b) (b1 : b < m)
    (hd : 0 ≤ at2 (distF m ls) a b) : 0 ≤ at2 (distF m rs) a b := by
  have := ok.n12
  rw [at2_cell a0 a1 b0 b1] at hd ⊢
  obtain ⟨n, w⟩ := ((relaxedF_dist ok (show a.toNat < 12 by omega)).toWalk ok _ b.toNat (by omega) hd (Nat.le_refl _)).ends h
  exact ((relaxedF_dist ok' (show a.toNat < 12 by omega)).walk ok' w).1
theorem dist2_eq (cs : List (Int × List Bool × List Int)) (ns os : List ByteArray) (fs : List Off) (ls : List Line) (ks : List Cla) (h : noF (cs, ns, os, fs, ls, ks) = true) : dist2 (cs, ns, os, fs, ls, ks) = distF fs.length ls := by unfold dist2; rw [if_pos h]
theorem llaw_mono (cs : List (Int × List Bool × List Int)) (ns os : List ByteArray) (fs : List Off) (ls : List Line) (ks : List Cla) (h : noF (cs, ns, os, fs, ls, ks) = true) {k : Nat} (hk : k < ls.length) {v : Int} (hv : 0 ≤ v) {a b : Int} (a0 : 0 ≤ a) (a1 : a < fs.length) (b0 : 0 ≤ b) (b1 : b < fs.length) :
    (0 ≤ at2 (dist2 (cs, ns, os, fs, ls.take k ++ ls.drop (k + 1), ks)) a b → 0 ≤ at2 (dist2 (cs, ns, os, fs, ls, ks)) a b ∧ at2 (dist2 (cs, ns, os, fs, ls, ks)) a b ≤ at2 (dist2 (cs, ns, os, fs, ls.take k ++ ls.drop (k + 1), ks)) a b) ∧
    (0 ≤ at2 (dist2 (cs, ns, os, fs, slowL ls k v, ks)) a b → 0 ≤ at2 (dist2 (cs, ns, os, fs, ls, ks)) a b ∧ at2 (dist2 (cs, ns, os, fs, ls, ks)) a b ≤ at2 (dist2 (cs, ns, os, fs, slowL ls k v, ks)) a b) ∧
    (0 ≤ at2 (dist2 (cs, ns, os, fs, ls, ks)) a b → 0 ≤ at2 (dist2 (cs, ns, os, fs, slowL ls k v, ks)) a b) := by
  have n1 := noF_less cs ns os fs ls ks h k
  have n2 := noF_slow cs ns os fs ls ks h hk hv
  have o0 := (lines_ok cs ns os fs ls ks h).1
  have o1 := (lines_ok cs ns os fs _ ks n1).1
  have o2 := (lines_ok cs ns os fs _ ks n2).1
  have htr : ∀ l ∈ ls, lTravel l ≤ 5000 := fun l hl => (o0.at_ l hl).2.2.2.2.2.2
  rw [dist2_eq cs ns os fs ls ks h, dist2_eq cs ns os fs _ ks n1, dist2_eq cs ns os fs _ ks n2]
  refine ⟨dist_mono o1 o0 (fun l hl => ⟨l, ?_, rfl, rfl, Int.le_refl _⟩) a0 a1 b0 b1, dist_mono o2 o0 (fun l hl => ?_) a0 a1 b0 b1, dist_ends o0 o2 (fun l hl => ?_) a0 a1 b0 b1⟩
  · rw [← List.eraseIdx_eq_take_drop_succ] at hl
    exact (List.eraseIdx_sublist _ _).subset hl
  · obtain ⟨i, hi, rfl⟩ := List.mem_iff_getElem.1 hl
    have hi' : i < ls.length := by rwa [slowL_len] at hi
    obtain ⟨r, e1, e2, e3, e4, e5, e6, e7, e8⟩ := slowL_at hv hk htr i hi'
    rw [List.getElem?_eq_getElem hi] at e1
    rw [Option.some.inj e1]
    exact ⟨ls[i], List.getElem_mem _, e3.symm, e4.symm, e7⟩
  · obtain ⟨i, hi, rfl⟩ := List.mem_iff_getElem.1 hl
    obtain ⟨r, e1, e2, e3, e4, e5, e6, e7, e8⟩ := slowL_at hv hk htr i hi
    exact ⟨r, List.mem_of_getElem? e1, e3, e4⟩
theorem dist_of (cs : List (Int × List Bool × List Int)) (ns os : List ByteArray) (fs : List Off) (ls : List Line) (ks : List Cla) (h : noF (cs, ns, os, fs, ls, ks) = true) (h0 : 0 < fs.length) : DistOk fs.length ls (dist2 (cs, ns, os, fs, ls, ks)) := by
  rw [dist2_eq cs ns os fs ls ks h]; exact distOk (lines_ok cs ns os fs ls ks h).1 h0
set_option maxRecDepth 20000 in
set_option maxHeartbeats 4000000 in
theorem t_llines (w v : Int) (cs : List (Int × List Bool × List Int)) (ns os : List ByteArray) (fs : List Off) (ls : List Line) (ks : List Cla) : SoundC Tryd.prog G0 6 [net cs ns os fs ls ks, .dat U8 w, .dat U8 v] [] ⟨u8sP w [v], .dat .bool true, []⟩ := by
  refine sound_of_ev (c := mkc K18) KS18' KI0s hm (vc_llines w v cs ns os fs ls ks ⟨rfl, fun hp => ?_⟩)
  obtain ⟨w0, hv⟩ := hp
  have v0 := hv v (by simp)
  simp only [cnd_or, cnd_and, D.and, D.or, D.not, Bool.true_and, Bool.and_true, Bool.false_or, Bool.or_false, eq_self, true_and, and_true, imp_self, implies_true, Bool.not_eq_true', Bool.or_eq_true, Bool.or_eq_false_iff, Bool.not_eq_false', Bool.and_eq_true, Bool.and_eq_false_imp, Bool.not_not, forall_const, exists_eq_right, exists_eq_right', exists_eq_left, exists_eq_left', Int.toNat_natCast, Nat.zero_add, Nat.mul_one, Int.ofNat_eq_natCast, D.nil, D.eq, D.ne, D.lt, D.gt, D.le, D.ge, D.beq, D.ilen, D.slen, D.ile, D.ilt, D.ine, D.nle, D.nlt, D.sub, D.add, D.mul, D.neg, D.nat, D.ofN, D.len, D.nadd, D.nmul, D.get, D.mn, D.mx, D.set, D.app, D.tail, D.part, D.seg, D.rep, D.at2, decide_eq_true_eq, decide_eq_false_iff_not, beq_iff_eq, bne_iff_ne, beq_eq_false_iff_ne, bne_eq_false_iff_eq, List.nil_append, Int.toNat_zero, List.drop_zero]
  intro ⟨hc, hl0⟩
  obtain ⟨_, hnf, dk⟩ := cons_parts cs ns os fs ls ks hc
  have h40 := (lines_ok cs ns os fs ls ks hnf).2
  obtain ⟨k0, k1⟩ := rem_in w0.1 (show (0 : Int) < ls.length by omega)
  have w1 := u8_in w0
  have v1 := u8_in v0
  generalize D.rem w (ls.length : Int) = k at k0 k1 ⊢
  have n1 := noF_less cs ns os fs ls ks hnf k.toNat
  have n2 := noF_slow cs ns os fs ls ks hnf (show k.toNat < ls.length by omega) v0.1
  have ek : (k + 1).toNat = k.toNat + 1 := by omega
  rw [ek]
  have l1 : (ls.take k.toNat).length = k.toNat := by rw [List.length_take]; omega
  have l2 : (ls.drop (k.toNat + 1)).length = ls.length - (k.toNat + 1) := List.length_drop
  have l3 : (ls.take k.toNat ++ ls.drop (k.toNat + 1)).length = k.toNat + (ls.length - (k.toNat + 1)) := by rw [List.length_append, l1, l2]
  have es : ls.set k.toNat ((ls.getD k.toNat (⟨#[]⟩, 0, 0, 0, 0, 0)).1, (ls.getD k.toNat (⟨#[]⟩, 0, 0, 0, 0, 0)).2.1, (ls.getD k.toNat (⟨#[]⟩, 0, 0, 0, 0, 0)).2.2.1, (ls.getD k.toNat (⟨#[]⟩, 0, 0, 0, 0, 0)).2.2.2.1, min 5000 ((ls.getD k.toNat (⟨#[]⟩, 0, 0, 0, 0, 0)).2.2.2.2.1 + v), (ls.getD k.toNat (⟨#[]⟩, 0, 0, 0, 0, 0)).2.2.2.2.2) = slowL ls k.toNat v := rfl
  have l4 := slowL_len ls k.toNat v
  rw [es]
  simp only [l1, l2, l3, l4]
  have hpos := dk.pos
  have h12 := dk.m12
  have d1 := dist_of cs ns os fs _ ks n1 hpos
  have d2 := dist_of cs ns os fs _ ks n2 hpos
  have mono := fun a b a0 a1 b0 b1 => llaw_mono cs ns os fs ls ks hnf (show k.toNat < ls.length by omega) v0.1 (a := a) (b := b) a0 a1 b0 b1
  have hl : ls.getD k.toNat (⟨#[]⟩, 0, 0, 0, 0, 0) ∈ ls := by
    rw [List.getD_eq_getElem?_getD, List.getElem?_eq_getElem (by omega), Option.getD_some]
    exact List.getElem_mem _
  have hdl : ∀ l ∈ ls, 0 ≤ l.2.1 ∧ l.2.1 < fs.length ∧ 0 ≤ l.2.2.1 ∧ l.2.2.1 < fs.length ∧ l.2.1 ≠ l.2.2.1 ∧ 1 ≤ l.2.2.2.2.1 ∧ l.2.2.2.2.1 ≤ 5000 := dk.ok.at_
  have hline := dk.line _ (hdl _ hl).1 (hdl _ hl).2.1 _ hl
  have hself := dk.self _ (hdl _ hl).1 (hdl _ hl).2.1
  have hb := hdl _ hl
  simp only [at2_fold]
  unfold lFrom lTo lTravel at hline
  generalize ls.getD k.toNat (⟨#[]⟩, 0, 0, 0, 0, 0) = l at hline hself hb ⊢
  obtain ⟨f0, f1, t0, t1, _, v2, v3⟩ := hb
  rw [hself] at hline
  have hline := hline (Int.le_refl _)
  simp only [dk.sq, d1.sq, d2.sq]
  generalize dist2 (cs, ns, os, fs, ls, ks) = d at dk mono hline hself ⊢
  generalize dist2 (cs, ns, os, fs, ls.take k.toNat ++ ls.drop (k.toNat + 1), ks) = e at d1 mono ⊢
  generalize dist2 (cs, ns, os, fs, slowL ls k.toNat v, ks) = f at d2 mono ⊢
  have ld := dk.len
  have le := d1.len
  have lf := d2.len
  have z : upN 0 (fs.length : Int) := ⟨Int.le_refl _, Int.natCast_nonneg _⟩
  have hok : okInt (fs.length : Int) := (show (fs.length : Int) ≤ 1000000 by omega)
  have vv := v0
  have vw := w0
  unfold u8P at vv vw
  have la := dk.row _ f0 f1
  and_intros
  all_goals try (with_reducible exact hok)
  all_goals try (with_reducible exact fun _ => hok)
  all_goals try (with_reducible exact True.intro)
  all_goals try (with_reducible exact List.length_nil)
  all_goals try omega
  all_goals try (intros; omega)
  · intro h
    rcases h with ((h | h) | h) | h
    · cases h
    · cases h
    · cases h
    · omega
  · intro ⟨_, hle⟩
    refine ⟨z, fun a ⟨a0, a1⟩ ha => ⟨z, fun b ⟨b0, b1⟩ => ⟨fun hb => ?_, fun hb => ?_⟩⟩⟩
    · obtain ⟨m1, m2, m3⟩ := mono a b a0 ha b0 hb
      have r0 := dk.row a a0 ha
      have r1 := d1.row a a0 ha
      have r2 := d2.row a a0 ha
      generalize at2 d a b = p at m1 m2 m3 ⊢
      generalize at2 e a b = q at m1 m2 m3 ⊢
      generalize at2 f a b = r at m1 m2 m3 ⊢
      generalize (d.getD a.toNat []).length = rd at r0 ⊢
      generalize (e.getD a.toNat []).length = re at r1 ⊢
      generalize (f.getD a.toNat []).length = rf at r2 ⊢
      clear dk d1 d2 mono hdl
      and_intros
      all_goals try omega
      all_goals try (intros; omega)
      exact fun _ => ⟨in_small (by omega), b + 1, ⟨by omega, by omega⟩, rfl, by omega⟩
    · exact ⟨in_small (by omega), a + 1, ⟨by omega, by omega⟩, rfl, by omega⟩

end Go.Eng.Sv
