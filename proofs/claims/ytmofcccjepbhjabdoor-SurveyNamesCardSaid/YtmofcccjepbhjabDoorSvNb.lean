/- PeSvNb -/
import Derived.Test.YtmofcccjepbhjabDoorW22
import Derived.Test.YtmofcccjepbhjabDoorSvOb
set_option linter.unusedSimpArgs false
set_option linter.unusedVariables false
set_option maxRecDepth 100000
namespace Go.Eng.Sv
open Go.Proofs
noncomputable def nameX (i : Int) : ByteArray := D.sApp (⟨#[120, 95]⟩) (D.ofBytes [97 + i])
noncomputable def nameY (i : Int) : ByteArray := D.sApp (D.sApp (⟨#[121]⟩) (D.ofBytes [97 + i.tdiv 26, 97 + i.tmod 26])) (⟨#[95]⟩)
noncomputable def xN (k : Int) : List ByteArray := (List.range k.toNat).map fun i : Nat => nameX i
noncomputable def offN (fs : List Off) (k : Int) : List Off := (List.range fs.length).map fun i : Nat => (if (i : Int) < k then nameX i else (fs.getD i (⟨#[]⟩, 0, 0, 0, 0, 0, [])).1, (fs.getD i (⟨#[]⟩, 0, 0, 0, 0, 0, [])).2)
noncomputable def linN (ls : List Line) (k : Int) : List Line := (List.range ls.length).map fun i : Nat => (if (i : Int) < k then nameY i else (ls.getD i (⟨#[]⟩, 0, 0, 0, 0, 0)).1, (ls.getD i (⟨#[]⟩, 0, 0, 0, 0, 0)).2)
noncomputable def lnamesA (cs : List (Int × List Bool × List Int)) (ns os : List ByteArray) (fs : List Off) (ls : List Line) (ks : List Cla) : Ann := ⟨fun id s => match id with
  | 10 => some { α := Int, inv := fun k => upN k (D.ilen ns), st := fun k => putM (putM (put s [(7, .dat I k)]) 100 (.buf 9 S (xN k) [])) 0 (.var [.dat (.sl C) cs, .buf 100 (D.len (xN k)), .val (.slice none 0 0), .buf 1 (D.len fs), .buf 2 (D.len ls), .dat (.sl Kl) ks]), μ := fun k => D.nat (D.sub (D.ilen ns) k) }
  | 14 => some { α := Int, inv := fun k => upN k (D.ilen os), st := fun k => putM (putM (putM (put s [(8, .dat I k)]) 100 (.buf 9 S (xN (D.ilen ns)) [])) 101 (.buf 44 S (xN k) [])) 0 (.var [.dat (.sl C) cs, .buf 100 (D.len (xN (D.ilen ns))), .buf 101 (D.len (xN k)), .buf 1 (D.len fs), .buf 2 (D.len ls), .dat (.sl Kl) ks]), μ := fun k => D.nat (D.sub (D.ilen os) k) }
  | 18 => some { α := Int, inv := fun k => upN k (D.ilen fs), st := fun k => putM (put s [(9, .dat I k)]) 1 (.buf 35 Of (offN fs k) []), μ := fun k => D.nat (D.sub (D.ilen fs) k) }
  | 22 => some { α := Int, inv := fun k => upN k (D.ilen ls), st := fun k => putM (put s [(10, .dat I k)]) 2 (.buf 40 Ln (linN ls k) []), μ := fun k => D.nat (D.sub (D.ilen ls) k) }
  | _ => none, fun id s => match id with
  | 25 => some (put (frz [100, 101, 1, 2] s) [(19, .top), (22, .top), (24, .top), (27, .top)])
  | _ => none, fun _ _ => none⟩
set_option maxRecDepth 100000 in
theorem vc_lnames (so sl : Int) (cs : List (Int × List Bool × List Int)) (ns os : List ByteArray) (fs : List Off) (ls : List Line) (ks : List Cla) (hvc :
    let c1 := (ls, ks);
    let c2 := (fs, c1);
    let c3 := (os, c2);
    let c4 := (ns, c3);
    let c5 := (cs, c4);
    let c6 := consF c5;
    let c7 := D.not c6;
    let c8 := D.len fs;
    let c9 := D.nadd (0) c8;
    let c10 := D.app (D.nil (ByteArray × Int × Int × Int × Int × Int × List ByteArray)) fs;
    let c11 := D.len ls;
    let c12 := D.nadd (0) c11;
    let c13 := D.app (D.nil (ByteArray × Int × Int × Int × Int × Int)) ls;
    let c14 := (so, sl);
    let c15 := D.len (xN (D.ilen ns));
    let c16 := D.ilen fs;
    let c17 := Int.ofNat c8;
    let c18 := D.ilen ls;
    let c19 := Int.ofNat c11;
    let c20 := D.ilen (checkF c5);
    let c21 := dist2 c5; true = true ∧ (True → True ∧ True ∧ (c7 = true → true = true ∧ True) ∧ (c7 = false → 1 = 1 ∧ 0 = 0 ∧ 1 = 1 ∧ 1 = 1 ∧ 0 = 0 ∧ 1 = 1 ∧ 1 = 1
     ∧ 0 = 0 ∧ D.len (D.nil (ByteArray × Int × Int × Int × Int × Int × List ByteArray)) = 0 ∧ D.nle (D.nmul c9 (80)) (140737488355328) ∧ D.nle c9
     (9223372036854775807) ∧ 1 = 1 ∧ 1 = 1 ∧ 0 = 0 ∧ D.len c10 = c9 ∧ D.len (D.nil (ByteArray × Int × Int × Int × Int × Int)) = 0 ∧ D.nle (D.nmul c12 (56))
     (140737488355328) ∧ D.nle c12 (9223372036854775807) ∧ 1 = 1 ∧ 1 = 1 ∧ 0 = 0 ∧ D.len c13 = c12 ∧ (∃ x, upN x (D.ilen ns) ∧ cs = cs ∧ ns = ns ∧ os = os ∧ fs = fs
     ∧ ls = ls ∧ ks = ks ∧ so = so ∧ sl = sl ∧ c5 = c5 ∧ c14 = c14 ∧ false = false ∧ true = true ∧ 1 = 1 ∧ 0 = 0 ∧ 0 = 0 ∧ (0 : Int) = x ∧ true = true ∧ cs = cs ∧
     ns = ns ∧ os = os ∧ fs = fs ∧ ls = ls ∧ ks = ks ∧ c6 = c6 ∧ c7 = c7 ∧ cs = cs ∧ ns = ns ∧ os = os ∧ fs = fs ∧ ls = ls ∧ ks = ks ∧ 1 = 1 ∧ 0 = 0 ∧ 1 = 1 ∧ 1 = 1
     ∧ 0 = 0 ∧ 2 = 2 ∧ 0 = 0 ∧ c2 = c2 ∧ fs = fs ∧ c9 = c9 ∧ 1 = 1 ∧ 0 = 0 ∧ 3 = 3 ∧ 0 = 0 ∧ c1 = c1 ∧ ls = ls ∧ c12 = c12 ∧ 1 = 1 ∧ 0 = 0 ∧ 4 = 4 ∧ cs = cs ∧ D.len
     (xN x) = 0 ∧ xN x = D.nil ByteArray ∧ Value.slice none (0) (0) = Value.slice none (0) (0) ∧ c9 = c8 ∧ c12 = c11 ∧ ks = ks ∧ c10 = c10 ∧ c13 = c13 ∧ xN x =
     D.nil ByteArray ∧ True) ∧ ∀ (x : Int),
    let c22 := D.lt x (D.ilen ns);
    let c23 := D.add (97 : Int) x;
    let c24 := D.ofBytes [c23];
    let c25 := [D.sApp (ByteArray.mk #[(120 : UInt8), (95 : UInt8)]) c24];
    let c26 := D.nadd (D.len (xN x)) (D.len c25);
    let c27 := D.app (xN x) c25;
    let c28 := D.add x (1 : Int); upN x (D.ilen ns) → (c22 = true → 1 = 1 ∧ 1 = 1 ∧ 0 = 0 ∧ inR IntKind.i64 c23 ∧ inR IntKind.u8 c23 ∧ D.strFits (ByteArray.mk
     #[(120 : UInt8), (95 : UInt8)]) c24 ∧ D.len (xN x) = D.len (xN x) ∧ D.nle (D.nmul c26 (16)) (140737488355328) ∧ D.nle c26 (9223372036854775807) ∧ 1 = 1 ∧ 1 = 1
     ∧ 0 = 0 ∧ D.len c27 = c26 ∧ inR IntKind.i64 c28 ∧ ∃ y, upN y (D.ilen ns) ∧ (cs = cs ∧ ns = ns ∧ os = os ∧ fs = fs ∧ ls = ls ∧ ks = ks ∧ so = so ∧ sl = sl ∧ c5
     = c5 ∧ c14 = c14 ∧ false = false ∧ true = true ∧ 1 = 1 ∧ 0 = 0 ∧ 0 = 0 ∧ c28 = y ∧ true = true ∧ cs = cs ∧ ns = ns ∧ os = os ∧ fs = fs ∧ ls = ls ∧ ks = ks ∧ c6
     = c6 ∧ c7 = c7 ∧ cs = cs ∧ ns = ns ∧ os = os ∧ fs = fs ∧ ls = ls ∧ ks = ks ∧ 1 = 1 ∧ 0 = 0 ∧ 1 = 1 ∧ 1 = 1 ∧ 0 = 0 ∧ 2 = 2 ∧ 0 = 0 ∧ c2 = c2 ∧ fs = fs ∧ c9 =
     c9 ∧ 1 = 1 ∧ 0 = 0 ∧ 3 = 3 ∧ 0 = 0 ∧ c1 = c1 ∧ ls = ls ∧ c12 = c12 ∧ 1 = 1 ∧ 0 = 0 ∧ 4 = 4 ∧ cs = cs ∧ c26 = D.len (xN y) ∧ Value.slice none (0) (0) =
     Value.slice none (0) (0) ∧ c8 = c8 ∧ c11 = c11 ∧ ks = ks ∧ c10 = c10 ∧ c13 = c13 ∧ c27 = xN y ∧ True) ∧ D.nlt (D.nat (D.sub (D.ilen ns) y)) (D.nat (D.sub
     (D.ilen ns) x))) ∧ (c22 = false → (∃ x_3, upN x_3 (D.ilen os) ∧ cs = cs ∧ ns = ns ∧ os = os ∧ fs = fs ∧ ls = ls ∧ ks = ks ∧ so = so ∧ sl = sl ∧ c5 = c5 ∧ c14 =
     c14 ∧ false = false ∧ true = true ∧ 1 = 1 ∧ 0 = 0 ∧ 0 = 0 ∧ x = x ∧ (0 : Int) = x_3 ∧ true = true ∧ cs = cs ∧ ns = ns ∧ os = os ∧ fs = fs ∧ ls = ls ∧ ks = ks ∧
     c6 = c6 ∧ c7 = c7 ∧ cs = cs ∧ ns = ns ∧ os = os ∧ fs = fs ∧ ls = ls ∧ ks = ks ∧ 1 = 1 ∧ 0 = 0 ∧ 1 = 1 ∧ 1 = 1 ∧ 0 = 0 ∧ 2 = 2 ∧ 0 = 0 ∧ c2 = c2 ∧ fs = fs ∧ c9
     = c9 ∧ 1 = 1 ∧ 0 = 0 ∧ 3 = 3 ∧ 0 = 0 ∧ c1 = c1 ∧ ls = ls ∧ c12 = c12 ∧ 1 = 1 ∧ 0 = 0 ∧ 4 = 4 ∧ x = x ∧ c4 = c4 ∧ ns = ns ∧ D.ilen ns = D.ilen ns ∧ c22 = c22 ∧
     cs = cs ∧ D.len (xN x) = c15 ∧ D.len (xN x_3) = 0 ∧ xN x_3 = D.nil ByteArray ∧ c8 = c8 ∧ c11 = c11 ∧ ks = ks ∧ c10 = c10 ∧ c13 = c13 ∧ xN x = xN (D.ilen ns) ∧
     xN x_3 = D.nil ByteArray ∧ True) ∧ ∀ (x_3 : Int),
    let c29 := D.lt x_3 (D.ilen os);
    let c30 := D.add (97 : Int) x_3;
    let c31 := D.ofBytes [c30];
    let c32 := [D.sApp (ByteArray.mk #[(120 : UInt8), (95 : UInt8)]) c31];
    let c33 := D.nadd (D.len (xN x_3)) (D.len c32);
    let c34 := D.app (xN x_3) c32;
    let c35 := D.add x_3 (1 : Int); upN x_3 (D.ilen os) → (c29 = true → 1 = 1 ∧ 1 = 1 ∧ 0 = 0 ∧ inR IntKind.i64 c30 ∧ inR IntKind.u8 c30 ∧ D.strFits (ByteArray.mk
     #[(120 : UInt8), (95 : UInt8)]) c31 ∧ D.len (xN x_3) = D.len (xN x_3) ∧ D.nle (D.nmul c33 (16)) (140737488355328) ∧ D.nle c33 (9223372036854775807) ∧ 1 = 1 ∧ 1
     = 1 ∧ 0 = 0 ∧ D.len c34 = c33 ∧ inR IntKind.i64 c35 ∧ ∃ y, upN y (D.ilen os) ∧ (cs = cs ∧ ns = ns ∧ os = os ∧ fs = fs ∧ ls = ls ∧ ks = ks ∧ so = so ∧ sl = sl ∧
     c5 = c5 ∧ c14 = c14 ∧ false = false ∧ true = true ∧ 1 = 1 ∧ 0 = 0 ∧ 0 = 0 ∧ x = x ∧ c35 = y ∧ true = true ∧ cs = cs ∧ ns = ns ∧ os = os ∧ fs = fs ∧ ls = ls ∧
     ks = ks ∧ c6 = c6 ∧ c7 = c7 ∧ cs = cs ∧ ns = ns ∧ os = os ∧ fs = fs ∧ ls = ls ∧ ks = ks ∧ 1 = 1 ∧ 0 = 0 ∧ 1 = 1 ∧ 1 = 1 ∧ 0 = 0 ∧ 2 = 2 ∧ 0 = 0 ∧ c2 = c2 ∧ fs
     = fs ∧ c9 = c9 ∧ 1 = 1 ∧ 0 = 0 ∧ 3 = 3 ∧ 0 = 0 ∧ c1 = c1 ∧ ls = ls ∧ c12 = c12 ∧ 1 = 1 ∧ 0 = 0 ∧ 4 = 4 ∧ x = x ∧ c4 = c4 ∧ ns = ns ∧ D.ilen ns = D.ilen ns ∧
     c22 = c22 ∧ cs = cs ∧ c15 = c15 ∧ c33 = D.len (xN y) ∧ c8 = c8 ∧ c11 = c11 ∧ ks = ks ∧ c10 = c10 ∧ c13 = c13 ∧ xN (D.ilen ns) = xN (D.ilen ns) ∧ c34 = xN y ∧
     True) ∧ D.nlt (D.nat (D.sub (D.ilen os) y)) (D.nat (D.sub (D.ilen os) x_3))) ∧ (c29 = false → (∃ x_6, upN x_6 c16 ∧ cs = cs ∧ ns = ns ∧ os = os ∧ fs = fs ∧ ls
     = ls ∧ ks = ks ∧ so = so ∧ sl = sl ∧ c5 = c5 ∧ c14 = c14 ∧ false = false ∧ true = true ∧ 1 = 1 ∧ 0 = 0 ∧ 0 = 0 ∧ x = x ∧ x_3 = x_3 ∧ (0 : Int) = x_6 ∧ true =
     true ∧ cs = cs ∧ ns = ns ∧ os = os ∧ fs = fs ∧ ls = ls ∧ ks = ks ∧ c6 = c6 ∧ c7 = c7 ∧ cs = cs ∧ ns = ns ∧ os = os ∧ fs = fs ∧ ls = ls ∧ ks = ks ∧ 1 = 1 ∧ 0 =
     0 ∧ 1 = 1 ∧ 1 = 1 ∧ 0 = 0 ∧ 2 = 2 ∧ 0 = 0 ∧ c2 = c2 ∧ fs = fs ∧ c9 = c9 ∧ 1 = 1 ∧ 0 = 0 ∧ 3 = 3 ∧ 0 = 0 ∧ c1 = c1 ∧ ls = ls ∧ c12 = c12 ∧ 1 = 1 ∧ 0 = 0 ∧ 4 = 4
     ∧ x = x ∧ c4 = c4 ∧ ns = ns ∧ D.ilen ns = D.ilen ns ∧ c22 = c22 ∧ x_3 = x_3 ∧ c3 = c3 ∧ os = os ∧ D.ilen os = D.ilen os ∧ c29 = c29 ∧ cs = cs ∧ c15 = c15 ∧
     D.len (xN x_3) = D.len (xN x_3) ∧ c8 = c8 ∧ c11 = c11 ∧ ks = ks ∧ c10 = offN fs x_6 ∧ c13 = c13 ∧ xN (D.ilen ns) = xN (D.ilen ns) ∧ xN x_3 = xN x_3 ∧ True) ∧ ∀
     (x_6 : Int),
    let c36 := D.len (offN fs x_6);
    let c37 := D.add (97 : Int) x_6;
    let c38 := D.ofBytes [c37];
    let c39 := D.add x_6 (1 : Int);
    let c40 := (D.get (offN fs x_6) (D.nat x_6) (ByteArray.mk (D.nil UInt8).toArray, (0 : Int), (0 : Int), (0 : Int), (0 : Int), (0 : Int), D.nil ByteArray)).snd;
    let c41 := c40.snd;
    let c42 := c41.snd;
    let c43 := c42.snd;
    let c44 := c43.snd; upN x_6 c16 → 1 = 1 ∧ 1 = 1 ∧ 0 = 0 ∧ c36 = c8 ∧ (D.lt x_6 c17 = true → 1 = 1 ∧ 1 = 1 ∧ 0 = 0 ∧ inR IntKind.i64 c37 ∧ inR IntKind.u8 c37 ∧
     D.strFits (ByteArray.mk #[(120 : UInt8), (95 : UInt8)]) c38 ∧ c36 = c8 ∧ D.ile (0 : Int) x_6 ∧ D.ilt x_6 (D.ofN c36) ∧ c36 = c8 ∧ c36 = c8 ∧ inR IntKind.i64
     c39 ∧ ∃ y, upN y c16 ∧ (cs = cs ∧ ns = ns ∧ os = os ∧ fs = fs ∧ ls = ls ∧ ks = ks ∧ so = so ∧ sl = sl ∧ c5 = c5 ∧ c14 = c14 ∧ false = false ∧ true = true ∧ 1 =
     1 ∧ 0 = 0 ∧ 0 = 0 ∧ x = x ∧ x_3 = x_3 ∧ c39 = y ∧ true = true ∧ cs = cs ∧ ns = ns ∧ os = os ∧ fs = fs ∧ ls = ls ∧ ks = ks ∧ c6 = c6 ∧ c7 = c7 ∧ cs = cs ∧ ns =
     ns ∧ os = os ∧ fs = fs ∧ ls = ls ∧ ks = ks ∧ 1 = 1 ∧ 0 = 0 ∧ 1 = 1 ∧ 1 = 1 ∧ 0 = 0 ∧ 2 = 2 ∧ 0 = 0 ∧ c2 = c2 ∧ fs = fs ∧ c9 = c9 ∧ 1 = 1 ∧ 0 = 0 ∧ 3 = 3 ∧ 0 =
     0 ∧ c1 = c1 ∧ ls = ls ∧ c12 = c12 ∧ 1 = 1 ∧ 0 = 0 ∧ 4 = 4 ∧ x = x ∧ c4 = c4 ∧ ns = ns ∧ D.ilen ns = D.ilen ns ∧ c22 = c22 ∧ x_3 = x_3 ∧ c3 = c3 ∧ os = os ∧
     D.ilen os = D.ilen os ∧ c29 = c29 ∧ cs = cs ∧ c15 = c15 ∧ D.len (xN x_3) = D.len (xN x_3) ∧ c8 = c8 ∧ c11 = c11 ∧ ks = ks ∧ D.set (offN fs x_6) (D.nat x_6)
     (D.sApp (ByteArray.mk #[(120 : UInt8), (95 : UInt8)]) c38, c40.fst, c41.fst, c42.fst, c43.fst, c44.fst, c44.snd) = offN fs y ∧ c13 = c13 ∧ xN (D.ilen ns) = xN
     (D.ilen ns) ∧ xN x_3 = xN x_3 ∧ True) ∧ D.nlt (D.nat (D.sub c16 y)) (D.nat (D.sub c16 x_6))) ∧ (D.lt x_6 c17 = false → (∃ x_9, upN x_9 c18 ∧ cs = cs ∧ ns = ns
     ∧ os = os ∧ fs = fs ∧ ls = ls ∧ ks = ks ∧ so = so ∧ sl = sl ∧ c5 = c5 ∧ c14 = c14 ∧ false = false ∧ true = true ∧ 1 = 1 ∧ 0 = 0 ∧ 0 = 0 ∧ x = x ∧ x_3 = x_3 ∧
     x_6 = x_6 ∧ (0 : Int) = x_9 ∧ true = true ∧ cs = cs ∧ ns = ns ∧ os = os ∧ fs = fs ∧ ls = ls ∧ ks = ks ∧ c6 = c6 ∧ c7 = c7 ∧ cs = cs ∧ ns = ns ∧ os = os ∧ fs =
     fs ∧ ls = ls ∧ ks = ks ∧ 1 = 1 ∧ 0 = 0 ∧ 1 = 1 ∧ 1 = 1 ∧ 0 = 0 ∧ 2 = 2 ∧ 0 = 0 ∧ c2 = c2 ∧ fs = fs ∧ c9 = c9 ∧ 1 = 1 ∧ 0 = 0 ∧ 3 = 3 ∧ 0 = 0 ∧ c1 = c1 ∧ ls =
     ls ∧ c12 = c12 ∧ 1 = 1 ∧ 0 = 0 ∧ 4 = 4 ∧ x = x ∧ c4 = c4 ∧ ns = ns ∧ D.ilen ns = D.ilen ns ∧ c22 = c22 ∧ x_3 = x_3 ∧ c3 = c3 ∧ os = os ∧ D.ilen os = D.ilen os
     ∧ c29 = c29 ∧ x_6 = x_6 ∧ 1 = 1 ∧ 0 = 0 ∧ 3 = 3 ∧ c8 = c8 ∧ c17 = c17 ∧ D.lt x_6 c17 = D.lt x_6 c17 ∧ cs = cs ∧ c15 = c15 ∧ D.len (xN x_3) = D.len (xN x_3) ∧
     c8 = c8 ∧ c11 = c11 ∧ ks = ks ∧ offN fs x_6 = offN fs x_6 ∧ c13 = linN ls x_9 ∧ xN (D.ilen ns) = xN (D.ilen ns) ∧ xN x_3 = xN x_3 ∧ True) ∧ ∀ (x_9 : Int),
    let c45 := D.len (linN ls x_9);
    let c46 := D.quo x_9 (26 : Int);
    let c47 := D.add (97 : Int) c46;
    let c48 := D.add (97 : Int) (D.rem x_9 (26 : Int));
    let c49 := D.ofBytes [c47, c48];
    let c50 := D.sApp (ByteArray.mk #[(121 : UInt8)]) c49;
    let c51 := D.add x_9 (1 : Int);
    let c52 := (D.get (linN ls x_9) (D.nat x_9) (ByteArray.mk (D.nil UInt8).toArray, (0 : Int), (0 : Int), (0 : Int), (0 : Int), (0 : Int))).snd;
    let c53 := c52.snd;
    let c54 := c53.snd;
    let c55 := c54.snd;
    let c56 := (cs, xN (D.ilen ns), xN x_3, offN fs x_6, linN ls x_9, ks);
    let c57 := D.cnd true (D.eq (D.ilen (checkF c56)) c20) false;
    let c58 := dist2 c56;
    let c59 := D.cnd c57 (sameR c58 c21) false; upN x_9 c18 → 1 = 1 ∧ 1 = 1 ∧ 0 = 0 ∧ c45 = c11 ∧ (D.lt x_9 c19 = true → 1 = 1 ∧ 1 = 1 ∧ 0 = 0 ∧ D.ine (26 : Int) (0
     : Int) ∧ inR IntKind.i64 c46 ∧ inR IntKind.i64 c47 ∧ inR IntKind.u8 c47 ∧ D.ine (26 : Int) (0 : Int) ∧ inR IntKind.i64 c48 ∧ inR IntKind.u8 c48 ∧ D.strFits
     (ByteArray.mk #[(121 : UInt8)]) c49 ∧ D.strFits c50 (ByteArray.mk #[(95 : UInt8)]) ∧ c45 = c11 ∧ D.ile (0 : Int) x_9 ∧ D.ilt x_9 (D.ofN c45) ∧ c45 = c11 ∧ c45
     = c11 ∧ inR IntKind.i64 c51 ∧ ∃ y, upN y c18 ∧ (cs = cs ∧ ns = ns ∧ os = os ∧ fs = fs ∧ ls = ls ∧ ks = ks ∧ so = so ∧ sl = sl ∧ c5 = c5 ∧ c14 = c14 ∧ false =
     false ∧ true = true ∧ 1 = 1 ∧ 0 = 0 ∧ 0 = 0 ∧ x = x ∧ x_3 = x_3 ∧ x_6 = x_6 ∧ c51 = y ∧ true = true ∧ cs = cs ∧ ns = ns ∧ os = os ∧ fs = fs ∧ ls = ls ∧ ks = ks
     ∧ c6 = c6 ∧ c7 = c7 ∧ cs = cs ∧ ns = ns ∧ os = os ∧ fs = fs ∧ ls = ls ∧ ks = ks ∧ 1 = 1 ∧ 0 = 0 ∧ 1 = 1 ∧ 1 = 1 ∧ 0 = 0 ∧ 2 = 2 ∧ 0 = 0 ∧ c2 = c2 ∧ fs = fs ∧
     c9 = c9 ∧ 1 = 1 ∧ 0 = 0 ∧ 3 = 3 ∧ 0 = 0 ∧ c1 = c1 ∧ ls = ls ∧ c12 = c12 ∧ 1 = 1 ∧ 0 = 0 ∧ 4 = 4 ∧ x = x ∧ c4 = c4 ∧ ns = ns ∧ D.ilen ns = D.ilen ns ∧ c22 = c22
     ∧ x_3 = x_3 ∧ c3 = c3 ∧ os = os ∧ D.ilen os = D.ilen os ∧ c29 = c29 ∧ x_6 = x_6 ∧ 1 = 1 ∧ 0 = 0 ∧ 3 = 3 ∧ c8 = c8 ∧ c17 = c17 ∧ D.lt x_6 c17 = D.lt x_6 c17 ∧
     cs = cs ∧ c15 = c15 ∧ D.len (xN x_3) = D.len (xN x_3) ∧ c8 = c8 ∧ c11 = c11 ∧ ks = ks ∧ offN fs x_6 = offN fs x_6 ∧ D.set (linN ls x_9) (D.nat x_9) (D.sApp c50
     (ByteArray.mk #[(95 : UInt8)]), c52.fst, c53.fst, c54.fst, c55.fst, c55.snd) = linN ls y ∧ xN (D.ilen ns) = xN (D.ilen ns) ∧ xN x_3 = xN x_3 ∧ True) ∧ D.nlt
     (D.nat (D.sub c18 y)) (D.nat (D.sub c18 x_9))) ∧ (D.lt x_9 c19 = false → cs = cs ∧ ns = ns ∧ os = os ∧ fs = fs ∧ ls = ls ∧ ks = ks ∧ so = so ∧ sl = sl ∧ c5 =
     c5 ∧ c14 = c14 ∧ false = false ∧ true = true ∧ 1 = 1 ∧ 0 = 0 ∧ 0 = 0 ∧ x = x ∧ x_3 = x_3 ∧ x_6 = x_6 ∧ x_9 = x_9 ∧ true = true ∧ cs = cs ∧ ns = ns ∧ os = os ∧
     fs = fs ∧ ls = ls ∧ ks = ks ∧ c6 = c6 ∧ c7 = c7 ∧ cs = cs ∧ ns = ns ∧ os = os ∧ fs = fs ∧ ls = ls ∧ ks = ks ∧ 1 = 1 ∧ 0 = 0 ∧ 1 = 1 ∧ 1 = 1 ∧ 0 = 0 ∧ 2 = 2 ∧
     c2 = c2 ∧ fs = fs ∧ 1 = 1 ∧ 0 = 0 ∧ 3 = 3 ∧ c1 = c1 ∧ ls = ls ∧ 1 = 1 ∧ 0 = 0 ∧ 4 = 4 ∧ x = x ∧ c4 = c4 ∧ ns = ns ∧ D.ilen ns = D.ilen ns ∧ c22 = c22 ∧ x_3 =
     x_3 ∧ c3 = c3 ∧ os = os ∧ D.ilen os = D.ilen os ∧ c29 = c29 ∧ x_6 = x_6 ∧ 1 = 1 ∧ 0 = 0 ∧ 3 = 3 ∧ c36 = c8 ∧ offN fs x_6 = offN fs x_6 ∧ c17 = c17 ∧ D.lt x_6
     c17 = D.lt x_6 c17 ∧ x_9 = x_9 ∧ 1 = 1 ∧ 0 = 0 ∧ 4 = 4 ∧ c45 = c11 ∧ linN ls x_9 = linN ls x_9 ∧ c19 = c19 ∧ D.lt x_9 c19 = D.lt x_9 c19 ∧ cs = cs ∧ c15 = c15
     ∧ xN (D.ilen ns) = xN (D.ilen ns) ∧ D.len (xN x_3) = D.len (xN x_3) ∧ xN x_3 = xN x_3 ∧ c36 = c8 ∧ offN fs x_6 = offN fs x_6 ∧ c45 = c11 ∧ linN ls x_9 = linN
     ls x_9 ∧ ks = ks ∧ (true = true → 1 = 1) ∧ (true = true → 0 = 0) ∧ (true = true → true = true → true = true) ∧ (true = true → True) ∧ (true = true → true =
     true → true = true) ∧ (true = true → true = true → true = true) ∧ (true = true → True) ∧ (true = true → true = true → true = true) ∧ (true = true → true = true
     → true = true) ∧ (true = true → true = true → true = true) ∧ (D.and true true = true → true = true) ∧ (c57 = true → 1 = 1) ∧ (c57 = true → 0 = 0) ∧ (c57 = true
     → c57 = true → c57 = true) ∧ (c57 = true → True) ∧ (c57 = true → c57 = true → c57 = true) ∧ (c57 = true → True) ∧ (c57 = true → c57 = true → c57 = true) ∧ (c57
     = true → c57 = true → c57 = true) ∧ (c57 = true → mild c58) ∧ (D.and true c57 = true → c57 = true) ∧ (c59 = true → 1 = 1) ∧ (c59 = true → 0 = 0) ∧ (c59 = true
     → c59 = true → c59 = true) ∧ (c59 = true → c59 = true → c59 = true) ∧ (c59 = true → True) ∧ (c59 = true → c59 = true → c59 = true) ∧ (c59 = true → c59 = true →
     c59 = true) ∧ (c59 = true → True) ∧ (c59 = true → c59 = true → c59 = true) ∧ (c59 = true → c59 = true → c59 = true) ∧ (D.and true c59 = true → c59 = true) ∧
     D.cnd c59 (D.eq (ownerF c56 so sl) (ownerF c5 so sl)) false = true ∧ True))))))) :
    evF (mkc K18) (lnamesA cs ns os fs ls ks) 5 [net cs ns os fs ls ks, .agg [.dat I so, .dat I sl]] [] ⟨True, .dat .bool true, []⟩ := of_eq (by kernel_rfl) hvc

theorem nx_ok : ((List.range 12).all fun i : Nat => isNameF (nameX i) && (List.range i).all fun j : Nat => !((nameX j).toList == (nameX i).toList)) = true := by decide +kernel
theorem ny_ok : ((List.range 40).all fun i : Nat => isNameF (nameY i) && (List.range i).all fun j : Nat => !((nameY j).toList == (nameY i).toList)) = true := by decide +kernel
theorem names_ok {nm : Int → ByteArray} {M : Nat} (h : ((List.range M).all fun i : Nat => isNameF (nm i) && (List.range i).all fun j : Nat => !((nm j).toList == (nm i).toList)) = true) {N : Nat} (hN : N ≤ M) :
    (∀ x ∈ (List.range N).map fun i : Nat => nm i, isNameF x = true) ∧ ((List.range N).map fun i : Nat => nm i).Pairwise (fun a b => a.toList ≠ b.toList) := by
  rw [List.all_eq_true] at h
  refine ⟨fun x hx => ?_, ?_⟩
  · obtain ⟨i, hi, rfl⟩ := List.mem_map.1 hx
    have := h i (List.mem_range.2 (by have := List.mem_range.1 hi; omega))
    rw [Bool.and_eq_true] at this
    exact this.1
  · rw [List.pairwise_iff_getElem]
    intro i j hi hj hij
    rw [List.length_map, List.length_range] at hi hj
    rw [List.getElem_map, List.getElem_map, List.getElem_range, List.getElem_range]
    have := h j (List.mem_range.2 (by omega))
    rw [Bool.and_eq_true, List.all_eq_true] at this
    have := this.2 i (List.mem_range.2 hij)
    intro e
    rw [e, beq_self_eq_true] at this
    cases this
theorem xN_len (k : Int) : (xN k).length = k.toNat := by unfold xN; simp
theorem xN_next {k : Int} (k0 : 0 ≤ k) : xN k ++ [nameX k] = xN (k + 1) := by
  unfold xN
  rw [show (k + 1).toNat = k.toNat + 1 by omega, List.range_succ, List.map_append, List.map_singleton, Int.toNat_of_nonneg k0]
theorem offN_len (fs : List Off) (k : Int) : (offN fs k).length = fs.length := by unfold offN; simp
theorem linN_len (ls : List Line) (k : Int) : (linN ls k).length = ls.length := by unfold linN; simp
theorem getD_eq {α : Type} {l : List α} {i : Nat} (h : i < l.length) (d : α) : l.getD i d = l[i] := by rw [List.getD_eq_getElem?_getD, List.getElem?_eq_getElem h, Option.getD_some]
theorem offN_at {fs : List Off} {k : Int} {i : Nat} (hi : i < fs.length) (d : Off) : (offN fs k).getD i d = (if (i : Int) < k then nameX i else fs[i].1, fs[i].2) := by
  unfold offN
  rw [List.getD_eq_getElem?_getD, List.getElem?_map, List.getElem?_range hi, Option.map_some, Option.getD_some, getD_eq hi]
theorem linN_at {ls : List Line} {k : Int} {i : Nat} (hi : i < ls.length) (d : Line) : (linN ls k).getD i d = (if (i : Int) < k then nameY i else ls[i].1, ls[i].2) := by
  unfold linN
  rw [List.getD_eq_getElem?_getD, List.getElem?_map, List.getElem?_range hi, Option.map_some, Option.getD_some, getD_eq hi]
theorem range_map_getD {α : Type} (l : List α) (d : α) : ((List.range l.length).map fun i => l.getD i d) = l := by
  apply List.ext_getElem?
  intro i
  rw [List.getElem?_map]
  by_cases h : i < l.length
  · rw [List.getElem?_range h, Option.map_some, getD_eq h, List.getElem?_eq_getElem h]
  · rw [List.getElem?_eq_none (by rw [List.length_range]; omega), List.getElem?_eq_none (by omega)]; rfl
theorem offN_zero (fs : List Off) : offN fs 0 = fs := by
  have : offN fs 0 = (List.range fs.length).map fun i => fs.getD i (⟨#[]⟩, 0, 0, 0, 0, 0, []) := by
    unfold offN
    apply List.map_congr_left
    intro i _
    rw [if_neg (by omega)]
  rw [this, range_map_getD]
theorem linN_zero (ls : List Line) : linN ls 0 = ls := by
  have : linN ls 0 = (List.range ls.length).map fun i => ls.getD i (⟨#[]⟩, 0, 0, 0, 0, 0) := by
    unfold linN
    apply List.map_congr_left
    intro i _
    rw [if_neg (by omega)]
  rw [this, range_map_getD]
theorem offN_set {fs : List Off} {k : Int} (k0 : 0 ≤ k) (hk : k < fs.length) (d : Off) : (offN fs k).set k.toNat (nameX k, ((offN fs k).getD k.toNat d).2) = offN fs (k + 1) := by
  rw [offN_at (show k.toNat < fs.length by omega)]
  unfold offN
  rw [set_map]
  apply List.map_congr_left
  intro j hj
  have hj := List.mem_range.1 hj
  by_cases e : j = k.toNat
  · subst e
    rw [if_pos rfl, getD_eq hj, Int.toNat_of_nonneg k0, if_pos (show k < k + 1 by omega)]
  · rw [if_neg e]
    by_cases g : (j : Int) < k
    · rw [if_pos g, if_pos (by omega)]
    · rw [if_neg g, if_neg (by omega)]
theorem linN_set {ls : List Line} {k : Int} (k0 : 0 ≤ k) (hk : k < ls.length) (d : Line) : (linN ls k).set k.toNat (nameY k, ((linN ls k).getD k.toNat d).2) = linN ls (k + 1) := by
  rw [linN_at (show k.toNat < ls.length by omega)]
  unfold linN
  rw [set_map]
  apply List.map_congr_left
  intro j hj
  have hj := List.mem_range.1 hj
  by_cases e : j = k.toNat
  · subst e
    rw [if_pos rfl, getD_eq hj, Int.toNat_of_nonneg k0, if_pos (show k < k + 1 by omega)]
  · rw [if_neg e]
    by_cases g : (j : Int) < k
    · rw [if_pos g, if_pos (by omega)]
    · rw [if_neg g, if_neg (by omega)]
theorem linN_snd (ls : List Line) (k : Int) : (linN ls k).map (·.2) = ls.map (·.2) := by
  have : (linN ls k).map (·.2) = ((List.range ls.length).map fun i => ls.getD i (⟨#[]⟩, 0, 0, 0, 0, 0)).map (·.2) := by
    unfold linN
    rw [List.map_map, List.map_map]
    rfl
  rw [this, range_map_getD]
theorem relaxed_linN (ls : List Line) (k : Int) : relaxedF (linN ls k) = relaxedF ls := by
  have e : ∀ ls : List Line, linesF ls = (ls.map (·.2)).foldl (fun xs p => relaxF xs p.1 p.2.1 p.2.2.2.1) initF := fun ls => by
    rw [List.foldl_map]; rfl
  unfold relaxedF fwN
  rw [e, e, linN_snd]
noncomputable def ren (cs : List (Int × List Bool × List Int)) (ns os : List ByteArray) (fs : List Off) (ls : List Line) (ks : List Cla) : Net := (cs, xN ns.length, xN os.length, offN fs fs.length, linN ls ls.length, ks)
theorem noF_ren (cs : List (Int × List Bool × List Int)) (ns os : List ByteArray) (fs : List Off) (ls : List Line) (ks : List Cla) (h : noF (cs, ns, os, fs, ls, ks) = true) : noF (ren cs ns os fs ls ks) = true := by
  obtain ⟨p0, p1, p2, p3, p4, p5⟩ := no_parts cs ns os fs ls ks h
  obtain ⟨a1, a2, a3, a4⟩ := (kind_iff (by decide)).1 p1
  obtain ⟨b1, b2, b3, b4⟩ := (kind_iff (by decide)).1 p2
  obtain ⟨c1, c2, c3, c4⟩ := noF_offs cs ns os fs ls ks h
  obtain ⟨d1, d2, d3, d4⟩ := noF_lines cs ns os fs ls ks h
  have hcal : (calNames cs ns).length = cs.length := by unfold calNames; simp
  have e1 : calNames cs (xN ns.length) = (List.range cs.length).map fun i : Nat => nameX i := by
    unfold calNames
    apply List.map_congr_left
    intro i hi
    have hi := List.mem_range.1 hi
    unfold xN
    rw [List.getD_eq_getElem?_getD, List.getElem?_map, List.getElem?_range (by rw [Int.toNat_natCast]; omega), Option.map_some, Option.getD_some]
  have e3 : offNames (offN fs fs.length) = (List.range fs.length).map fun i : Nat => nameX i := by
    unfold offNames offN
    rw [List.map_map]
    apply List.map_congr_left
    intro i hi
    have hi := List.mem_range.1 hi
    show (if (i : Int) < fs.length then nameX i else _) = _
    rw [if_pos (by omega)]
  have e4 : linNames (linN ls ls.length) = (List.range ls.length).map fun i : Nat => nameY i := by
    unfold linNames linN
    rw [List.map_map]
    apply List.map_congr_left
    intro i hi
    have hi := List.mem_range.1 hi
    show (if (i : Int) < ls.length then nameY i else _) = _
    rw [if_pos (by omega)]
  have n1 := names_ok nx_ok (N := cs.length) (by omega)
  have n2 := names_ok nx_ok (N := os.length) (by omega)
  have n3 := names_ok nx_ok (N := fs.length) (by omega)
  have n4 := names_ok ny_ok (N := ls.length) (by omega)
  refine noF_of cs _ _ _ _ ks (by rw [xN_len]; omega) ?_ ?_ ?_ ?_ p5
  · rw [e1]
    refine (kind_iff (by decide)).2 ⟨by rw [List.length_map, List.length_range]; omega, n1.1, n1.2, fun i hi => a4 i (by rw [List.length_map, List.length_range] at hi; omega)⟩
  · have e2 : xN os.length = (List.range os.length).map fun i : Nat => nameX i := by unfold xN; rw [Int.toNat_natCast]
    rw [e2]
    refine (kind_iff (by decide)).2 ⟨by rw [List.length_map, List.length_range]; omega, n2.1, n2.2, fun i hi => ?_⟩
    unfold opGoods
    rw [List.getD_eq_getElem?_getD, List.getElem?_map, List.getElem?_eq_getElem hi]; rfl
  · rw [e3]
    refine (kind_iff (by decide)).2 ⟨by rw [List.length_map, List.length_range]; omega, n3.1, n3.2, fun i hi => ?_⟩
    rw [List.length_map, List.length_range] at hi
    show ((offN fs fs.length).map (goodOff (ren cs ns os fs ls ks))).getD i false = true
    rw [map_getD (goodOff (ren cs ns os fs ls ks)) _ i (⟨#[]⟩, 0, 0, 0, 0, 0, []) false (by rw [offN_len]; exact hi), offN_at hi]
    have := c4 _ (List.getElem_mem hi)
    unfold goodOff at this ⊢
    rw [show (ren cs ns os fs ls ks).2.2.1.length = os.length by show (xN os.length).length = _; rw [xN_len, Int.toNat_natCast]]
    exact this
  · rw [e4]
    refine (kind_iff (by decide)).2 ⟨by rw [List.length_map, List.length_range]; omega, n4.1, n4.2, fun i hi => ?_⟩
    rw [List.length_map, List.length_range] at hi
    show ((linN ls ls.length).map (goodLin (ren cs ns os fs ls ks))).getD i false = true
    rw [map_getD (goodLin (ren cs ns os fs ls ks)) _ i (⟨#[]⟩, 0, 0, 0, 0, 0) false (by rw [linN_len]; exact hi), linN_at hi]
    have := d4 _ (List.getElem_mem hi)
    unfold goodLin at this ⊢
    rw [show (ren cs ns os fs ls ks).2.2.2.1.length = fs.length by show (offN fs fs.length).length = _; rw [offN_len]]
    exact this
theorem check_ren (cs : List (Int × List Bool × List Int)) (ns os : List ByteArray) (fs : List Off) (ls : List Line) (ks : List Cla) (h : noF (cs, ns, os, fs, ls, ks) = true) : checkF (ren cs ns os fs ls ks) = checkF (cs, ns, os, fs, ls, ks) := by
  unfold checkF
  rw [if_pos (noF_ren cs ns os fs ls ks h), if_pos h]
  show reachTo ((offN fs fs.length).length : Nat) (linN ls ls.length) ((offN fs fs.length).length : Nat) = _
  rw [offN_len]
  unfold reachTo reach1
  rw [relaxed_linN]
theorem dist_ren (cs : List (Int × List Bool × List Int)) (ns os : List ByteArray) (fs : List Off) (ls : List Line) (ks : List Cla) (h : noF (cs, ns, os, fs, ls, ks) = true) : dist2 (ren cs ns os fs ls ks) = dist2 (cs, ns, os, fs, ls, ks) := by
  unfold dist2
  rw [if_pos (noF_ren cs ns os fs ls ks h), if_pos h]
  show distF (offN fs fs.length).length (linN ls ls.length) = _
  rw [offN_len]
  unfold distF distRow
  rw [relaxed_linN]
theorem owner_ren (cs : List (Int × List Bool × List Int)) (ns os : List ByteArray) (fs : List Off) (ls : List Line) (ks : List Cla) (h : noF (cs, ns, os, fs, ls, ks) = true) (so sl : Int) : ownerF (ren cs ns os fs ls ks) so sl = ownerF (cs, ns, os, fs, ls, ks) so sl := by
  unfold ownerF
  rw [if_pos (noF_ren cs ns os fs ls ks h), if_pos h]
  show (if sl = -1 ∧ idxF so ((offN fs fs.length).length : Nat) = true then ((offN fs fs.length).getD so.toNat (⟨#[]⟩, 0, 0, 0, 0, 0, [])).2.1 else if so = -1 ∧ idxF sl ((linN ls ls.length).length : Nat) = true then ((offN fs fs.length).getD ((linN ls ls.length).getD sl.toNat (⟨#[]⟩, 0, 0, 0, 0, 0)).2.1.toNat (⟨#[]⟩, 0, 0, 0, 0, 0, [])).2.1 else -1) = _
  rw [offN_len, linN_len]
  by_cases a : sl = -1 ∧ idxF so (fs.length : Nat) = true
  · rw [if_pos a, if_pos a]
    have := of_decide_eq_true a.2
    rw [offN_at (by omega), getD_eq (l := fs) (by omega)]
  · rw [if_neg a, if_neg a]
    by_cases b : so = -1 ∧ idxF sl (ls.length : Nat) = true
    · rw [if_pos b, if_pos b]
      have := of_decide_eq_true b.2
      rw [linN_at (by omega), getD_eq (l := ls) (by omega)]
      have hl := (lines_ok cs ns os fs ls ks h).1.at_ _ (List.getElem_mem (show sl.toNat < ls.length by omega))
      have hl : 0 ≤ ls[sl.toNat].2.1 ∧ ls[sl.toNat].2.1 < fs.length := ⟨hl.1, hl.2.1⟩
      show ((offN fs fs.length).getD ls[sl.toNat].2.1.toNat _).2.1 = _
      rw [offN_at (by omega), getD_eq (l := fs) (by omega)]
    · rw [if_neg b, if_neg b]
theorem dist2_mild2 (n : Net) : mild (dist2 n) := by
  unfold mild dist2
  split
  · rename_i h
    obtain ⟨cs, ns, os, fs, ls, ks⟩ := n
    have h2 := (lines_ok cs ns os fs ls ks h).1.n12
    unfold distF
    refine ⟨by rw [List.length_map, List.length_range]; show fs.length ≤ 1000000; omega, fun r hr => ?_⟩
    obtain ⟨a, _, rfl⟩ := List.mem_map.1 hr
    rw [distRow_len]; show fs.length ≤ 1000000; omega
  · exact ⟨Nat.zero_le _, fun r hr => by cases hr⟩
set_option maxRecDepth 20000 in
set_option maxHeartbeats 2000000 in
theorem t_lnames (so sl : Int) (cs : List (Int × List Bool × List Int)) (ns os : List ByteArray) (fs : List Off) (ls : List Line) (ks : List Cla) : SoundC Tryd.prog G0 5 [net cs ns os fs ls ks, .agg [.dat I so, .dat I sl]] [] ⟨True, .dat .bool true, []⟩ := by
  refine sound_of_ev (c := mkc K18) KS18' KI0s hm (vc_lnames so sl cs ns os fs ls ks ⟨rfl, fun hp => ?_⟩)
  simp only [cnd_or, cnd_and, D.and, D.or, D.not, Bool.true_and, Bool.and_true, Bool.false_or, Bool.or_false, eq_self, true_and, and_true, imp_self, implies_true, Bool.not_eq_true', Bool.or_eq_true, Bool.or_eq_false_iff, Bool.not_eq_false', Bool.and_eq_true, Bool.and_eq_false_imp, Bool.not_not, forall_const, exists_eq_right, exists_eq_right', exists_eq_left, exists_eq_left', Int.toNat_natCast, Nat.zero_add, Nat.mul_one, Int.ofNat_eq_natCast, D.nil, D.eq, D.ne, D.lt, D.gt, D.le, D.ge, D.beq, D.ilen, D.slen, D.ile, D.ilt, D.ine, D.nle, D.nlt, D.sub, D.add, D.mul, D.neg, D.nat, D.ofN, D.len, D.nadd, D.nmul, D.get, D.mn, D.mx, D.set, D.app, D.tail, D.part, D.seg, D.rep, D.at2, decide_eq_true_eq, decide_eq_false_iff_not, beq_iff_eq, bne_iff_ne, beq_eq_false_iff_ne, bne_eq_false_iff_eq, List.nil_append]
  intro hc
  have hf : fewF (cs, ns, os, fs, ls, ks) = true ∧ noF (cs, ns, os, fs, ls, ks) = true := by
    unfold consF at hc
    rw [Bool.and_eq_true, Bool.and_eq_true] at hc
    exact hc.1
  obtain ⟨hf, hnf⟩ := hf
  obtain ⟨l1, l2, l3, l4, l5, l6⟩ := few_lens cs ns os fs ls ks (fewC_iff.1 (few_fewC hf)).1
  have hm := dist2_mild2 (ren cs ns os fs ls ks)
  have hck : checkF (cs, xN ns.length, xN os.length, offN fs fs.length, linN ls ls.length, ks) = checkF (cs, ns, os, fs, ls, ks) := check_ren cs ns os fs ls ks hnf
  have hds : dist2 (cs, xN ns.length, xN os.length, offN fs fs.length, linN ls ls.length, ks) = dist2 (cs, ns, os, fs, ls, ks) := dist_ren cs ns os fs ls ks hnf
  have how : ownerF (cs, xN ns.length, xN os.length, offN fs fs.length, linN ls ls.length, ks) so sl = ownerF (cs, ns, os, fs, ls, ks) so sl := owner_ren cs ns os fs ls ks hnf so sl
  have u8 : ∀ x : Int, 0 ≤ x → x < 50 → inR IntKind.u8 (97 + x) := fun x h0 h1 => by
    show (0 : Int) ≤ 97 + x ∧ 97 + x ≤ 255
    omega
  have fit1 : ∀ x : Int, D.strFits ⟨#[120, 95]⟩ (D.ofBytes [97 + x]) := fun x => by
    show ((_ + (strOfNums [97 + x]).size : Nat) : Int) ≤ 9223372036854775807
    have : (strOfNums [97 + x]).size = 1 := rfl
    rw [this]; decide
  have fit2 : ∀ x y : Int, D.strFits ⟨#[121]⟩ (D.ofBytes [x, y]) := fun x y => by
    show ((_ + (strOfNums [x, y]).size : Nat) : Int) ≤ 9223372036854775807
    have : (strOfNums [x, y]).size = 2 := rfl
    rw [this]; decide
  have fit3 : ∀ x y : Int, D.strFits (D.sApp ⟨#[121]⟩ (D.ofBytes [x, y])) ⟨#[95]⟩ := fun x y => by
    show (((⟨#[121]⟩ ++ strOfNums [x, y] : ByteArray).size + 1 : Nat) : Int) ≤ 9223372036854775807
    rw [ByteArray.size_append]
    have : (strOfNums [x, y]).size = 2 := rfl
    rw [this]; decide
  have app : ∀ x : Int, 0 ≤ x → xN x ++ [D.sApp ⟨#[120, 95]⟩ (D.ofBytes [97 + x])] = xN (x + 1) := fun x h => xN_next h
  have lens : ∀ x : Int, (xN x).length = x.toNat := xN_len
  have z : ∀ m : Nat, upN 0 (m : Int) := fun m => ⟨Int.le_refl _, Int.natCast_nonneg _⟩
  refine ⟨List.length_nil, by omega, by omega, List.length_nil, by omega, by omega, ⟨0, z _, rfl, rfl, rfl, rfl⟩, fun a ⟨a0, a1⟩ => ⟨fun ha => ?_, fun ha => ?_⟩⟩
  · have e := app a a0
    have e2 := congrArg List.length e
    rw [List.length_append] at e2
    have e3 := lens a
    simp only [List.length_singleton] at e2 ⊢
    exact ⟨in_small (by omega), u8 a a0 (by omega), fit1 a, by omega, by omega, by rw [List.length_append]; rfl, in_small (by omega), a + 1, ⟨by omega, by omega⟩, ⟨rfl, e2, e⟩, by omega⟩
  have : a = ns.length := by omega
  subst this
  refine ⟨⟨0, z _, rfl, rfl, rfl, rfl, rfl, rfl⟩, fun b ⟨b0, b1⟩ => ⟨fun hb => ?_, fun hb => ?_⟩⟩
  · have e := app b b0
    have e2 := congrArg List.length e
    rw [List.length_append] at e2
    have e3 := lens b
    simp only [List.length_singleton] at e2 ⊢
    exact ⟨in_small (by omega), u8 b b0 (by omega), fit1 b, by omega, by omega, by rw [List.length_append]; rfl, in_small (by omega), b + 1, ⟨by omega, by omega⟩, ⟨rfl, e2, e⟩, by omega⟩
  have : b = os.length := by omega
  subst this
  refine ⟨⟨0, z _, rfl, (offN_zero fs).symm⟩, fun c ⟨c0, c1⟩ => ⟨offN_len fs c, fun hc => ?_, fun hc => ?_⟩⟩
  · have e := offN_len fs c
    refine ⟨in_small (by omega), u8 c c0 (by omega), fit1 c, e, c0, by omega, e, e, in_small (by omega), c + 1, ⟨by omega, by omega⟩, ⟨rfl, ?_⟩, by omega⟩
    exact offN_set c0 hc _
  have : c = fs.length := by omega
  subst this
  refine ⟨⟨0, z _, rfl, (linN_zero ls).symm⟩, fun k ⟨k0, k1⟩ => ⟨linN_len ls k, fun hk => ?_, fun hk => ?_⟩⟩
  · have e := linN_len ls k
    have q1 : 0 ≤ D.quo k 26 ∧ D.quo k 26 ≤ 2 := by
      show 0 ≤ k.tdiv 26 ∧ k.tdiv 26 ≤ 2
      rw [Int.tdiv_eq_ediv_of_nonneg k0]
      omega
    have q2 : 0 ≤ D.rem k 26 ∧ D.rem k 26 < 26 := by
      show 0 ≤ k.tmod 26 ∧ k.tmod 26 < 26
      rw [Int.tmod_eq_emod_of_nonneg k0]
      omega
    refine ⟨by decide, in_small (by omega), in_small (by omega), u8 _ q1.1 (by omega), by decide, in_small (by omega), u8 _ q2.1 (by omega), fit2 _ _, fit3 _ _, e, k0, by omega, e, e, in_small (by omega), k + 1, ⟨by omega, by omega⟩, ⟨rfl, ?_⟩, by omega⟩
    exact linN_set k0 hk _
  have : k = ls.length := by omega
  subst this
  rw [hck, hds, how]
  have hsame : sameR (dist2 (cs, ns, os, fs, ls, ks)) (dist2 (cs, ns, os, fs, ls, ks)) = true := beq_self_eq_true _
  exact ⟨offN_len _ _, linN_len _ _, offN_len _ _, linN_len _ _, fun _ => dist2_mild2 _, ⟨rfl, hsame⟩, rfl⟩
end Go.Eng.Sv
