/- PeIn9i -/
import Derived.Test.YtlobbofhlcjlmaaZ22
import Derived.Test.YtlobbofhlcjlmaaIn8i
set_option linter.unusedSimpArgs false
set_option linter.unusedVariables false
set_option maxRecDepth 100000
namespace Go.Eng.In
open Go.Proofs
noncomputable def cellsOf (s : St) (nm : Nat) : List AV := match s.mem.lookup nm with
  | some (.var cs) => cs
  | _ => []
noncomputable def othL (s : St) (slot : Tmp) (cell : Nat) (t : Ty) (el : TypeId) (N : Int) (f : Int → (Ty.sl t).den) : Option Spec := some { α := Int, inv := fun k => upL k N, st := fun k => putM (putM (put (flat s) [(slot, .dat I k)]) 1 (.var ((cellsOf s 1).set cell (.buf 100 (D.len (f k)))))) 100 (.buf el t (f k) []), μ := fun k => D.nat (D.sub N k) }
noncomputable def othA (n : Net) : Ann := ⟨fun id s => match id with
  | 8 => othL s 9 3 Of 51 (D.ilen n.2.2.2.1) fun k => offXs n.2.2.2.1 k
  | 13 => othL s 11 4 Ln 53 (D.ilen n.2.2.2.2.1) fun k => linXs n.2.2.2.2.1 k
  | 18 => othL s 13 5 Kl 55 (D.ilen n.2.2.2.2.2) fun k => claXs n.2.2.2.2.2 k
  | _ => none, fun id s => match id with
  | 12 => some (frz [100] s)
  | 17 => some (frz [100] s)
  | 21 => some (frz [100] s)
  | _ => none, fun _ _ => none⟩
set_option maxRecDepth 100000 in
set_option maxHeartbeats 4000000 in
theorem vc_oth (s : Int) (q : Bool) (l : List Int) (cs : List Cal) (ns os : List ByteArray) (fs : List Off) (ls : List Line) (ks : List Cla) (hvc :
 let c1 := (ls, ks);
 let c2 := (fs, c1);
 let c3 := (cs, ns, os, c2);
 let c4 := fewAll c3 l;
 let c5 := D.not c4;
 let c6 := D.ilen fs;
 let c7 := (ByteArray.mk (D.nil UInt8).toArray, (0 : Int), (0 : Int), (0 : Int), (0 : Int), (0 : Int), D.nil ByteArray);
 let c8 := [ByteArray.mk #[(63 : UInt8)]];
 let c9 := D.ilen ls;
 let c10 := ((0 : Int), (0 : Int));
 let c11 := (ByteArray.mk (D.nil UInt8).toArray, (0 : Int), (0 : Int), (0 : Int), c10);
 let c12 := D.ilen ks;
 let c13 := (ByteArray.mk (D.nil UInt8).toArray, c10); true = true ∧ (True → True ∧ 1 = 1 ∧ 0 = 0 ∧ True ∧ (c5 = true → true = true ∧ True) ∧ (c5 = false → (q =
  true → 1 = 1 ∧ 1 = 1 ∧ 0 = 0 ∧ limI l ∧ 1 = 1 ∧ 1 = 1 ∧ 0 = 0 ∧ 1 = 1 ∧ 0 = 0 ∧ (∃ x, upL x c6 ∧ cs = cs ∧ ns = ns ∧ os = os ∧ fs = fs ∧ ls = ls ∧ ks = ks ∧ l
  = l ∧ s = s ∧ q = q ∧ c3 = c3 ∧ 1 = 1 ∧ 0 = 0 ∧ 0 = 0 ∧ false = false ∧ true = true ∧ 1 = 1 ∧ 0 = 0 ∧ 0 = 0 ∧ (0 : Int) = x ∧ true = true ∧ cs = cs ∧ ns = ns ∧
  os = os ∧ fs = fs ∧ ls = ls ∧ ks = ks ∧ l = l ∧ s = s ∧ c4 = c4 ∧ c5 = c5 ∧ q = q ∧ 1 = 1 ∧ 0 = 0 ∧ 0 = 0 ∧ l = l ∧ sealG l = sealG l ∧ 1 = 1 ∧ 0 = 0 ∧ 1 = 1 ∧
  c3 = c3 ∧ cs = cs ∧ cs = cs ∧ Value.slice none (0) (0) = Value.slice none (0) (0) ∧ Value.slice none (0) (0) = Value.slice none (0) (0) ∧ Value.slice none (0)
  (0) = Value.slice none (0) (0) ∧ Value.slice none (0) (0) = Value.slice none (0) (0) ∧ Value.slice none (0) (0) = Value.slice none (0) (0) ∧ l = l ∧ sealG l =
  sealG l ∧ cs = cs ∧ Value.slice none (0) (0) = Value.slice none (0) (0) ∧ Value.slice none (0) (0) = Value.slice none (0) (0) ∧ D.len (offXs fs x) = 0 ∧ offXs
  fs x = D.nil (ByteArray × Int × Int × Int × Int × Int × List ByteArray) ∧ Value.slice none (0) (0) = Value.slice none (0) (0) ∧ Value.slice none (0) (0) =
  Value.slice none (0) (0) ∧ offXs fs x = D.nil (ByteArray × Int × Int × Int × Int × Int × List ByteArray) ∧ True) ∧ ∀ (x : Int),
 let c14 := D.len (offXs fs x);
 let c15 := (D.get fs (D.nat x) c7).snd.snd;
 let c16 := c15.snd.snd;
 let c17 := [(ByteArray.mk #[(88 : UInt8)], (7 : Int), c15.fst, (0 : Int), c16.fst, c16.snd.fst, c8)];
 let c18 := D.nadd c14 (D.len c17);
 let c19 := D.app (offXs fs x) c17;
 let c20 := D.add x (1 : Int); upL x c6 → (D.lt x c6 = true → D.ile (0 : Int) x ∧ D.ilt x c6 ∧ 1 = 1 ∧ 0 = 0 ∧ 1 = 1 ∧ 1 = 1 ∧ 0 = 0 ∧ 1 = 1 ∧ 1 = 1 ∧ 0 = 0 ∧ 1
  = 1 ∧ 1 = 1 ∧ 0 = 0 ∧ 1 = 1 ∧ 1 = 1 ∧ 0 = 0 ∧ c14 = c14 ∧ D.nle (D.nmul c18 (80)) (140737488355328) ∧ D.nle c18 (9223372036854775807) ∧ 1 = 1 ∧ 1 = 1 ∧ 0 = 0 ∧
  D.len c19 = c18 ∧ inR IntKind.i64 c20 ∧ ∃ y, upL y c6 ∧ (cs = cs ∧ ns = ns ∧ os = os ∧ fs = fs ∧ ls = ls ∧ ks = ks ∧ l = l ∧ s = s ∧ q = q ∧ c3 = c3 ∧ 1 = 1 ∧
  0 = 0 ∧ 0 = 0 ∧ false = false ∧ true = true ∧ 1 = 1 ∧ 0 = 0 ∧ 0 = 0 ∧ c20 = y ∧ true = true ∧ cs = cs ∧ ns = ns ∧ os = os ∧ fs = fs ∧ ls = ls ∧ ks = ks ∧ l = l
  ∧ s = s ∧ c4 = c4 ∧ c5 = c5 ∧ q = q ∧ 1 = 1 ∧ 0 = 0 ∧ 0 = 0 ∧ l = l ∧ sealG l = sealG l ∧ 1 = 1 ∧ 0 = 0 ∧ 1 = 1 ∧ c3 = c3 ∧ cs = cs ∧ cs = cs ∧ Value.slice
  none (0) (0) = Value.slice none (0) (0) ∧ Value.slice none (0) (0) = Value.slice none (0) (0) ∧ Value.slice none (0) (0) = Value.slice none (0) (0) ∧
  Value.slice none (0) (0) = Value.slice none (0) (0) ∧ Value.slice none (0) (0) = Value.slice none (0) (0) ∧ l = l ∧ sealG l = sealG l ∧ cs = cs ∧ Value.slice
  none (0) (0) = Value.slice none (0) (0) ∧ Value.slice none (0) (0) = Value.slice none (0) (0) ∧ c18 = D.len (offXs fs y) ∧ Value.slice none (0) (0) =
  Value.slice none (0) (0) ∧ Value.slice none (0) (0) = Value.slice none (0) (0) ∧ c19 = offXs fs y ∧ True) ∧ D.nlt (D.nat (D.sub c6 y)) (D.nat (D.sub c6 x))) ∧
  (D.lt x c6 = false → cs = cs ∧ ns = ns ∧ os = os ∧ fs = fs ∧ ls = ls ∧ ks = ks ∧ l = l ∧ s = s ∧ q = q ∧ c3 = c3 ∧ 1 = 1 ∧ 0 = 0 ∧ 0 = 0 ∧ false = false ∧ true
  = true ∧ 1 = 1 ∧ 0 = 0 ∧ 0 = 0 ∧ x = x ∧ true = true ∧ cs = cs ∧ ns = ns ∧ os = os ∧ fs = fs ∧ ls = ls ∧ ks = ks ∧ l = l ∧ s = s ∧ c4 = c4 ∧ c5 = c5 ∧ q = q ∧
  1 = 1 ∧ 0 = 0 ∧ 0 = 0 ∧ l = l ∧ sealG l = sealG l ∧ 1 = 1 ∧ 0 = 0 ∧ 1 = 1 ∧ c3 = c3 ∧ cs = cs ∧ cs = cs ∧ Value.slice none (0) (0) = Value.slice none (0) (0) ∧
  Value.slice none (0) (0) = Value.slice none (0) (0) ∧ Value.slice none (0) (0) = Value.slice none (0) (0) ∧ Value.slice none (0) (0) = Value.slice none (0) (0)
  ∧ Value.slice none (0) (0) = Value.slice none (0) (0) ∧ x = x ∧ c2 = c2 ∧ fs = fs ∧ c6 = c6 ∧ D.lt x c6 = D.lt x c6 ∧ l = l ∧ sealG l = sealG l ∧ cs = cs ∧
  Value.slice none (0) (0) = Value.slice none (0) (0) ∧ Value.slice none (0) (0) = Value.slice none (0) (0) ∧ c14 = c14 ∧ offXs fs x = offXs fs x ∧ Value.slice
  none (0) (0) = Value.slice none (0) (0) ∧ Value.slice none (0) (0) = Value.slice none (0) (0) ∧ (∃ x_3, upL x_3 c9 ∧ cs = cs ∧ ns = ns ∧ os = os ∧ fs = fs ∧ ls
  = ls ∧ ks = ks ∧ l = l ∧ s = s ∧ q = q ∧ c3 = c3 ∧ 1 = 1 ∧ 0 = 0 ∧ 0 = 0 ∧ false = false ∧ true = true ∧ 1 = 1 ∧ 0 = 0 ∧ 0 = 0 ∧ x = x ∧ (0 : Int) = x_3 ∧ true
  = true ∧ cs = cs ∧ ns = ns ∧ os = os ∧ fs = fs ∧ ls = ls ∧ ks = ks ∧ l = l ∧ s = s ∧ c4 = c4 ∧ c5 = c5 ∧ q = q ∧ 1 = 1 ∧ 0 = 0 ∧ 0 = 0 ∧ l = l ∧ sealG l =
  sealG l ∧ 1 = 1 ∧ 0 = 0 ∧ 1 = 1 ∧ c3 = c3 ∧ cs = cs ∧ cs = cs ∧ Value.slice none (0) (0) = Value.slice none (0) (0) ∧ Value.slice none (0) (0) = Value.slice
  none (0) (0) ∧ Value.slice none (0) (0) = Value.slice none (0) (0) ∧ Value.slice none (0) (0) = Value.slice none (0) (0) ∧ Value.slice none (0) (0) =
  Value.slice none (0) (0) ∧ x = x ∧ c2 = c2 ∧ fs = fs ∧ c6 = c6 ∧ D.lt x c6 = D.lt x c6 ∧ l = l ∧ sealG l = sealG l ∧ cs = cs ∧ Value.slice none (0) (0) =
  Value.slice none (0) (0) ∧ Value.slice none (0) (0) = Value.slice none (0) (0) ∧ offXs fs x = offXs fs x ∧ D.len (linXs ls x_3) = 0 ∧ linXs ls x_3 = D.nil
  (ByteArray × Int × Int × Int × Int × Int) ∧ Value.slice none (0) (0) = Value.slice none (0) (0) ∧ linXs ls x_3 = D.nil (ByteArray × Int × Int × Int × Int ×
  Int) ∧ True) ∧ ∀ (x_3 : Int),
 let c21 := D.len (linXs ls x_3);
 let c22 := (D.get ls (D.nat x_3) c11).snd;
 let c23 := c22.snd;
 let c24 := c23.snd;
 let c25 := [(ByteArray.mk (D.nil UInt8).toArray, c22.fst, c23.fst, c24.fst, c24.snd.fst, (-1 : Int))];
 let c26 := D.nadd c21 (D.len c25);
 let c27 := D.app (linXs ls x_3) c25;
 let c28 := D.add x_3 (1 : Int); upL x_3 c9 → (D.lt x_3 c9 = true → D.ile (0 : Int) x_3 ∧ D.ilt x_3 c9 ∧ 1 = 1 ∧ 0 = 0 ∧ 1 = 1 ∧ 1 = 1 ∧ 0 = 0 ∧ 1 = 1 ∧ 1 = 1 ∧
  0 = 0 ∧ 1 = 1 ∧ 1 = 1 ∧ 0 = 0 ∧ 1 = 1 ∧ 1 = 1 ∧ 0 = 0 ∧ 1 = 1 ∧ 1 = 1 ∧ 0 = 0 ∧ c21 = c21 ∧ D.nle (D.nmul c26 (56)) (140737488355328) ∧ D.nle c26
  (9223372036854775807) ∧ 1 = 1 ∧ 1 = 1 ∧ 0 = 0 ∧ D.len c27 = c26 ∧ inR IntKind.i64 c28 ∧ ∃ y, upL y c9 ∧ (cs = cs ∧ ns = ns ∧ os = os ∧ fs = fs ∧ ls = ls ∧ ks =
  ks ∧ l = l ∧ s = s ∧ q = q ∧ c3 = c3 ∧ 1 = 1 ∧ 0 = 0 ∧ 0 = 0 ∧ false = false ∧ true = true ∧ 1 = 1 ∧ 0 = 0 ∧ 0 = 0 ∧ x = x ∧ c28 = y ∧ true = true ∧ cs = cs ∧
  ns = ns ∧ os = os ∧ fs = fs ∧ ls = ls ∧ ks = ks ∧ l = l ∧ s = s ∧ c4 = c4 ∧ c5 = c5 ∧ q = q ∧ 1 = 1 ∧ 0 = 0 ∧ 0 = 0 ∧ l = l ∧ sealG l = sealG l ∧ 1 = 1 ∧ 0 = 0
  ∧ 1 = 1 ∧ c3 = c3 ∧ cs = cs ∧ cs = cs ∧ Value.slice none (0) (0) = Value.slice none (0) (0) ∧ Value.slice none (0) (0) = Value.slice none (0) (0) ∧ Value.slice
  none (0) (0) = Value.slice none (0) (0) ∧ Value.slice none (0) (0) = Value.slice none (0) (0) ∧ Value.slice none (0) (0) = Value.slice none (0) (0) ∧ x = x ∧
  c2 = c2 ∧ fs = fs ∧ c6 = c6 ∧ D.lt x c6 = D.lt x c6 ∧ l = l ∧ sealG l = sealG l ∧ cs = cs ∧ Value.slice none (0) (0) = Value.slice none (0) (0) ∧ Value.slice
  none (0) (0) = Value.slice none (0) (0) ∧ offXs fs x = offXs fs x ∧ c26 = D.len (linXs ls y) ∧ Value.slice none (0) (0) = Value.slice none (0) (0) ∧ c27 =
  linXs ls y ∧ True) ∧ D.nlt (D.nat (D.sub c9 y)) (D.nat (D.sub c9 x_3))) ∧ (D.lt x_3 c9 = false → cs = cs ∧ ns = ns ∧ os = os ∧ fs = fs ∧ ls = ls ∧ ks = ks ∧ l
  = l ∧ s = s ∧ q = q ∧ c3 = c3 ∧ 1 = 1 ∧ 0 = 0 ∧ 0 = 0 ∧ false = false ∧ true = true ∧ 1 = 1 ∧ 0 = 0 ∧ 0 = 0 ∧ x = x ∧ x_3 = x_3 ∧ true = true ∧ cs = cs ∧ ns =
  ns ∧ os = os ∧ fs = fs ∧ ls = ls ∧ ks = ks ∧ l = l ∧ s = s ∧ c4 = c4 ∧ c5 = c5 ∧ q = q ∧ 1 = 1 ∧ 0 = 0 ∧ 0 = 0 ∧ l = l ∧ sealG l = sealG l ∧ 1 = 1 ∧ 0 = 0 ∧ 1
  = 1 ∧ c3 = c3 ∧ cs = cs ∧ cs = cs ∧ Value.slice none (0) (0) = Value.slice none (0) (0) ∧ Value.slice none (0) (0) = Value.slice none (0) (0) ∧ Value.slice
  none (0) (0) = Value.slice none (0) (0) ∧ Value.slice none (0) (0) = Value.slice none (0) (0) ∧ Value.slice none (0) (0) = Value.slice none (0) (0) ∧ x = x ∧
  c2 = c2 ∧ fs = fs ∧ c6 = c6 ∧ D.lt x c6 = D.lt x c6 ∧ x_3 = x_3 ∧ c1 = c1 ∧ ls = ls ∧ c9 = c9 ∧ D.lt x_3 c9 = D.lt x_3 c9 ∧ l = l ∧ sealG l = sealG l ∧ cs = cs
  ∧ Value.slice none (0) (0) = Value.slice none (0) (0) ∧ Value.slice none (0) (0) = Value.slice none (0) (0) ∧ offXs fs x = offXs fs x ∧ c21 = c21 ∧ linXs ls
  x_3 = linXs ls x_3 ∧ Value.slice none (0) (0) = Value.slice none (0) (0) ∧ (∃ x_6, upL x_6 c12 ∧ cs = cs ∧ ns = ns ∧ os = os ∧ fs = fs ∧ ls = ls ∧ ks = ks ∧ l
  = l ∧ s = s ∧ q = q ∧ c3 = c3 ∧ 1 = 1 ∧ 0 = 0 ∧ 0 = 0 ∧ false = false ∧ true = true ∧ 1 = 1 ∧ 0 = 0 ∧ 0 = 0 ∧ x = x ∧ x_3 = x_3 ∧ (0 : Int) = x_6 ∧ true = true
  ∧ cs = cs ∧ ns = ns ∧ os = os ∧ fs = fs ∧ ls = ls ∧ ks = ks ∧ l = l ∧ s = s ∧ c4 = c4 ∧ c5 = c5 ∧ q = q ∧ 1 = 1 ∧ 0 = 0 ∧ 0 = 0 ∧ l = l ∧ sealG l = sealG l ∧ 1
  = 1 ∧ 0 = 0 ∧ 1 = 1 ∧ c3 = c3 ∧ cs = cs ∧ cs = cs ∧ Value.slice none (0) (0) = Value.slice none (0) (0) ∧ Value.slice none (0) (0) = Value.slice none (0) (0) ∧
  Value.slice none (0) (0) = Value.slice none (0) (0) ∧ Value.slice none (0) (0) = Value.slice none (0) (0) ∧ Value.slice none (0) (0) = Value.slice none (0) (0)
  ∧ x = x ∧ c2 = c2 ∧ fs = fs ∧ c6 = c6 ∧ D.lt x c6 = D.lt x c6 ∧ x_3 = x_3 ∧ c1 = c1 ∧ ls = ls ∧ c9 = c9 ∧ D.lt x_3 c9 = D.lt x_3 c9 ∧ l = l ∧ sealG l = sealG l
  ∧ cs = cs ∧ Value.slice none (0) (0) = Value.slice none (0) (0) ∧ Value.slice none (0) (0) = Value.slice none (0) (0) ∧ offXs fs x = offXs fs x ∧ linXs ls x_3
  = linXs ls x_3 ∧ D.len (claXs ks x_6) = 0 ∧ claXs ks x_6 = D.nil (ByteArray × Int × Int) ∧ claXs ks x_6 = D.nil (ByteArray × Int × Int) ∧ True) ∧ ∀ (x_6 :
  Int),
 let c29 := D.len (claXs ks x_6);
 let c30 := (D.get ks (D.nat x_6) c13).snd;
 let c31 := [(ByteArray.mk (D.nil UInt8).toArray, c30.fst, c30.snd)];
 let c32 := D.nadd c29 (D.len c31);
 let c33 := D.app (claXs ks x_6) c31;
 let c34 := D.add x_6 (1 : Int);
 let c35 := (cs, D.nil ByteArray, D.nil ByteArray, offXs fs x, linXs ls x_3, claXs ks x_6); upL x_6 c12 → (D.lt x_6 c12 = true → 1 = 1 ∧ 1 = 1 ∧ 0 = 0 ∧ D.ile (0
  : Int) x_6 ∧ D.ilt x_6 c12 ∧ D.ile (0 : Int) x_6 ∧ D.ilt x_6 c12 ∧ c29 = c29 ∧ D.nle (D.nmul c32 (32)) (140737488355328) ∧ D.nle c32 (9223372036854775807) ∧ 1
  = 1 ∧ 1 = 1 ∧ 0 = 0 ∧ D.len c33 = c32 ∧ inR IntKind.i64 c34 ∧ ∃ y, upL y c12 ∧ (cs = cs ∧ ns = ns ∧ os = os ∧ fs = fs ∧ ls = ls ∧ ks = ks ∧ l = l ∧ s = s ∧ q =
  q ∧ c3 = c3 ∧ 1 = 1 ∧ 0 = 0 ∧ 0 = 0 ∧ false = false ∧ true = true ∧ 1 = 1 ∧ 0 = 0 ∧ 0 = 0 ∧ x = x ∧ x_3 = x_3 ∧ c34 = y ∧ true = true ∧ cs = cs ∧ ns = ns ∧ os
  = os ∧ fs = fs ∧ ls = ls ∧ ks = ks ∧ l = l ∧ s = s ∧ c4 = c4 ∧ c5 = c5 ∧ q = q ∧ 1 = 1 ∧ 0 = 0 ∧ 0 = 0 ∧ l = l ∧ sealG l = sealG l ∧ 1 = 1 ∧ 0 = 0 ∧ 1 = 1 ∧ c3
  = c3 ∧ cs = cs ∧ cs = cs ∧ Value.slice none (0) (0) = Value.slice none (0) (0) ∧ Value.slice none (0) (0) = Value.slice none (0) (0) ∧ Value.slice none (0) (0)
  = Value.slice none (0) (0) ∧ Value.slice none (0) (0) = Value.slice none (0) (0) ∧ Value.slice none (0) (0) = Value.slice none (0) (0) ∧ x = x ∧ c2 = c2 ∧ fs =
  fs ∧ c6 = c6 ∧ D.lt x c6 = D.lt x c6 ∧ x_3 = x_3 ∧ c1 = c1 ∧ ls = ls ∧ c9 = c9 ∧ D.lt x_3 c9 = D.lt x_3 c9 ∧ l = l ∧ sealG l = sealG l ∧ cs = cs ∧ Value.slice
  none (0) (0) = Value.slice none (0) (0) ∧ Value.slice none (0) (0) = Value.slice none (0) (0) ∧ offXs fs x = offXs fs x ∧ linXs ls x_3 = linXs ls x_3 ∧ c32 =
  D.len (claXs ks y) ∧ c33 = claXs ks y ∧ True) ∧ D.nlt (D.nat (D.sub c12 y)) (D.nat (D.sub c12 x_6))) ∧ (D.lt x_6 c12 = false → cs = cs ∧ ns = ns ∧ os = os ∧ fs
  = fs ∧ ls = ls ∧ ks = ks ∧ l = l ∧ s = s ∧ q = q ∧ c3 = c3 ∧ 1 = 1 ∧ 0 = 0 ∧ 0 = 0 ∧ false = false ∧ true = true ∧ 1 = 1 ∧ 0 = 0 ∧ 0 = 0 ∧ x = x ∧ x_3 = x_3 ∧
  x_6 = x_6 ∧ true = true ∧ cs = cs ∧ ns = ns ∧ os = os ∧ fs = fs ∧ ls = ls ∧ ks = ks ∧ l = l ∧ s = s ∧ c4 = c4 ∧ c5 = c5 ∧ q = q ∧ 1 = 1 ∧ 0 = 0 ∧ 0 = 0 ∧ l = l
  ∧ sealG l = sealG l ∧ 1 = 1 ∧ 0 = 0 ∧ 1 = 1 ∧ c3 = c3 ∧ cs = cs ∧ cs = cs ∧ Value.slice none (0) (0) = Value.slice none (0) (0) ∧ Value.slice none (0) (0) =
  Value.slice none (0) (0) ∧ Value.slice none (0) (0) = Value.slice none (0) (0) ∧ Value.slice none (0) (0) = Value.slice none (0) (0) ∧ Value.slice none (0) (0)
  = Value.slice none (0) (0) ∧ x = x ∧ c2 = c2 ∧ fs = fs ∧ c6 = c6 ∧ D.lt x c6 = D.lt x c6 ∧ x_3 = x_3 ∧ c1 = c1 ∧ ls = ls ∧ c9 = c9 ∧ D.lt x_3 c9 = D.lt x_3 c9
  ∧ x_6 = x_6 ∧ ks = ks ∧ ks = ks ∧ c12 = c12 ∧ D.lt x_6 c12 = D.lt x_6 c12 ∧ l = l ∧ sealG l = sealG l ∧ cs = cs ∧ Value.slice none (0) (0) = Value.slice none
  (0) (0) ∧ Value.slice none (0) (0) = Value.slice none (0) (0) ∧ offXs fs x = offXs fs x ∧ linXs ls x_3 = linXs ls x_3 ∧ c29 = c29 ∧ claXs ks x_6 = claXs ks x_6
  ∧ (true = true → 1 = 1) ∧ (true = true → 0 = 0) ∧ (true = true → true = true → true = true) ∧ (true = true → true = true → true = true) ∧ (true = true → limI l
  ∧ netP c3) ∧ (true = true → 1 = 1) ∧ (true = true → 0 = 0) ∧ (true = true → 1 = 1) ∧ (true = true → 0 = 0) ∧ (true = true → true = true → true = true) ∧ (true
  = true → true = true → true = true) ∧ (true = true → limI l ∧ netP c35) ∧ (true = true → true = true → true = true) ∧ (true = true → true = true → true = true)
  ∧ (D.and true true = true → true = true) ∧ D.cnd true (D.eq (checkF c3 l (sealG l)) (checkF c35 l (sealG l))) false = true ∧ True)))) ∧ (q = false → 1 = 1 ∧ 0
  = 0 ∧ (∃ x, upL x c6 ∧ cs = cs ∧ ns = ns ∧ os = os ∧ fs = fs ∧ ls = ls ∧ ks = ks ∧ l = l ∧ s = s ∧ q = q ∧ c3 = c3 ∧ 1 = 1 ∧ 0 = 0 ∧ 0 = 0 ∧ false = false ∧
  true = true ∧ 1 = 1 ∧ 0 = 0 ∧ 0 = 0 ∧ (0 : Int) = x ∧ true = true ∧ cs = cs ∧ ns = ns ∧ os = os ∧ fs = fs ∧ ls = ls ∧ ks = ks ∧ l = l ∧ s = s ∧ c4 = c4 ∧ c5 =
  c5 ∧ q = q ∧ c3 = c3 ∧ cs = cs ∧ cs = cs ∧ Value.slice none (0) (0) = Value.slice none (0) (0) ∧ Value.slice none (0) (0) = Value.slice none (0) (0) ∧
  Value.slice none (0) (0) = Value.slice none (0) (0) ∧ Value.slice none (0) (0) = Value.slice none (0) (0) ∧ Value.slice none (0) (0) = Value.slice none (0) (0)
  ∧ l = l ∧ s = s ∧ cs = cs ∧ Value.slice none (0) (0) = Value.slice none (0) (0) ∧ Value.slice none (0) (0) = Value.slice none (0) (0) ∧ D.len (offXs fs x) = 0
  ∧ offXs fs x = D.nil (ByteArray × Int × Int × Int × Int × Int × List ByteArray) ∧ Value.slice none (0) (0) = Value.slice none (0) (0) ∧ Value.slice none (0)
  (0) = Value.slice none (0) (0) ∧ offXs fs x = D.nil (ByteArray × Int × Int × Int × Int × Int × List ByteArray) ∧ True) ∧ ∀ (x : Int),
 let c36 := D.len (offXs fs x);
 let c37 := (D.get fs (D.nat x) c7).snd.snd;
 let c38 := c37.snd.snd;
 let c39 := [(ByteArray.mk #[(88 : UInt8)], (7 : Int), c37.fst, (0 : Int), c38.fst, c38.snd.fst, c8)];
 let c40 := D.nadd c36 (D.len c39);
 let c41 := D.app (offXs fs x) c39;
 let c42 := D.add x (1 : Int); upL x c6 → (D.lt x c6 = true → D.ile (0 : Int) x ∧ D.ilt x c6 ∧ 1 = 1 ∧ 0 = 0 ∧ 1 = 1 ∧ 1 = 1 ∧ 0 = 0 ∧ 1 = 1 ∧ 1 = 1 ∧ 0 = 0 ∧ 1
  = 1 ∧ 1 = 1 ∧ 0 = 0 ∧ 1 = 1 ∧ 1 = 1 ∧ 0 = 0 ∧ c36 = c36 ∧ D.nle (D.nmul c40 (80)) (140737488355328) ∧ D.nle c40 (9223372036854775807) ∧ 1 = 1 ∧ 1 = 1 ∧ 0 = 0 ∧
  D.len c41 = c40 ∧ inR IntKind.i64 c42 ∧ ∃ y, upL y c6 ∧ (cs = cs ∧ ns = ns ∧ os = os ∧ fs = fs ∧ ls = ls ∧ ks = ks ∧ l = l ∧ s = s ∧ q = q ∧ c3 = c3 ∧ 1 = 1 ∧
  0 = 0 ∧ 0 = 0 ∧ false = false ∧ true = true ∧ 1 = 1 ∧ 0 = 0 ∧ 0 = 0 ∧ c42 = y ∧ true = true ∧ cs = cs ∧ ns = ns ∧ os = os ∧ fs = fs ∧ ls = ls ∧ ks = ks ∧ l = l
  ∧ s = s ∧ c4 = c4 ∧ c5 = c5 ∧ q = q ∧ c3 = c3 ∧ cs = cs ∧ cs = cs ∧ Value.slice none (0) (0) = Value.slice none (0) (0) ∧ Value.slice none (0) (0) =
  Value.slice none (0) (0) ∧ Value.slice none (0) (0) = Value.slice none (0) (0) ∧ Value.slice none (0) (0) = Value.slice none (0) (0) ∧ Value.slice none (0) (0)
  = Value.slice none (0) (0) ∧ l = l ∧ s = s ∧ cs = cs ∧ Value.slice none (0) (0) = Value.slice none (0) (0) ∧ Value.slice none (0) (0) = Value.slice none (0)
  (0) ∧ c40 = D.len (offXs fs y) ∧ Value.slice none (0) (0) = Value.slice none (0) (0) ∧ Value.slice none (0) (0) = Value.slice none (0) (0) ∧ c41 = offXs fs y ∧
  True) ∧ D.nlt (D.nat (D.sub c6 y)) (D.nat (D.sub c6 x))) ∧ (D.lt x c6 = false → cs = cs ∧ ns = ns ∧ os = os ∧ fs = fs ∧ ls = ls ∧ ks = ks ∧ l = l ∧ s = s ∧ q =
  q ∧ c3 = c3 ∧ 1 = 1 ∧ 0 = 0 ∧ 0 = 0 ∧ false = false ∧ true = true ∧ 1 = 1 ∧ 0 = 0 ∧ 0 = 0 ∧ x = x ∧ true = true ∧ cs = cs ∧ ns = ns ∧ os = os ∧ fs = fs ∧ ls =
  ls ∧ ks = ks ∧ l = l ∧ s = s ∧ c4 = c4 ∧ c5 = c5 ∧ q = q ∧ c3 = c3 ∧ cs = cs ∧ cs = cs ∧ Value.slice none (0) (0) = Value.slice none (0) (0) ∧ Value.slice none
  (0) (0) = Value.slice none (0) (0) ∧ Value.slice none (0) (0) = Value.slice none (0) (0) ∧ Value.slice none (0) (0) = Value.slice none (0) (0) ∧ Value.slice
  none (0) (0) = Value.slice none (0) (0) ∧ x = x ∧ c2 = c2 ∧ fs = fs ∧ c6 = c6 ∧ D.lt x c6 = D.lt x c6 ∧ l = l ∧ s = s ∧ cs = cs ∧ Value.slice none (0) (0) =
  Value.slice none (0) (0) ∧ Value.slice none (0) (0) = Value.slice none (0) (0) ∧ c36 = c36 ∧ offXs fs x = offXs fs x ∧ Value.slice none (0) (0) = Value.slice
  none (0) (0) ∧ Value.slice none (0) (0) = Value.slice none (0) (0) ∧ (∃ x_3, upL x_3 c9 ∧ cs = cs ∧ ns = ns ∧ os = os ∧ fs = fs ∧ ls = ls ∧ ks = ks ∧ l = l ∧ s
  = s ∧ q = q ∧ c3 = c3 ∧ 1 = 1 ∧ 0 = 0 ∧ 0 = 0 ∧ false = false ∧ true = true ∧ 1 = 1 ∧ 0 = 0 ∧ 0 = 0 ∧ x = x ∧ (0 : Int) = x_3 ∧ true = true ∧ cs = cs ∧ ns = ns
  ∧ os = os ∧ fs = fs ∧ ls = ls ∧ ks = ks ∧ l = l ∧ s = s ∧ c4 = c4 ∧ c5 = c5 ∧ q = q ∧ c3 = c3 ∧ cs = cs ∧ cs = cs ∧ Value.slice none (0) (0) = Value.slice none
  (0) (0) ∧ Value.slice none (0) (0) = Value.slice none (0) (0) ∧ Value.slice none (0) (0) = Value.slice none (0) (0) ∧ Value.slice none (0) (0) = Value.slice
  none (0) (0) ∧ Value.slice none (0) (0) = Value.slice none (0) (0) ∧ x = x ∧ c2 = c2 ∧ fs = fs ∧ c6 = c6 ∧ D.lt x c6 = D.lt x c6 ∧ l = l ∧ s = s ∧ cs = cs ∧
  Value.slice none (0) (0) = Value.slice none (0) (0) ∧ Value.slice none (0) (0) = Value.slice none (0) (0) ∧ offXs fs x = offXs fs x ∧ D.len (linXs ls x_3) = 0
  ∧ linXs ls x_3 = D.nil (ByteArray × Int × Int × Int × Int × Int) ∧ Value.slice none (0) (0) = Value.slice none (0) (0) ∧ linXs ls x_3 = D.nil (ByteArray × Int
  × Int × Int × Int × Int) ∧ True) ∧ ∀ (x_3 : Int),
 let c43 := D.len (linXs ls x_3);
 let c44 := (D.get ls (D.nat x_3) c11).snd;
 let c45 := c44.snd;
 let c46 := c45.snd;
 let c47 := [(ByteArray.mk (D.nil UInt8).toArray, c44.fst, c45.fst, c46.fst, c46.snd.fst, (-1 : Int))];
 let c48 := D.nadd c43 (D.len c47);
 let c49 := D.app (linXs ls x_3) c47;
 let c50 := D.add x_3 (1 : Int); upL x_3 c9 → (D.lt x_3 c9 = true → D.ile (0 : Int) x_3 ∧ D.ilt x_3 c9 ∧ 1 = 1 ∧ 0 = 0 ∧ 1 = 1 ∧ 1 = 1 ∧ 0 = 0 ∧ 1 = 1 ∧ 1 = 1 ∧
  0 = 0 ∧ 1 = 1 ∧ 1 = 1 ∧ 0 = 0 ∧ 1 = 1 ∧ 1 = 1 ∧ 0 = 0 ∧ 1 = 1 ∧ 1 = 1 ∧ 0 = 0 ∧ c43 = c43 ∧ D.nle (D.nmul c48 (56)) (140737488355328) ∧ D.nle c48
  (9223372036854775807) ∧ 1 = 1 ∧ 1 = 1 ∧ 0 = 0 ∧ D.len c49 = c48 ∧ inR IntKind.i64 c50 ∧ ∃ y, upL y c9 ∧ (cs = cs ∧ ns = ns ∧ os = os ∧ fs = fs ∧ ls = ls ∧ ks =
  ks ∧ l = l ∧ s = s ∧ q = q ∧ c3 = c3 ∧ 1 = 1 ∧ 0 = 0 ∧ 0 = 0 ∧ false = false ∧ true = true ∧ 1 = 1 ∧ 0 = 0 ∧ 0 = 0 ∧ x = x ∧ c50 = y ∧ true = true ∧ cs = cs ∧
  ns = ns ∧ os = os ∧ fs = fs ∧ ls = ls ∧ ks = ks ∧ l = l ∧ s = s ∧ c4 = c4 ∧ c5 = c5 ∧ q = q ∧ c3 = c3 ∧ cs = cs ∧ cs = cs ∧ Value.slice none (0) (0) =
  Value.slice none (0) (0) ∧ Value.slice none (0) (0) = Value.slice none (0) (0) ∧ Value.slice none (0) (0) = Value.slice none (0) (0) ∧ Value.slice none (0) (0)
  = Value.slice none (0) (0) ∧ Value.slice none (0) (0) = Value.slice none (0) (0) ∧ x = x ∧ c2 = c2 ∧ fs = fs ∧ c6 = c6 ∧ D.lt x c6 = D.lt x c6 ∧ l = l ∧ s = s
  ∧ cs = cs ∧ Value.slice none (0) (0) = Value.slice none (0) (0) ∧ Value.slice none (0) (0) = Value.slice none (0) (0) ∧ offXs fs x = offXs fs x ∧ c48 = D.len
  (linXs ls y) ∧ Value.slice none (0) (0) = Value.slice none (0) (0) ∧ c49 = linXs ls y ∧ True) ∧ D.nlt (D.nat (D.sub c9 y)) (D.nat (D.sub c9 x_3))) ∧ (D.lt x_3
  c9 = false → cs = cs ∧ ns = ns ∧ os = os ∧ fs = fs ∧ ls = ls ∧ ks = ks ∧ l = l ∧ s = s ∧ q = q ∧ c3 = c3 ∧ 1 = 1 ∧ 0 = 0 ∧ 0 = 0 ∧ false = false ∧ true = true
  ∧ 1 = 1 ∧ 0 = 0 ∧ 0 = 0 ∧ x = x ∧ x_3 = x_3 ∧ true = true ∧ cs = cs ∧ ns = ns ∧ os = os ∧ fs = fs ∧ ls = ls ∧ ks = ks ∧ l = l ∧ s = s ∧ c4 = c4 ∧ c5 = c5 ∧ q =
  q ∧ c3 = c3 ∧ cs = cs ∧ cs = cs ∧ Value.slice none (0) (0) = Value.slice none (0) (0) ∧ Value.slice none (0) (0) = Value.slice none (0) (0) ∧ Value.slice none
  (0) (0) = Value.slice none (0) (0) ∧ Value.slice none (0) (0) = Value.slice none (0) (0) ∧ Value.slice none (0) (0) = Value.slice none (0) (0) ∧ x = x ∧ c2 =
  c2 ∧ fs = fs ∧ c6 = c6 ∧ D.lt x c6 = D.lt x c6 ∧ x_3 = x_3 ∧ c1 = c1 ∧ ls = ls ∧ c9 = c9 ∧ D.lt x_3 c9 = D.lt x_3 c9 ∧ l = l ∧ s = s ∧ cs = cs ∧ Value.slice
  none (0) (0) = Value.slice none (0) (0) ∧ Value.slice none (0) (0) = Value.slice none (0) (0) ∧ offXs fs x = offXs fs x ∧ c43 = c43 ∧ linXs ls x_3 = linXs ls
  x_3 ∧ Value.slice none (0) (0) = Value.slice none (0) (0) ∧ (∃ x_6, upL x_6 c12 ∧ cs = cs ∧ ns = ns ∧ os = os ∧ fs = fs ∧ ls = ls ∧ ks = ks ∧ l = l ∧ s = s ∧ q
  = q ∧ c3 = c3 ∧ 1 = 1 ∧ 0 = 0 ∧ 0 = 0 ∧ false = false ∧ true = true ∧ 1 = 1 ∧ 0 = 0 ∧ 0 = 0 ∧ x = x ∧ x_3 = x_3 ∧ (0 : Int) = x_6 ∧ true = true ∧ cs = cs ∧ ns
  = ns ∧ os = os ∧ fs = fs ∧ ls = ls ∧ ks = ks ∧ l = l ∧ s = s ∧ c4 = c4 ∧ c5 = c5 ∧ q = q ∧ c3 = c3 ∧ cs = cs ∧ cs = cs ∧ Value.slice none (0) (0) = Value.slice
  none (0) (0) ∧ Value.slice none (0) (0) = Value.slice none (0) (0) ∧ Value.slice none (0) (0) = Value.slice none (0) (0) ∧ Value.slice none (0) (0) =
  Value.slice none (0) (0) ∧ Value.slice none (0) (0) = Value.slice none (0) (0) ∧ x = x ∧ c2 = c2 ∧ fs = fs ∧ c6 = c6 ∧ D.lt x c6 = D.lt x c6 ∧ x_3 = x_3 ∧ c1 =
  c1 ∧ ls = ls ∧ c9 = c9 ∧ D.lt x_3 c9 = D.lt x_3 c9 ∧ l = l ∧ s = s ∧ cs = cs ∧ Value.slice none (0) (0) = Value.slice none (0) (0) ∧ Value.slice none (0) (0) =
  Value.slice none (0) (0) ∧ offXs fs x = offXs fs x ∧ linXs ls x_3 = linXs ls x_3 ∧ D.len (claXs ks x_6) = 0 ∧ claXs ks x_6 = D.nil (ByteArray × Int × Int) ∧
  claXs ks x_6 = D.nil (ByteArray × Int × Int) ∧ True) ∧ ∀ (x_6 : Int),
 let c51 := D.len (claXs ks x_6);
 let c52 := (D.get ks (D.nat x_6) c13).snd;
 let c53 := [(ByteArray.mk (D.nil UInt8).toArray, c52.fst, c52.snd)];
 let c54 := D.nadd c51 (D.len c53);
 let c55 := D.app (claXs ks x_6) c53;
 let c56 := D.add x_6 (1 : Int);
 let c57 := (cs, D.nil ByteArray, D.nil ByteArray, offXs fs x, linXs ls x_3, claXs ks x_6); upL x_6 c12 → (D.lt x_6 c12 = true → 1 = 1 ∧ 1 = 1 ∧ 0 = 0 ∧ D.ile (0
  : Int) x_6 ∧ D.ilt x_6 c12 ∧ D.ile (0 : Int) x_6 ∧ D.ilt x_6 c12 ∧ c51 = c51 ∧ D.nle (D.nmul c54 (32)) (140737488355328) ∧ D.nle c54 (9223372036854775807) ∧ 1
  = 1 ∧ 1 = 1 ∧ 0 = 0 ∧ D.len c55 = c54 ∧ inR IntKind.i64 c56 ∧ ∃ y, upL y c12 ∧ (cs = cs ∧ ns = ns ∧ os = os ∧ fs = fs ∧ ls = ls ∧ ks = ks ∧ l = l ∧ s = s ∧ q =
  q ∧ c3 = c3 ∧ 1 = 1 ∧ 0 = 0 ∧ 0 = 0 ∧ false = false ∧ true = true ∧ 1 = 1 ∧ 0 = 0 ∧ 0 = 0 ∧ x = x ∧ x_3 = x_3 ∧ c56 = y ∧ true = true ∧ cs = cs ∧ ns = ns ∧ os
  = os ∧ fs = fs ∧ ls = ls ∧ ks = ks ∧ l = l ∧ s = s ∧ c4 = c4 ∧ c5 = c5 ∧ q = q ∧ c3 = c3 ∧ cs = cs ∧ cs = cs ∧ Value.slice none (0) (0) = Value.slice none (0)
  (0) ∧ Value.slice none (0) (0) = Value.slice none (0) (0) ∧ Value.slice none (0) (0) = Value.slice none (0) (0) ∧ Value.slice none (0) (0) = Value.slice none
  (0) (0) ∧ Value.slice none (0) (0) = Value.slice none (0) (0) ∧ x = x ∧ c2 = c2 ∧ fs = fs ∧ c6 = c6 ∧ D.lt x c6 = D.lt x c6 ∧ x_3 = x_3 ∧ c1 = c1 ∧ ls = ls ∧
  c9 = c9 ∧ D.lt x_3 c9 = D.lt x_3 c9 ∧ l = l ∧ s = s ∧ cs = cs ∧ Value.slice none (0) (0) = Value.slice none (0) (0) ∧ Value.slice none (0) (0) = Value.slice
  none (0) (0) ∧ offXs fs x = offXs fs x ∧ linXs ls x_3 = linXs ls x_3 ∧ c54 = D.len (claXs ks y) ∧ c55 = claXs ks y ∧ True) ∧ D.nlt (D.nat (D.sub c12 y)) (D.nat
  (D.sub c12 x_6))) ∧ (D.lt x_6 c12 = false → cs = cs ∧ ns = ns ∧ os = os ∧ fs = fs ∧ ls = ls ∧ ks = ks ∧ l = l ∧ s = s ∧ q = q ∧ c3 = c3 ∧ 1 = 1 ∧ 0 = 0 ∧ 0 = 0
  ∧ false = false ∧ true = true ∧ 1 = 1 ∧ 0 = 0 ∧ 0 = 0 ∧ x = x ∧ x_3 = x_3 ∧ x_6 = x_6 ∧ true = true ∧ cs = cs ∧ ns = ns ∧ os = os ∧ fs = fs ∧ ls = ls ∧ ks = ks
  ∧ l = l ∧ s = s ∧ c4 = c4 ∧ c5 = c5 ∧ q = q ∧ c3 = c3 ∧ cs = cs ∧ cs = cs ∧ Value.slice none (0) (0) = Value.slice none (0) (0) ∧ Value.slice none (0) (0) =
  Value.slice none (0) (0) ∧ Value.slice none (0) (0) = Value.slice none (0) (0) ∧ Value.slice none (0) (0) = Value.slice none (0) (0) ∧ Value.slice none (0) (0)
  = Value.slice none (0) (0) ∧ x = x ∧ c2 = c2 ∧ fs = fs ∧ c6 = c6 ∧ D.lt x c6 = D.lt x c6 ∧ x_3 = x_3 ∧ c1 = c1 ∧ ls = ls ∧ c9 = c9 ∧ D.lt x_3 c9 = D.lt x_3 c9
  ∧ x_6 = x_6 ∧ ks = ks ∧ ks = ks ∧ c12 = c12 ∧ D.lt x_6 c12 = D.lt x_6 c12 ∧ l = l ∧ s = s ∧ cs = cs ∧ Value.slice none (0) (0) = Value.slice none (0) (0) ∧
  Value.slice none (0) (0) = Value.slice none (0) (0) ∧ offXs fs x = offXs fs x ∧ linXs ls x_3 = linXs ls x_3 ∧ c51 = c51 ∧ claXs ks x_6 = claXs ks x_6 ∧ (true =
  true → 1 = 1) ∧ (true = true → 0 = 0) ∧ (true = true → true = true → true = true) ∧ (true = true → true = true → true = true) ∧ (true = true → limI l ∧ netP
  c3) ∧ (true = true → 1 = 1) ∧ (true = true → 0 = 0) ∧ (true = true → 1 = 1) ∧ (true = true → 0 = 0) ∧ (true = true → true = true → true = true) ∧ (true = true
  → true = true → true = true) ∧ (true = true → limI l ∧ netP c57) ∧ (true = true → true = true → true = true) ∧ (true = true → true = true → true = true) ∧
  (D.and true true = true → true = true) ∧ D.cnd true (D.eq (checkF c3 l s) (checkF c57 l s)) false = true ∧ True))))))) :
    evF { mkc KH with mb := fun t => t == 4 } (othA (cs, ns, os, fs, ls, ks)) 6 [.agg [.dat (.sl C) cs, .dat (.sl S) ns, .dat (.sl S) os, .dat (.sl Of) fs, .dat (.sl Ln) ls, .dat (.sl Kl) ks], .agg [.dat R l, .dat I s], .dat .bool q] [] ⟨True, .dat .bool true, []⟩ := @of_eq _ _ (by kernel_rfl) hvc

theorem getD_map {α β : Type} (f : α → β) (l : List α) (i : Nat) (d : α) : (l.map f).getD i (f d) = f (l.getD i d) := by
  rw [List.getD_eq_getElem?_getD, List.getElem?_map, List.getD_eq_getElem?_getD]
  cases l[i]? <;> rfl
theorem xs_next {α β : Type} {f : α → β} {xs : List α} {x : Int} (d : α) (h0 : 0 ≤ x) (h1 : x < xs.length) : (xs.take (x + 1).toNat).map f = (xs.take x.toNat).map f ++ [f (xs.getD x.toNat d)] := by
  rw [show (x + 1).toNat = x.toNat + 1 by omega, List.take_add_one, List.getD_eq_getElem?_getD, List.getElem?_eq_getElem (show x.toNat < xs.length by omega), List.map_append]
  rfl
theorem xs_end {α β : Type} {f : α → β} {xs : List α} {x : Int} (h1 : ¬ x < xs.length) : (xs.take x.toNat).map f = xs.map f := by
  rw [List.take_of_length_le (by omega)]
theorem xs_len {α β : Type} {f : α → β} {xs : List α} {x : Int} : ((xs.take x.toNat).map f).length ≤ xs.length := by
  rw [List.length_map, List.length_take]; omega
theorem xs_step {α β : Type} {f : α → β} {xs : List α} (d : α) {S : Nat} {x : Int} (hx : upL x xs.length) (hlt : x < xs.length) (hS : (xs.length + 1) * S ≤ 140737488355328) (hl : xs.length ≤ 1000000) {y0 : β} (hy : f (xs.getD x.toNat d) = y0) :
    0 ≤ x ∧ x < xs.length ∧ (((xs.take x.toNat).map f).length + [y0].length) * S ≤ 140737488355328 ∧ ((xs.take x.toNat).map f).length + [y0].length ≤ 9223372036854775807 ∧
      ((xs.take x.toNat).map f ++ [y0]).length = ((xs.take x.toNat).map f).length + [y0].length ∧ inR IntKind.i64 (x + 1) ∧
      ∃ y, upL y xs.length ∧ (x + 1 = y ∧ ((xs.take x.toNat).map f).length + [y0].length = ((xs.take y.toNat).map f).length ∧ (xs.take x.toNat).map f ++ [y0] = (xs.take y.toNat).map f) ∧
        ((xs.length : Int) - y).toNat < ((xs.length : Int) - x).toNat := by
  have h0 : 0 ≤ x := hx.1
  have e := xs_next (f := f) d h0 hlt
  rw [hy] at e
  have hle := xs_len (f := f) (xs := xs) (x := x)
  refine ⟨h0, hlt, Nat.le_trans (Nat.mul_le_mul_right S (by simp only [List.length_singleton]; omega)) hS, by simp only [List.length_singleton]; omega, List.length_append, in_big (by omega), x + 1, ⟨by omega, by omega⟩, ⟨rfl, by rw [e, List.length_append], e.symm⟩, by omega⟩
section
variable (n : Net)
theorem offX_at (o : Int) : (offAt (netX n) o).2.2.1 = (offAt n o).2.2.1 ∧ (offAt (netX n) o).2.2.2.2.1 = (offAt n o).2.2.2.2.1 ∧ (offAt (netX n) o).2.2.2.2.2.1 = (offAt n o).2.2.2.2.2.1 := by
  unfold offAt netX
  show ((n.2.2.2.1.map offX).getD o.toNat _).2.2.1 = _ ∧ _
  rw [List.getD_eq_getElem?_getD, List.getElem?_map, List.getD_eq_getElem?_getD]
  cases n.2.2.2.1[o.toNat]? <;> exact ⟨rfl, rfl, rfl⟩
theorem linX_at (l : Int) : (linAt (netX n) l).2.1 = (linAt n l).2.1 ∧ (linAt (netX n) l).2.2.1 = (linAt n l).2.2.1 ∧ (linAt (netX n) l).2.2.2.1 = (linAt n l).2.2.2.1 ∧ (linAt (netX n) l).2.2.2.2.1 = (linAt n l).2.2.2.2.1 := by
  unfold linAt netX
  show ((n.2.2.2.2.1.map linX).getD l.toNat _).2.1 = _ ∧ _
  rw [List.getD_eq_getElem?_getD, List.getElem?_map, List.getD_eq_getElem?_getD]
  cases n.2.2.2.2.1[l.toNat]? <;> exact ⟨rfl, rfl, rfl, rfl⟩
theorem claX_at (k : Int) : (claAt (netX n) k).2 = (claAt n k).2 := by
  unfold claAt netX
  show ((n.2.2.2.2.2.map claX).getD k.toNat _).2 = _
  rw [List.getD_eq_getElem?_getD, List.getElem?_map, List.getD_eq_getElem?_getD]
  cases n.2.2.2.2.2[k.toNat]? <;> rfl
theorem calX_at (o : Int) : calAt (netX n) o = calAt n o := by
  unfold calAt
  rw [(offX_at n o).1]; rfl
theorem usX : usF (netX n) = usF n := by
  unfold usF
  have e1 : (netX n).1 = n.1 := rfl
  have e2 : (netX n).2.2.2.1 = n.2.2.2.1.map offX := rfl
  have e3 : (netX n).2.2.2.2.1 = n.2.2.2.2.1.map linX := rfl
  have e4 : (netX n).2.2.2.2.2 = n.2.2.2.2.2.map claX := rfl
  rw [e1, e2, e3, e4, List.all_map, List.all_map, List.all_map]
  have h1 : offGood (netX n) ∘ offX = offGood n := by funext o; rfl
  have h2 : linGood (netX n) ∘ linX = linGood n := by
    funext l
    show linGood (netX n) (linX l) = _
    unfold linGood officeF
    rw [e2, List.length_map]; rfl
  have h3 : claGood ∘ claX = claGood := by funext k; rfl
  rw [h1, h2, h3]
theorem cellX (o l : Int) : cellGood (netX n) o l = cellGood n o l := by
  unfold cellGood
  rw [(linX_at n l).1]
  have e3 : (netX n).2.2.2.2.1.length = n.2.2.2.2.1.length := List.length_map _
  rw [e3]
theorem fitX (p : Plan) : fitF (netX n) p = fitF n p := by
  unfold fitF
  have e2 : (netX n).2.2.2.1.length = n.2.2.2.1.length := List.length_map _
  have e4 : (netX n).2.2.2.2.2.length = n.2.2.2.2.2.length := List.length_map _
  have e5 : ∀ (i : Nat) (r : List Int), rowGood (netX n) i r = rowGood n i r := fun i r => by
    unfold rowGood
    rw [show cellGood (netX n) i = cellGood n i from funext fun l => cellX n i l]
  rw [e2, e4]
  simp only [e5]
theorem rdyX (o t : Int) : rdyF (netX n) o t = rdyF n o t := by
  unfold rdyF
  rw [(offX_at n o).2.1, (offX_at n o).2.2]
theorem okDayX (o c : Int) (p : Plan) (x t : Int) : okDay (netX n) o c p x t = okDay n o c p x t := by
  unfold okDay
  rw [calX_at, (linX_at n c).2.2.1, rdyX]
theorem folX (p : Plan) (d : Int) : ∀ (f : Nat) (o t : Int) (xs : List Int), folF (netX n) p d f o t xs = folF n p d f o t xs
  | 0, _, _, _ => rfl
  | f + 1, o, t, xs => by
    have e : ∀ n : Net, folF n p d (f + 1) o t xs = if o = d then (true, t, xs) else if cellAt p o d = -1 then (false, t, xs) else if hasOne xs = false then (false, t, xs) else
      if okDay n o (cellAt p o d) p (hd xs) t = true then folF n p d f (linAt n (cellAt p o d)).2.2.1 (momF (calAt n o).1 (hd xs - 2 + p.1) (linAt n (cellAt p o d)).2.2.2.1 + (linAt n (cellAt p o d)).2.2.2.2.1) (tl xs) else (false, t, tl xs) := fun n => rfl
    rw [e, e, okDayX, calX_at, (linX_at n _).2.1, (linX_at n _).2.2.1, (linX_at n _).2.2.2, folX p d f]
theorem cutsX (p : Plan) (k o : Int) : cutsF (netX n) p k o = cutsF n p k o := by
  unfold cutsF cutD
  have e : ∀ x, cutM (netX n) k o x = cutM n k o x := fun x => by unfold cutM; rw [calX_at, claX_at]
  simp only [calX_at, e]
theorem proX (p : Plan) (k o d c : Int) (xs : List Int) : proOk (netX n) p k o d c xs = proOk n p k o d c xs := by
  have e1 : folOk (netX n) p o d c xs = folOk n p o d c xs := by unfold folOk; rw [folX]
  have e2 : folT (netX n) p o d c xs = folT n p o d c xs := by unfold folT; rw [folX]
  unfold proOk needL lastD begD
  rw [e1, e2]
  simp only [calX_at, claX_at, rdyX]
theorem oneX (p : Plan) (k o d : Int) : oneRun (netX n) p k o d = oneRun n p k o d := by
  funext j xs
  unfold oneRun
  rw [cutsX, proX]
  unfold folR
  rw [folX]
theorem allX (p : Plan) (l : List Int) : allRun (netX n) p l = allRun n p l := by
  unfold allRun st1
  congr 1
  funext k xs
  unfold tabRun
  congr 1
  funext o ys
  unfold rowRun
  congr 1
  funext d zs
  unfold cellRun
  rw [cutsX, oneX]
theorem checkX (l : List Int) (s : Int) : checkF (netX n) l s = checkF n l s := by
  unfold checkF fitsAll runE
  rw [usX, fitX, allX]
end
theorem lr_oth (s : Int) (q : Bool) (l : List Int) (cs : List Cal) (ns os : List ByteArray) (fs : List Off) (ls : List Line) (ks : List Cla) : SoundC Try.prog G0 6 [.agg [.dat (.sl C) cs, .dat (.sl S) ns, .dat (.sl S) os, .dat (.sl Of) fs, .dat (.sl Ln) ls, .dat (.sl Kl) ks], .agg [.dat R l, .dat I s], .dat .bool q] [] ⟨True, .dat .bool true, []⟩ := by
  refine sound_of_ev (c := { mkc KH with mb := fun t => t == 4 }) KHs KI0s hm (vc_oth s q l cs ns os fs ls ks ⟨rfl, fun hp => ?_⟩)
  simp only [cnd_or, cnd_and, D.and, D.or, D.not, Bool.true_and, Bool.and_true, Bool.false_or, Bool.or_false, eq_self, true_and, and_true, imp_self, implies_true, Bool.not_eq_true', Bool.or_eq_true, Bool.or_eq_false_iff, Bool.not_eq_false', Bool.and_eq_true, Bool.and_eq_false_imp, Bool.not_not, forall_const, exists_eq_right, exists_eq_right', exists_eq_left, exists_eq_left', Int.toNat_natCast, Nat.zero_add, Nat.mul_one, Int.ofNat_eq_natCast, D.nil, D.eq, D.ne, D.lt, D.gt, D.le, D.ge, D.beq, D.ilen, D.slen, D.ile, D.ilt, D.ine, D.nle, D.nlt, D.sub, D.add, D.mul, D.neg, D.nat, D.ofN, D.len, D.nadd, D.nmul, D.get, D.mn, D.mx, D.set, D.app, D.tail, D.part, D.seg, D.rep, D.at2, decide_eq_true_eq, decide_eq_false_iff_not, beq_iff_eq, bne_iff_ne, beq_eq_false_iff_ne, bne_eq_false_iff_eq, D.wrap, D.allNil]
  intro hf
  obtain ⟨l1, hn, _⟩ := fewAll_bnd hf
  have ll : limI l := limI_of (by omega)
  have n1 : fs.length ≤ 2000000000000000 := hn.1.1.2
  have hf2 : fewF (cs, ns, os, fs, ls, ks) = true := by
    unfold fewAll smF at hf
    simp only [Bool.and_eq_true] at hf
    exact hf.1.1.1
  obtain ⟨lc, _, _, lf, lL, lk⟩ := few_lens cs ns os fs ls ks (fewF_iff.1 hf2).1
  have z0 : ∀ k : Nat, upL 0 k := fun k => ⟨Int.le_refl _, Int.natCast_nonneg _⟩
  have end2 : ∀ (t : Int) (x y z : Int), ¬ x < (fs.length : Int) → ¬ y < (ls.length : Int) → ¬ z < (ks.length : Int) → (limI l ∧ netP (cs, ns, os, fs, ls, ks)) ∧ (limI l ∧ netP (cs, [], [], offXs fs x, linXs ls y, claXs ks z)) ∧ checkF (cs, ns, os, fs, ls, ks) l t = checkF (cs, [], [], offXs fs x, linXs ls y, claXs ks z) l t := fun t x y z hx hy hz => by
    have e1 : offXs fs x = fs.map offX := xs_end hx
    have e2 : linXs ls y = ls.map linX := xs_end hy
    have e3 : claXs ks z = ks.map claX := xs_end hz
    rw [e1, e2, e3]
    refine ⟨⟨ll, hn⟩, ⟨ll, ?_⟩, (checkX (cs, ns, os, fs, ls, ks) l t).symm⟩
    refine ⟨⟨⟨hn.1.1.1, ?_⟩, ?_⟩, ?_⟩
    · show (fs.map offX).length ≤ _; rw [List.length_map]; exact hn.1.1.2
    · show (ls.map linX).length ≤ _; rw [List.length_map]; exact hn.1.2
    · show (ks.map claX).length ≤ _; rw [List.length_map]; exact hn.2
  have fin : ∀ (t : Int) (x y : Int), ¬ x < (fs.length : Int) → ¬ y < (ls.length : Int) → _ := fun t x y hx hy => And.intro (⟨0, z0 ks.length, rfl, rfl, rfl, rfl⟩ : ∃ z, upL z ks.length ∧ 0 = z ∧ (claXs ks z).length = 0 ∧ claXs ks z = [] ∧ claXs ks z = []) fun (z : Int) (hz : upL z ks.length) => And.intro (fun hlt : z < (ks.length : Int) => And.intro hz.1 (And.intro hlt (xs_step (f := claX) (⟨#[]⟩, 0, 0) (S := 32) hz hlt (by omega) (by omega) rfl))) fun hge => end2 t x y z hx hy hge
  refine ⟨fun _ => ⟨ll, ⟨0, z0 _, rfl, rfl, rfl, rfl⟩, fun x hx => ⟨fun hlt => xs_step (f := offX) (⟨#[]⟩, 0, 0, 0, 0, 0, []) (S := 80) hx hlt (by omega) (by omega) rfl, fun hge => ⟨⟨0, z0 _, rfl, rfl, rfl, rfl⟩, fun y hy => ⟨fun hlt => xs_step (f := linX) (⟨#[]⟩, 0, 0, 0, 0, 0) (S := 56) hy hlt (by omega) (by omega) rfl, fun hge2 => fin _ x y hge hge2⟩⟩⟩⟩, fun _ => ⟨⟨0, z0 _, rfl, rfl, rfl, rfl⟩, fun x hx => ⟨fun hlt => xs_step (f := offX) (⟨#[]⟩, 0, 0, 0, 0, 0, []) (S := 80) hx hlt (by omega) (by omega) rfl, fun hge => ⟨⟨0, z0 _, rfl, rfl, rfl, rfl⟩, fun y hy => ⟨fun hlt => xs_step (f := linX) (⟨#[]⟩, 0, 0, 0, 0, 0) (S := 56) hy hlt (by omega) (by omega) rfl, fun hge2 => fin _ x y hge hge2⟩⟩⟩⟩⟩
end Go.Eng.In
