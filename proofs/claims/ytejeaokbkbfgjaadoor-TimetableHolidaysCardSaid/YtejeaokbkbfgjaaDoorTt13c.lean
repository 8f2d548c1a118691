/- PeTt13c -/
import Derived.Test.YtejeaokbkbfgjaaDoorW22
import Derived.Test.YtejeaokbkbfgjaaDoorTt11c
set_option linter.unusedSimpArgs false
set_option linter.unusedVariables false
set_option maxRecDepth 100000
namespace Go.Eng.Sv
open Go.Proofs

noncomputable def doneTo (h : List Int) (d k : Int) : Bool := (h.take k.toNat).any fun x => decide (x > d)
noncomputable def addN (h : List Int) (d : Int) : Nat → List Int
  | 0 => []
  | k + 1 => addN h d k ++ (if doneTo h d (k : Int) = false ∧ h.getD k 0 > d then [d] else []) ++ [h.getD k 0]
noncomputable def addTo (h : List Int) (d k : Int) : List Int := addN h d k.toNat
noncomputable def insF (h : List Int) (d : Int) : List Int := addTo h d h.length ++ (if doneTo h d h.length = false then [d] else [])
noncomputable def holTo (n : Net) (line a d k : Int) : Prop := fineF n line = true ∧ 0 ≤ a ∧ a ≤ 1000000 ∧ 0 ≤ k ∧ k ≤ (calF n line).2.2.length ∧ (∀ x ∈ (calF n line).2.2.take k.toNat, x ≠ d)
noncomputable def otherTo (n : Net) (line d : Int) (l : List Int) (k : Int) : List Int := (l.take k.toNat).filter fun t => decide (dayF (calF n line).1 t ≠ d)
noncomputable def othTo (n : Net) (line a : Int) (k : Int) : Prop := fineF n line = true ∧ 0 ≤ a ∧ a ≤ 1000000 ∧ 0 ≤ k ∧ k ≤ (depsF n line a (a + 43200)).length
noncomputable def keepL : List Nat → Nat → List AV → List AV
  | _, _, [] => []
  | l, i, a :: r => (if l.contains i then a else .top) :: keepL l (i + 1) r
noncomputable def keepT (l : List Nat) (s : St) : St := { s with tm := keepL l 0 s.tm }
noncomputable def bufNames (s : St) : List Nat := s.mem.filterMap fun p => match p.2 with
  | .buf _ _ _ _ => some p.1
  | _ => none
noncomputable def holA (n : Net) (line a : Int) : Ann := ⟨fun id s => match id with
  | 12 => match s.sig.T 14 with
    | .dat (.int .i64) d => some { α := Int, inv := fun k => holTo n line a d k, st := fun k => putM (putM (put (flat s) [(17, .dat I k), (16, .dat .bool (doneTo (calF n line).2.2 d k))]) 100 (.buf 3 I (addTo (calF n line).2.2 d k) [])) 1 (.var [.dat I (calF n line).1, .dat B (calF n line).2.1, .buf 100 (D.len (addTo (calF n line).2.2 d k))]), μ := fun k => D.nat (D.sub (D.ilen (calF n line).2.2) k) }
    | _ => none
  | 30 => match s.sig.T 137, s.sig.T 20, s.sig.T 14 with
    | .buf nm _, .dat (.sl (.int .i64)) l, .dat (.int .i64) d => some { α := Int, inv := fun k => othTo n line a k, st := fun k => putM (put (flat s) [(21, .dat I k), (19, .buf nm (D.len (otherTo n line d l k)))]) nm (.buf 3 I (otherTo n line d l k) []), μ := fun k => D.nat (D.sub (D.ilen l) k) }
    | _, _, _ => none
  | _ => none, fun id s => match id with
  | 22 => match s.sig.T 14 with
    | .dat (.int .i64) d => some (putM (keepT [1, 2, 4, 9, 10, 11, 14, 15] (frz (bufNames s) s)) 1 (.var [.dat I (calF n line).1, .dat B (calF n line).2.1, .dat R (insF (calF n line).2.2 d)]))
    | _ => none
  | 25 => some (keepT [1, 2, 4, 9, 10, 11, 14, 15, 18] (frz (bufNames s) s))
  | 35 => some (keepT [1, 2, 4, 9, 18, 19] (frz (bufNames s) s))
  | _ => none, fun _ _ => none⟩
set_option maxRecDepth 100000 in
theorem vc_lhol (line a raw : Int) (cs : List (Int × List Bool × List Int)) (ns os : List ByteArray) (fs : List Off) (ls : List Line) (ks : List Cla) (hvc :
    let c1 := (ls, ks);
    let c2 := (fs, c1);
    let c3 := (ns, os, c2);
    let c4 := (cs, c3);
    let c5 := fineF c4 line;
    let c6 := D.not c5;
    let c7 := D.not c6;
    let c8 := D.cnd c6 true (D.lt a (0 : Int));
    let c9 := D.not c8;
    let c10 := D.cnd c8 true (D.gt a (1000000 : Int));
    let c11 := D.get ls (D.nat line) (ByteArray.mk (D.nil UInt8).toArray, (0 : Int), (0 : Int), (0 : Int), (0 : Int), (0 : Int));
    let c12 := c11.snd;
    let c13 := c12.fst;
    let c14 := D.get fs (D.nat c13) (ByteArray.mk (D.nil UInt8).toArray, (0 : Int), (0 : Int), (0 : Int), (0 : Int), (0 : Int), D.nil ByteArray);
    let c15 := c14.snd.snd;
    let c16 := c15.fst;
    let c17 := D.nat c16;
    let c18 := D.get cs c17 ((0 : Int), D.nil Bool, D.nil Int);
    let c19 := c18.fst;
    let c20 := c18.snd;
    let c21 := c20.fst;
    let c22 := c20.snd;
    let c23 := dayF c19 a;
    let c24 := D.rem raw (30 : Int);
    let c25 := D.add c23 c24;
    let c26 := minF c19 a;
    let c27 := calF c4 line;
    let c28 := c27.snd;
    let c29 := c28.snd;
    let c30 := c27.fst;
    let c31 := c28.fst;
    let c32 := D.ilen c22;
    let c33 := [c25];
    let c34 := D.len c33;
    let c35 := D.ilen c29;
    let c36 := insF c29 c25;
    let c37 := D.nadd (0) (D.len cs);
    let c38 := D.app (D.nil (Int × List Bool × List Int)) cs;
    let c39 := D.len c38;
    let c40 := D.set c38 c17 (c30, c31, c36);
    let c41 := (c40, c3);
    let c42 := fewF c41;
    let c43 := D.not c42;
    let c44 := D.not c43;
    let c45 := D.cnd c43 true (D.not (soundF c41));
    let c46 := D.add a (43200 : Int);
    let c47 := depsF c4 line a c46;
    let c48 := D.ilen c47;
    let c49 := depsF c41 line a c46; true = true ∧ (u8P raw → True ∧ True ∧ (c7 = true → c7 = true → c7 = true) ∧ (D.and true c7 = true → c7 = true) ∧ (c9 = true →
     c9 = true → c9 = true) ∧ (D.and true c9 = true → c9 = true) ∧ (c10 = true → true = true ∧ True) ∧ (c10 = false → D.ile (0 : Int) line ∧ D.ilt line (D.ilen ls)
     ∧ D.ile (0 : Int) c13 ∧ D.ilt c13 (D.ilen fs) ∧ D.ile (0 : Int) c16 ∧ D.ilt c16 (D.ilen cs) ∧ 1 = 1 ∧ 0 = 0 ∧ 1 = 1 ∧ 0 = 0 ∧ okLocal c19 c21 c22 a ∧ inR
     IntKind.i64 raw ∧ D.ine (30 : Int) (0 : Int) ∧ inR IntKind.i64 c25 ∧ 1 = 1 ∧ 0 = 0 ∧ 1 = 1 ∧ 0 = 0 ∧ 1 = 1 ∧ 1 = 1 ∧ 0 = 0 ∧ (∃ x, holTo c4 line a c25 x ∧ cs =
     cs ∧ ns = ns ∧ os = os ∧ fs = fs ∧ ls = ls ∧ ks = ks ∧ line = line ∧ a = a ∧ raw = raw ∧ c4 = c4 ∧ true = true ∧ c16 = c16 ∧ 1 = 1 ∧ 0 = 0 ∧ 0 = 0 ∧ c23 = c23
     ∧ c26 = c26 ∧ c25 = c25 ∧ 1 = 1 ∧ 0 = 0 ∧ 0 = 0 ∧ false = doneTo c29 c25 x ∧ (0 : Int) = x ∧ true = true ∧ cs = cs ∧ ns = ns ∧ os = os ∧ fs = fs ∧ ls = ls ∧ ks
     = ks ∧ line = line ∧ c5 = c5 ∧ c6 = c6 ∧ c6 = c6 ∧ c8 = c8 ∧ c8 = c8 ∧ c10 = c10 ∧ c2 = c2 ∧ fs = fs ∧ c1 = c1 ∧ ls = ls ∧ line = line ∧ c11 = c11 ∧ c12 = c12
     ∧ c13 = c13 ∧ c14 = c14 ∧ c15 = c15 ∧ c16 = c16 ∧ c4 = c4 ∧ cs = cs ∧ c16 = c16 ∧ c18 = c18 ∧ c19 = c19 ∧ c21 = c21 ∧ c22 = c22 ∧ c23 = c23 ∧ c26 = c26 ∧ c19 =
     c19 ∧ c21 = c21 ∧ c22 = c22 ∧ a = a ∧ c23 = c23 ∧ c26 = c26 ∧ c23 = c23 ∧ c26 = c26 ∧ c23 = c23 ∧ raw = raw ∧ raw = raw ∧ c24 = c24 ∧ c25 = c25 ∧ c19 = c19 ∧
     c21 = c21 ∧ c22 = c22 ∧ 1 = 1 ∧ 0 = 0 ∧ 2 = 2 ∧ c19 = c19 ∧ c21 = c21 ∧ c22 = c22 ∧ c19 = c30 ∧ c21 = c31 ∧ D.len (addTo c29 c25 x) = 0 ∧ addTo c29 c25 x =
     D.nil Int ∧ addTo c29 c25 x = D.nil Int ∧ True) ∧ ∀ (x : Int),
    let c50 := D.get c22 (D.nat x) (0 : Int);
    let c51 := D.eq c50 c25;
    let c52 := D.not (doneTo c29 c25 x);
    let c53 := D.cnd c52 (D.gt c50 c25) false;
    let c54 := D.len (addTo c29 c25 x);
    let c55 := D.nadd c54 c34;
    let c56 := D.app (addTo c29 c25 x) c33;
    let c57 := [c50];
    let c58 := D.len c57;
    let c59 := D.nadd c55 c58;
    let c60 := D.app c56 c57;
    let c61 := D.add x (1 : Int);
    let c62 := D.nadd c54 c58;
    let c63 := D.app (addTo c29 c25 x) c57; holTo c4 line a c25 x → 1 = 1 ∧ 1 = 1 ∧ 0 = 0 ∧ (D.lt x c32 = true → 1 = 1 ∧ 1 = 1 ∧ 0 = 0 ∧ D.ile (0 : Int) x ∧ D.ilt x
     c32 ∧ (c51 = true → true = true ∧ True) ∧ (c51 = false → (c52 = true → 1 = 1) ∧ (c52 = true → c52 = true → c52 = true) ∧ (c52 = true → 1 = 1) ∧ (c52 = true → 0
     = 0) ∧ (c52 = true → c52 = true → c52 = true) ∧ (c52 = true → c52 = true → c52 = true) ∧ (c52 = true → D.ile (0 : Int) x) ∧ (c52 = true → D.ilt x c32) ∧ (c52 =
     true → c52 = true → c52 = true) ∧ (c52 = true → c52 = true → c52 = true) ∧ (c52 = true → c52 = true → c52 = true) ∧ (D.and true c52 = true → c52 = true) ∧ (c53
     = true → 1 = 1 ∧ 1 = 1 ∧ 0 = 0 ∧ c54 = c54 ∧ D.nle (D.nmul c55 (8)) (140737488355328) ∧ D.nle c55 (9223372036854775807) ∧ 1 = 1 ∧ 1 = 1 ∧ 0 = 0 ∧ D.len c56 =
     c55 ∧ 1 = 1 ∧ 1 = 1 ∧ 0 = 0 ∧ 1 = 1 ∧ 1 = 1 ∧ 0 = 0 ∧ D.ile (0 : Int) x ∧ D.ilt x c32 ∧ D.len c56 = c55 ∧ D.nle (D.nmul c59 (8)) (140737488355328) ∧ D.nle c59
     (9223372036854775807) ∧ 1 = 1 ∧ 1 = 1 ∧ 0 = 0 ∧ D.len c60 = c59 ∧ inR IntKind.i64 c61 ∧ ∃ y, holTo c4 line a c25 y ∧ (cs = cs ∧ ns = ns ∧ os = os ∧ fs = fs ∧
     ls = ls ∧ ks = ks ∧ line = line ∧ a = a ∧ raw = raw ∧ c4 = c4 ∧ true = true ∧ c16 = c16 ∧ 1 = 1 ∧ 0 = 0 ∧ 0 = 0 ∧ c23 = c23 ∧ c26 = c26 ∧ c25 = c25 ∧ 1 = 1 ∧ 0
     = 0 ∧ 0 = 0 ∧ true = doneTo c29 c25 y ∧ c61 = y ∧ true = true ∧ cs = cs ∧ ns = ns ∧ os = os ∧ fs = fs ∧ ls = ls ∧ ks = ks ∧ line = line ∧ c5 = c5 ∧ c6 = c6 ∧
     c6 = c6 ∧ c8 = c8 ∧ c8 = c8 ∧ c10 = c10 ∧ c2 = c2 ∧ fs = fs ∧ c1 = c1 ∧ ls = ls ∧ line = line ∧ c11 = c11 ∧ c12 = c12 ∧ c13 = c13 ∧ c14 = c14 ∧ c15 = c15 ∧ c16
     = c16 ∧ c4 = c4 ∧ cs = cs ∧ c16 = c16 ∧ c18 = c18 ∧ c19 = c19 ∧ c21 = c21 ∧ c22 = c22 ∧ c23 = c23 ∧ c26 = c26 ∧ c19 = c19 ∧ c21 = c21 ∧ c22 = c22 ∧ a = a ∧ c23
     = c23 ∧ c26 = c26 ∧ c23 = c23 ∧ c26 = c26 ∧ c23 = c23 ∧ raw = raw ∧ raw = raw ∧ c24 = c24 ∧ c25 = c25 ∧ c19 = c19 ∧ c21 = c21 ∧ c22 = c22 ∧ 1 = 1 ∧ 0 = 0 ∧ 2 =
     2 ∧ c19 = c19 ∧ c21 = c21 ∧ c22 = c22 ∧ c30 = c30 ∧ c31 = c31 ∧ c59 = D.len (addTo c29 c25 y) ∧ c60 = addTo c29 c25 y ∧ True) ∧ D.nlt (D.nat (D.sub c35 y))
     (D.nat (D.sub c35 x))) ∧ (c53 = false → 1 = 1 ∧ 1 = 1 ∧ 0 = 0 ∧ 1 = 1 ∧ 1 = 1 ∧ 0 = 0 ∧ D.ile (0 : Int) x ∧ D.ilt x c32 ∧ c54 = c54 ∧ D.nle (D.nmul c62 (8))
     (140737488355328) ∧ D.nle c62 (9223372036854775807) ∧ 1 = 1 ∧ 1 = 1 ∧ 0 = 0 ∧ D.len c63 = c62 ∧ inR IntKind.i64 c61 ∧ ∃ y, holTo c4 line a c25 y ∧ (cs = cs ∧
     ns = ns ∧ os = os ∧ fs = fs ∧ ls = ls ∧ ks = ks ∧ line = line ∧ a = a ∧ raw = raw ∧ c4 = c4 ∧ true = true ∧ c16 = c16 ∧ 1 = 1 ∧ 0 = 0 ∧ 0 = 0 ∧ c23 = c23 ∧ c26
     = c26 ∧ c25 = c25 ∧ 1 = 1 ∧ 0 = 0 ∧ 0 = 0 ∧ doneTo c29 c25 x = doneTo c29 c25 y ∧ c61 = y ∧ true = true ∧ cs = cs ∧ ns = ns ∧ os = os ∧ fs = fs ∧ ls = ls ∧ ks
     = ks ∧ line = line ∧ c5 = c5 ∧ c6 = c6 ∧ c6 = c6 ∧ c8 = c8 ∧ c8 = c8 ∧ c10 = c10 ∧ c2 = c2 ∧ fs = fs ∧ c1 = c1 ∧ ls = ls ∧ line = line ∧ c11 = c11 ∧ c12 = c12
     ∧ c13 = c13 ∧ c14 = c14 ∧ c15 = c15 ∧ c16 = c16 ∧ c4 = c4 ∧ cs = cs ∧ c16 = c16 ∧ c18 = c18 ∧ c19 = c19 ∧ c21 = c21 ∧ c22 = c22 ∧ c23 = c23 ∧ c26 = c26 ∧ c19 =
     c19 ∧ c21 = c21 ∧ c22 = c22 ∧ a = a ∧ c23 = c23 ∧ c26 = c26 ∧ c23 = c23 ∧ c26 = c26 ∧ c23 = c23 ∧ raw = raw ∧ raw = raw ∧ c24 = c24 ∧ c25 = c25 ∧ c19 = c19 ∧
     c21 = c21 ∧ c22 = c22 ∧ 1 = 1 ∧ 0 = 0 ∧ 2 = 2 ∧ c19 = c19 ∧ c21 = c21 ∧ c22 = c22 ∧ c30 = c30 ∧ c31 = c31 ∧ c62 = D.len (addTo c29 c25 y) ∧ c63 = addTo c29 c25
     y ∧ True) ∧ D.nlt (D.nat (D.sub c35 y)) (D.nat (D.sub c35 x))))) ∧ (D.lt x c32 = false → (c52 = true → 1 = 1 ∧ 1 = 1 ∧ 0 = 0 ∧ c54 = c54 ∧ D.nle (D.nmul c55
     (8)) (140737488355328) ∧ D.nle c55 (9223372036854775807) ∧ 1 = 1 ∧ 1 = 1 ∧ 0 = 0 ∧ D.len c56 = c55 ∧ line = line ∧ a = a ∧ c4 = c4 ∧ true = true ∧ c16 = c16 ∧
     1 = 1 ∧ 0 = 0 ∧ 0 = 0 ∧ c25 = c25 ∧ 1 = 1 ∧ 0 = 0 ∧ 0 = 0 ∧ c19 = c19 ∧ c21 = c21 ∧ c22 = c22 ∧ c30 = c30 ∧ c31 = c31 ∧ D.len c56 = c55 ∧ c56 = c36 ∧ 1 = 1 ∧ 0
     = 0 ∧ D.len (D.nil (Int × List Bool × List Int)) = 0 ∧ D.nle (D.nmul c37 (56)) (140737488355328) ∧ D.nle c37 (9223372036854775807) ∧ 1 = 1 ∧ 1 = 1 ∧ 0 = 0 ∧
     c39 = c37 ∧ 1 = 1 ∧ 1 = 1 ∧ 0 = 0 ∧ 1 = 1 ∧ 0 = 0 ∧ c39 = c37 ∧ D.ile (0 : Int) c16 ∧ D.ilt c16 (D.ofN c39) ∧ c39 = c37 ∧ line = line ∧ a = a ∧ c4 = c4 ∧ true
     = true ∧ c16 = c16 ∧ 1 = 1 ∧ 0 = 0 ∧ 0 = 0 ∧ c25 = c25 ∧ 1 = 1 ∧ 0 = 0 ∧ 0 = 0 ∧ 1 = 1 ∧ 0 = 0 ∧ 0 = 0 ∧ c19 = c19 ∧ c21 = c21 ∧ c22 = c22 ∧ c30 = c30 ∧ c31 =
     c31 ∧ c36 = c36 ∧ D.len c40 = c37 ∧ c40 = c40 ∧ ns = ns ∧ os = os ∧ fs = fs ∧ ls = ls ∧ ks = ks ∧ 1 = 1 ∧ 0 = 0 ∧ True ∧ (c44 = true → 1 = 1) ∧ (c44 = true → 0
     = 0) ∧ (c44 = true → c44 = true → c44 = true) ∧ (c44 = true → fewC c41 = true) ∧ (c44 = true → c44 = true → c44 = true) ∧ (D.and true c44 = true → c44 = true)
     ∧ (c45 = true → true = true ∧ True) ∧ (c45 = false → inR IntKind.i64 c46 ∧ True ∧ (∃ x,
    let c64 := otherTo c4 line c25 c47 x; othTo c4 line a x ∧ line = line ∧ a = a ∧ c4 = c4 ∧ true = true ∧ c16 = c16 ∧ 1 = 1 ∧ 0 = 0 ∧ 0 = 0 ∧ c25 = c25 ∧ 1 = 1 ∧
     0 = 0 ∧ 0 = 0 ∧ 1 = 1 ∧ 0 = 0 ∧ 0 = 0 ∧ 0 = D.len c64 ∧ c47 = c47 ∧ (0 : Int) = x ∧ c40 = c40 ∧ ns = ns ∧ os = os ∧ fs = fs ∧ ls = ls ∧ ks = ks ∧ c42 = c42 ∧
     c43 = c43 ∧ c43 = c43 ∧ c45 = c45 ∧ 0 = 0 ∧ cs = cs ∧ ns = ns ∧ os = os ∧ fs = fs ∧ ls = ls ∧ ks = ks ∧ line = line ∧ a = a ∧ a = a ∧ c46 = c46 ∧ c47 = c47 ∧
     c19 = c19 ∧ c21 = c21 ∧ c22 = c22 ∧ c30 = c30 ∧ c31 = c31 ∧ c36 = c36 ∧ c40 = c40 ∧ ns = ns ∧ os = os ∧ fs = fs ∧ ls = ls ∧ ks = ks ∧ D.nil Int = c64 ∧ True) ∧
     ∀ (x : Int),
    let c65 := D.get c47 (D.nat x) (0 : Int);
    let c66 := D.ne (dayF c19 c65) c25;
    let c67 := otherTo c4 line c25 c47 x;
    let c68 := D.len c67;
    let c69 := [c65];
    let c70 := D.nadd c68 (D.len c69);
    let c71 := D.add x (1 : Int); othTo c4 line a x → (D.lt x c48 = true → 1 = 1 ∧ 0 = 0 ∧ D.ile (0 : Int) x ∧ D.ilt x c48 ∧ okLocal c19 c21 c22 c65 ∧ (c66 = true →
     D.ile (0 : Int) x ∧ D.ilt x c48 ∧ c68 = c68 ∧ D.nle (D.nmul c70 (8)) (140737488355328) ∧ D.nle c70 (9223372036854775807) ∧ inR IntKind.i64 c71 ∧ ∃ y,
    let c72 := otherTo c4 line c25 c47 y; othTo c4 line a y ∧ (line = line ∧ a = a ∧ c4 = c4 ∧ true = true ∧ c16 = c16 ∧ 1 = 1 ∧ 0 = 0 ∧ 0 = 0 ∧ c25 = c25 ∧ 1 = 1 ∧
     0 = 0 ∧ 0 = 0 ∧ 1 = 1 ∧ 0 = 0 ∧ 0 = 0 ∧ c70 = D.len c72 ∧ c47 = c47 ∧ c71 = y ∧ c40 = c40 ∧ ns = ns ∧ os = os ∧ fs = fs ∧ ls = ls ∧ ks = ks ∧ c42 = c42 ∧ c43 =
     c43 ∧ c43 = c43 ∧ c45 = c45 ∧ 0 = 0 ∧ cs = cs ∧ ns = ns ∧ os = os ∧ fs = fs ∧ ls = ls ∧ ks = ks ∧ line = line ∧ a = a ∧ a = a ∧ c46 = c46 ∧ c47 = c47 ∧ c19 =
     c19 ∧ c21 = c21 ∧ c22 = c22 ∧ c30 = c30 ∧ c31 = c31 ∧ c36 = c36 ∧ c40 = c40 ∧ ns = ns ∧ os = os ∧ fs = fs ∧ ls = ls ∧ ks = ks ∧ D.app c67 c69 = c72 ∧ True) ∧
     D.nlt (D.nat (D.sub c48 y)) (D.nat (D.sub c48 x))) ∧ (c66 = false → inR IntKind.i64 c71 ∧ ∃ y,
    let c73 := otherTo c4 line c25 c47 y; othTo c4 line a y ∧ (line = line ∧ a = a ∧ c4 = c4 ∧ true = true ∧ c16 = c16 ∧ 1 = 1 ∧ 0 = 0 ∧ 0 = 0 ∧ c25 = c25 ∧ 1 = 1 ∧
     0 = 0 ∧ 0 = 0 ∧ 1 = 1 ∧ 0 = 0 ∧ 0 = 0 ∧ c68 = D.len c73 ∧ c47 = c47 ∧ c71 = y ∧ c40 = c40 ∧ ns = ns ∧ os = os ∧ fs = fs ∧ ls = ls ∧ ks = ks ∧ c42 = c42 ∧ c43 =
     c43 ∧ c43 = c43 ∧ c45 = c45 ∧ 0 = 0 ∧ cs = cs ∧ ns = ns ∧ os = os ∧ fs = fs ∧ ls = ls ∧ ks = ks ∧ line = line ∧ a = a ∧ a = a ∧ c46 = c46 ∧ c47 = c47 ∧ c19 =
     c19 ∧ c21 = c21 ∧ c22 = c22 ∧ c30 = c30 ∧ c31 = c31 ∧ c36 = c36 ∧ c40 = c40 ∧ ns = ns ∧ os = os ∧ fs = fs ∧ ls = ls ∧ ks = ks ∧ c67 = c73 ∧ True) ∧ D.nlt
     (D.nat (D.sub c48 y)) (D.nat (D.sub c48 x)))) ∧ (D.lt x c48 = false → line = line ∧ a = a ∧ c4 = c4 ∧ true = true ∧ 1 = 1 ∧ 0 = 0 ∧ 0 = 0 ∧ c68 = c68 ∧ c67 =
     c67 ∧ c19 = c19 ∧ c21 = c21 ∧ c22 = c22 ∧ c30 = c30 ∧ c31 = c31 ∧ c36 = c36 ∧ c40 = c40 ∧ ns = ns ∧ os = os ∧ fs = fs ∧ ls = ls ∧ ks = ks ∧ (true = true → 1 =
     1) ∧ (true = true → 0 = 0) ∧ (true = true → true = true → true = true) ∧ (true = true → inR IntKind.i64 c46) ∧ (true = true → true = true → true = true) ∧
     (true = true → true = true → true = true) ∧ (true = true → true = true → true = true) ∧ (true = true → true = true → true = true) ∧ (true = true → True) ∧
     (true = true → true = true → true = true) ∧ (true = true → true = true → true = true) ∧ (true = true → mildI c49) ∧ (D.and true true = true → true = true) ∧
     D.cnd true (sameI c49 c67) false = true ∧ True))) ∧ (c52 = false → line = line ∧ a = a ∧ c4 = c4 ∧ true = true ∧ c16 = c16 ∧ 1 = 1 ∧ 0 = 0 ∧ 0 = 0 ∧ c25 = c25
     ∧ 1 = 1 ∧ 0 = 0 ∧ 0 = 0 ∧ c19 = c19 ∧ c21 = c21 ∧ c22 = c22 ∧ c30 = c30 ∧ c31 = c31 ∧ c54 = c54 ∧ addTo c29 c25 x = c36 ∧ 1 = 1 ∧ 0 = 0 ∧ D.len (D.nil (Int ×
     List Bool × List Int)) = 0 ∧ D.nle (D.nmul c37 (56)) (140737488355328) ∧ D.nle c37 (9223372036854775807) ∧ 1 = 1 ∧ 1 = 1 ∧ 0 = 0 ∧ c39 = c37 ∧ 1 = 1 ∧ 1 = 1 ∧
     0 = 0 ∧ 1 = 1 ∧ 0 = 0 ∧ c39 = c37 ∧ D.ile (0 : Int) c16 ∧ D.ilt c16 (D.ofN c39) ∧ c39 = c37 ∧ line = line ∧ a = a ∧ c4 = c4 ∧ true = true ∧ c16 = c16 ∧ 1 = 1 ∧
     0 = 0 ∧ 0 = 0 ∧ c25 = c25 ∧ 1 = 1 ∧ 0 = 0 ∧ 0 = 0 ∧ 1 = 1 ∧ 0 = 0 ∧ 0 = 0 ∧ c19 = c19 ∧ c21 = c21 ∧ c22 = c22 ∧ c30 = c30 ∧ c31 = c31 ∧ c36 = c36 ∧ D.len c40 =
     c37 ∧ c40 = c40 ∧ ns = ns ∧ os = os ∧ fs = fs ∧ ls = ls ∧ ks = ks ∧ 1 = 1 ∧ 0 = 0 ∧ True ∧ (c44 = true → 1 = 1) ∧ (c44 = true → 0 = 0) ∧ (c44 = true → c44 =
     true → c44 = true) ∧ (c44 = true → fewC c41 = true) ∧ (c44 = true → c44 = true → c44 = true) ∧ (D.and true c44 = true → c44 = true) ∧ (c45 = true → true = true
     ∧ True) ∧ (c45 = false → inR IntKind.i64 c46 ∧ True ∧ (∃ x,
    let c74 := otherTo c4 line c25 c47 x; othTo c4 line a x ∧ line = line ∧ a = a ∧ c4 = c4 ∧ true = true ∧ c16 = c16 ∧ 1 = 1 ∧ 0 = 0 ∧ 0 = 0 ∧ c25 = c25 ∧ 1 = 1 ∧
     0 = 0 ∧ 0 = 0 ∧ 1 = 1 ∧ 0 = 0 ∧ 0 = 0 ∧ 0 = D.len c74 ∧ c47 = c47 ∧ (0 : Int) = x ∧ c40 = c40 ∧ ns = ns ∧ os = os ∧ fs = fs ∧ ls = ls ∧ ks = ks ∧ c42 = c42 ∧
     c43 = c43 ∧ c43 = c43 ∧ c45 = c45 ∧ 0 = 0 ∧ cs = cs ∧ ns = ns ∧ os = os ∧ fs = fs ∧ ls = ls ∧ ks = ks ∧ line = line ∧ a = a ∧ a = a ∧ c46 = c46 ∧ c47 = c47 ∧
     c19 = c19 ∧ c21 = c21 ∧ c22 = c22 ∧ c30 = c30 ∧ c31 = c31 ∧ c36 = c36 ∧ c40 = c40 ∧ ns = ns ∧ os = os ∧ fs = fs ∧ ls = ls ∧ ks = ks ∧ D.nil Int = c74 ∧ True) ∧
     ∀ (x : Int),
    let c75 := D.get c47 (D.nat x) (0 : Int);
    let c76 := D.ne (dayF c19 c75) c25;
    let c77 := otherTo c4 line c25 c47 x;
    let c78 := D.len c77;
    let c79 := [c75];
    let c80 := D.nadd c78 (D.len c79);
    let c81 := D.add x (1 : Int); othTo c4 line a x → (D.lt x c48 = true → 1 = 1 ∧ 0 = 0 ∧ D.ile (0 : Int) x ∧ D.ilt x c48 ∧ okLocal c19 c21 c22 c75 ∧ (c76 = true →
     D.ile (0 : Int) x ∧ D.ilt x c48 ∧ c78 = c78 ∧ D.nle (D.nmul c80 (8)) (140737488355328) ∧ D.nle c80 (9223372036854775807) ∧ inR IntKind.i64 c81 ∧ ∃ y,
    let c82 := otherTo c4 line c25 c47 y; othTo c4 line a y ∧ (line = line ∧ a = a ∧ c4 = c4 ∧ true = true ∧ c16 = c16 ∧ 1 = 1 ∧ 0 = 0 ∧ 0 = 0 ∧ c25 = c25 ∧ 1 = 1 ∧
     0 = 0 ∧ 0 = 0 ∧ 1 = 1 ∧ 0 = 0 ∧ 0 = 0 ∧ c80 = D.len c82 ∧ c47 = c47 ∧ c81 = y ∧ c40 = c40 ∧ ns = ns ∧ os = os ∧ fs = fs ∧ ls = ls ∧ ks = ks ∧ c42 = c42 ∧ c43 =
     c43 ∧ c43 = c43 ∧ c45 = c45 ∧ 0 = 0 ∧ cs = cs ∧ ns = ns ∧ os = os ∧ fs = fs ∧ ls = ls ∧ ks = ks ∧ line = line ∧ a = a ∧ a = a ∧ c46 = c46 ∧ c47 = c47 ∧ c19 =
     c19 ∧ c21 = c21 ∧ c22 = c22 ∧ c30 = c30 ∧ c31 = c31 ∧ c36 = c36 ∧ c40 = c40 ∧ ns = ns ∧ os = os ∧ fs = fs ∧ ls = ls ∧ ks = ks ∧ D.app c77 c79 = c82 ∧ True) ∧
     D.nlt (D.nat (D.sub c48 y)) (D.nat (D.sub c48 x))) ∧ (c76 = false → inR IntKind.i64 c81 ∧ ∃ y,
    let c83 := otherTo c4 line c25 c47 y; othTo c4 line a y ∧ (line = line ∧ a = a ∧ c4 = c4 ∧ true = true ∧ c16 = c16 ∧ 1 = 1 ∧ 0 = 0 ∧ 0 = 0 ∧ c25 = c25 ∧ 1 = 1 ∧
     0 = 0 ∧ 0 = 0 ∧ 1 = 1 ∧ 0 = 0 ∧ 0 = 0 ∧ c78 = D.len c83 ∧ c47 = c47 ∧ c81 = y ∧ c40 = c40 ∧ ns = ns ∧ os = os ∧ fs = fs ∧ ls = ls ∧ ks = ks ∧ c42 = c42 ∧ c43 =
     c43 ∧ c43 = c43 ∧ c45 = c45 ∧ 0 = 0 ∧ cs = cs ∧ ns = ns ∧ os = os ∧ fs = fs ∧ ls = ls ∧ ks = ks ∧ line = line ∧ a = a ∧ a = a ∧ c46 = c46 ∧ c47 = c47 ∧ c19 =
     c19 ∧ c21 = c21 ∧ c22 = c22 ∧ c30 = c30 ∧ c31 = c31 ∧ c36 = c36 ∧ c40 = c40 ∧ ns = ns ∧ os = os ∧ fs = fs ∧ ls = ls ∧ ks = ks ∧ c77 = c83 ∧ True) ∧ D.nlt
     (D.nat (D.sub c48 y)) (D.nat (D.sub c48 x)))) ∧ (D.lt x c48 = false → line = line ∧ a = a ∧ c4 = c4 ∧ true = true ∧ 1 = 1 ∧ 0 = 0 ∧ 0 = 0 ∧ c78 = c78 ∧ c77 =
     c77 ∧ c19 = c19 ∧ c21 = c21 ∧ c22 = c22 ∧ c30 = c30 ∧ c31 = c31 ∧ c36 = c36 ∧ c40 = c40 ∧ ns = ns ∧ os = os ∧ fs = fs ∧ ls = ls ∧ ks = ks ∧ (true = true → 1 =
     1) ∧ (true = true → 0 = 0) ∧ (true = true → true = true → true = true) ∧ (true = true → inR IntKind.i64 c46) ∧ (true = true → true = true → true = true) ∧
     (true = true → true = true → true = true) ∧ (true = true → true = true → true = true) ∧ (true = true → true = true → true = true) ∧ (true = true → True) ∧
     (true = true → true = true → true = true) ∧ (true = true → true = true → true = true) ∧ (true = true → mildI c49) ∧ (D.and true true = true → true = true) ∧
     D.cnd true (sameI c49 c77) false = true ∧ True))))))) :
    evF { mkc KT16 with mb := fun t => t == 118 || t == 137 } (holA (cs, ns, os, fs, ls, ks) line a) 8 [net cs ns os fs ls ks, .dat I line, .dat I a, .dat U8 raw] [] ⟨u8P raw, .dat .bool true, []⟩ := of_eq (by kernel_rfl) hvc

theorem ltf {a b : Int} (h : D.lt a b = false) : ¬ a < b := of_decide_eq_false h
theorem doneTo_next {h : List Int} {d : Int} {k : Nat} (hk : k < h.length) : doneTo h d ((k : Int) + 1) = (doneTo h d (k : Int) || decide (h.getD k 0 > d)) := by
  unfold doneTo
  rw [show ((k : Int) + 1).toNat = k + 1 by omega, show ((k : Int)).toNat = k by omega, List.take_add_one, List.any_append, List.getElem?_eq_getElem hk, List.getD_eq_getElem?_getD, List.getElem?_eq_getElem hk]
  simp
theorem mem_addN {h : List Int} {d y : Int} : ∀ k : Nat, k ≤ h.length → (y ∈ addN h d k ↔ y ∈ h.take k ∨ (doneTo h d (k : Int) = true ∧ y = d))
  | 0, _ => by simp [addN, doneTo]
  | k + 1, hk => by
    have hlt : k < h.length := hk
    have ih := mem_addN (h := h) (d := d) (y := y) k (by omega)
    have hd := doneTo_next (d := d) hlt
    have hg : h.getD k 0 = h[k] := by rw [List.getD_eq_getElem?_getD, List.getElem?_eq_getElem hlt, Option.getD_some]
    unfold addN
    rw [List.mem_append, List.mem_append, ih, List.mem_singleton, List.take_add_one, List.mem_append, List.getElem?_eq_getElem hlt, Option.toList_some, List.mem_singleton, show ((k + 1 : Nat) : Int) = (k : Int) + 1 by omega, hd, hg]
    by_cases h1 : doneTo h d (k : Int) = true
    · rw [if_neg (fun g => by rw [h1] at g; cases g.1)]
      simp only [h1, Bool.true_or, List.not_mem_nil]
      grind
    · have h1' : doneTo h d (k : Int) = false := Bool.eq_false_iff.2 h1
      by_cases h2 : h[k] > d
      · rw [if_pos ⟨h1', h2⟩]
        simp only [h1', Bool.false_or, decide_eq_true h2, List.mem_singleton]
        grind
      · rw [if_neg (fun g => h2 g.2)]
        simp only [h1', Bool.false_or, decide_eq_false h2, List.not_mem_nil]
        grind
theorem mem_insF {h : List Int} {d y : Int} : y ∈ insF h d ↔ y ∈ h ∨ y = d := by
  unfold insF addTo
  rw [List.mem_append, Int.toNat_natCast, mem_addN h.length (Nat.le_refl _), List.take_length]
  by_cases g : doneTo h d (h.length : Int) = true
  · rw [if_neg (fun e => by rw [g] at e; cases e)]
    simp [g]
  · have g' := Bool.eq_false_iff.2 g
    rw [if_pos g']
    simp [g']
theorem work_ins {w : List Bool} {h : List Int} {d x : Int} : workF w (insF h d) x = true ↔ workF w h x = true ∧ x ≠ d := by
  unfold workF
  rw [Bool.and_eq_true, Bool.and_eq_true, Bool.not_eq_true', Bool.not_eq_true', ← Bool.not_eq_true, ← Bool.not_eq_true, List.contains_iff_mem, List.contains_iff_mem, mem_insF]
  grind
theorem addN_len (h : List Int) (d : Int) : ∀ k : Nat, (addN h d k).length ≤ 2 * k
  | 0 => Nat.le_refl _
  | k + 1 => by
    have ih := addN_len h d k
    unfold addN
    rw [List.length_append, List.length_append]
    split <;> simp only [List.length_singleton, List.length_nil] <;> omega
theorem addTo_len {h : List Int} {d k : Int} (hk : k ≤ 40) : (addTo h d k).length ≤ 80 := by
  have := addN_len h d k.toNat
  unfold addTo; omega
theorem addTo_next {h : List Int} {d x : Int} (x0 : 0 ≤ x) : addTo h d (x + 1) = addTo h d x ++ (if doneTo h d x = false ∧ h.getD x.toNat 0 > d then [d] else []) ++ [h.getD x.toNat 0] := by
  unfold addTo
  rw [show (x + 1).toNat = x.toNat + 1 by omega, addN, show ((x.toNat : Nat) : Int) = x by omega]
theorem done_next {h : List Int} {d x : Int} (x0 : 0 ≤ x) (x1 : x < h.length) : doneTo h d (x + 1) = (doneTo h d x || decide (h.getD x.toNat 0 > d)) := by
  have := doneTo_next (h := h) (d := d) (k := x.toNat) (by omega)
  rw [show ((x.toNat : Nat) : Int) = x by omega] at this
  exact this
theorem other_next {n : Net} {line d x : Int} {l : List Int} (x0 : 0 ≤ x) (x1 : x < l.length) : otherTo n line d l (x + 1) = otherTo n line d l x ++ (if dayF (calF n line).1 (l.getD x.toNat 0) ≠ d then [l.getD x.toNat 0] else []) := by
  unfold otherTo
  have hlt : x.toNat < l.length := by omega
  rw [show (x + 1).toNat = x.toNat + 1 by omega, List.take_add_one, List.getElem?_eq_getElem hlt, List.filter_append, List.getD_eq_getElem?_getD, List.getElem?_eq_getElem hlt, Option.getD_some, Option.toList_some, List.filter_cons, List.filter_nil]
  by_cases g : dayF (calF n line).1 (l[x.toNat]'(by omega)) ≠ d
  · rw [if_pos g, if_pos (decide_eq_true g)]
  · rw [if_neg g, if_neg (by rw [decide_eq_true_eq]; exact g)]
theorem other_len {n : Net} {line d x : Int} {l : List Int} : (otherTo n line d l x).length ≤ l.length := by
  unfold otherTo
  exact Nat.le_trans (List.length_filter_le _ _) (by rw [List.length_take]; omega)
/-- With a further holiday, the departures are those of other days. -/
theorem hol_deps (cs : List (Int × List Bool × List Int)) (ns os : List ByteArray) (fs : List Off) (ls : List Line) (ks : List Cla) {line d a b : Int} (hf : fineF (cs, ns, os, fs, ls, ks) line = true) {k : Int} (hk : k = (fs.getD (lineOf (cs, ns, os, fs, ls, ks) line).2.1.toNat (⟨#[]⟩, 0, 0, 0, 0, 0, [])).2.2.1)
    (hs : soundF (([] ++ cs).set k.toNat ((calF (cs, ns, os, fs, ls, ks) line).1, (calF (cs, ns, os, fs, ls, ks) line).2.1, insF (calF (cs, ns, os, fs, ls, ks) line).2.2 d), ns, os, fs, ls, ks) = true) (a0 : 0 ≤ a) (b0 : 0 ≤ b) (a1 : a ≤ 2000000) (b1 : b ≤ 2000000) (h : b ≤ a + 86400) :
    depsF (([] ++ cs).set k.toNat ((calF (cs, ns, os, fs, ls, ks) line).1, (calF (cs, ns, os, fs, ls, ks) line).2.1, insF (calF (cs, ns, os, fs, ls, ks) line).2.2 d), ns, os, fs, ls, ks) line a b = otherTo (cs, ns, os, fs, ls, ks) line d (depsF (cs, ns, os, fs, ls, ks) line a b) (depsF (cs, ns, os, fs, ls, ks) line a b).length := by
  have hl := (fine_parts cs ns os fs ls ks hf).1
  have ha := line_at cs ns os fs ls ks hl
  obtain ⟨_, _, _, q3, q4, _⟩ := cal_ok cs ns os fs ls ks hl
  have ho := depsOk_of cs ns os fs ls ks (line := line) hf a0 b0 a1 b1 h
  rw [← hk] at q3 q4
  have hc : calF (([] ++ cs).set k.toNat ((calF (cs, ns, os, fs, ls, ks) line).1, (calF (cs, ns, os, fs, ls, ks) line).2.1, insF (calF (cs, ns, os, fs, ls, ks) line).2.2 d), ns, os, fs, ls, ks) line = ((calF (cs, ns, os, fs, ls, ks) line).1, (calF (cs, ns, os, fs, ls, ks) line).2.1, insF (calF (cs, ns, os, fs, ls, ks) line).2.2 d) := by
    show ((cs.set k.toNat _).getD (fs.getD (lineOf (cs, ns, os, fs, ls, ks) line).2.1.toNat (⟨#[]⟩, 0, 0, 0, 0, 0, [])).2.2.1.toNat (0, [], [])) = _
    rw [← hk, List.getD_eq_getElem?_getD, List.getElem?_set_self (by omega), Option.getD_some]
  have hat : atOk (([] ++ cs).set k.toNat ((calF (cs, ns, os, fs, ls, ks) line).1, (calF (cs, ns, os, fs, ls, ks) line).2.1, insF (calF (cs, ns, os, fs, ls, ks) line).2.2 d), ns, os, fs, ls, ks) line := ha
  have hom : depsOk (([] ++ cs).set k.toNat ((calF (cs, ns, os, fs, ls, ks) line).1, (calF (cs, ns, os, fs, ls, ks) line).2.1, insF (calF (cs, ns, os, fs, ls, ks) line).2.2 d), ns, os, fs, ls, ks) line a b := by
    refine ⟨?_, h⟩
    have := ho.1
    unfold usableF at this ⊢
    rw [Bool.and_eq_true, Bool.and_eq_true] at this ⊢
    exact ⟨this.1, hs⟩
  refine sorted_ext (deps_sorted _ _ _ _) ?_ fun x => ?_
  · unfold otherTo
    exact List.Pairwise.filter _ ((deps_sorted _ _ _ _).sublist (List.take_sublist _ _))
  · unfold otherTo
    rw [mem_deps hat hom, Int.toNat_natCast, List.take_length, List.mem_filter, mem_deps ha ho, decide_eq_true_eq]
    unfold isDep
    rw [hc, work_ins]
    constructor
    · rintro ⟨h1, h2, ⟨h3, h4⟩, h5⟩; exact ⟨⟨h1, h2, h3, h5⟩, h4⟩
    · rintro ⟨⟨h1, h2, h3, h5⟩, h4⟩; exact ⟨h1, h2, ⟨h3, h4⟩, h5⟩
set_option maxHeartbeats 1000000 in
theorem t_lhol (line a raw : Int) (cs : List (Int × List Bool × List Int)) (ns os : List ByteArray) (fs : List Off) (ls : List Line) (ks : List Cla) : SoundC Tryd.prog G0 8 [net cs ns os fs ls ks, .dat I line, .dat I a, .dat U8 raw] [] ⟨u8P raw, .dat .bool true, []⟩ := by
  refine sound_of_ev (c := { mkc KT16 with mb := fun t => t == 118 || t == 137 }) KST17 KI0s hm (vc_lhol line a raw cs ns os fs ls ks ⟨rfl, fun hp => ?_⟩)
  simp only [cnd_or, cnd_and, D.and, D.or, D.not, Bool.true_and, Bool.and_true, Bool.false_or, Bool.or_false, eq_self, true_and, and_true, imp_self, implies_true, Bool.not_eq_true', Bool.or_eq_true, Bool.or_eq_false_iff, Bool.not_eq_false', Bool.and_eq_true, Bool.and_eq_false_imp, Bool.not_not, forall_const, exists_eq_right, exists_eq_right', exists_eq_left, exists_eq_left', Int.toNat_natCast, Nat.zero_add, Nat.mul_one, Int.ofNat_eq_natCast, D.nil, D.eq, D.ne, D.lt, D.gt, D.le, D.ge, D.beq, D.ilen, D.slen, D.ile, D.ilt, D.ine, D.nle, D.nlt, D.sub, D.add, D.mul, D.neg, D.nat, D.ofN, D.len, D.nadd, D.nmul, D.get, D.mn, D.mx, D.set, D.app, D.tail, D.part, D.seg, D.rep, D.at2, decide_eq_true_eq, decide_eq_false_iff_not, beq_iff_eq, bne_iff_ne, beq_eq_false_iff_ne, bne_eq_false_iff_eq, lineOf_fold cs ns os fs ls ks, calF_fold cs ns os fs ls ks]
  rintro ⟨⟨hf, t0⟩, t1⟩
  obtain ⟨hl, hus⟩ := fine_parts cs ns os fs ls ks hf
  have ha := line_at cs ns os fs ls ks hl
  obtain ⟨hv, q1, q2, q3, q4, m0, m1⟩ := cal_ok cs ns os fs ls ks hl
  obtain ⟨d0, d1⟩ := today_in hv (show 0 ≤ a by omega) (by omega)
  have hh := (validF_iff.1 hv).1.2.2.2
  have r0 : 0 ≤ D.rem raw 30 := Int.tmod_nonneg _ hp.1
  have r1 : D.rem raw 30 < 30 := Int.tmod_lt_of_pos _ (by omega)
  have hraw := hp.2
  have hraw0 := hp.1
  have hcs : (cs.length : Int) ≤ 6 := by
    have := ((kind_iff (by decide)).1 (no_parts cs ns os fs ls ks hl.1).2.1).1
    unfold calNames at this
    simp at this
    exact this
  refine ⟨hl.2.1, hl.2.2, q1, q2, q3, q4, ⟨hv, by omega, by omega⟩, in_small (by omega), by decide, in_small (by omega), ⟨0, ⟨hf, by omega, by omega, Int.le_refl _, Int.natCast_nonneg _, fun x hx => by cases hx⟩, rfl, rfl, rfl, rfl, rfl⟩, fun x hx => ⟨fun hlt => ?_, fun hge => ?_⟩⟩
  · have x0 : 0 ≤ x := hx.2.2.2.1
    have hlt' : x < ((calF (cs, ns, os, fs, ls, ks) line).2.2.length : Int) := ltd hlt
    have hn := addTo_next (h := (calF (cs, ns, os, fs, ls, ks) line).2.2) (d := dayF (calF (cs, ns, os, fs, ls, ks) line).1 a + D.rem raw 30) x0
    have hdn := done_next (h := (calF (cs, ns, os, fs, ls, ks) line).2.2) (d := dayF (calF (cs, ns, os, fs, ls, ks) line).1 a + D.rem raw 30) x0 hlt'
    have hle := addTo_len (h := (calF (cs, ns, os, fs, ls, ks) line).2.2) (d := dayF (calF (cs, ns, os, fs, ls, ks) line).1 a + D.rem raw 30) (k := x) (by omega)
    have hx2 : ((calF (cs, ns, os, fs, ls, ks) line).2.2.getD x.toNat 0 ≠ dayF (calF (cs, ns, os, fs, ls, ks) line).1 a + D.rem raw 30) → holTo (cs, ns, os, fs, ls, ks) line a (dayF (calF (cs, ns, os, fs, ls, ks) line).1 a + D.rem raw 30) (x + 1) := fun hne => by
      refine ⟨hf, by omega, by omega, by omega, by omega, fun y hy => ?_⟩
      rw [show (x + 1).toNat = x.toNat + 1 by omega, List.take_add_one, List.mem_append, List.getElem?_eq_getElem (by omega), Option.toList_some, List.mem_singleton] at hy
      rcases hy with hy | hy
      · exact hx.2.2.2.2.2 y hy
      · rw [List.getD_eq_getElem?_getD, List.getElem?_eq_getElem (by omega), Option.getD_some] at hne
        rw [hy]; exact hne
    refine ⟨x0, hlt', fun hne => ⟨fun _ => x0, fun _ => hlt', fun ⟨hd, hgt⟩ => ?_, fun hnd => ?_⟩⟩
    · have hgt' : (calF (cs, ns, os, fs, ls, ks) line).2.2.getD x.toNat 0 > dayF (calF (cs, ns, os, fs, ls, ks) line).1 a + D.rem raw 30 := of_decide_eq_true hgt
      rw [if_pos ⟨hd, hgt'⟩] at hn
      rw [hd, Bool.false_or, decide_eq_true hgt'] at hdn
      simp only [List.length_append, List.length_singleton]
      refine ⟨by omega, by omega, trivial, x0, hlt', trivial, by omega, by omega, trivial, in_small (by omega), x + 1, hx2 hne, ⟨hdn.symm, rfl, ?_, hn.symm⟩, by omega⟩
      rw [hn]; simp only [List.length_append, List.length_singleton]
    · have hng : ¬ (doneTo (calF (cs, ns, os, fs, ls, ks) line).2.2 (dayF (calF (cs, ns, os, fs, ls, ks) line).1 a + D.rem raw 30) x = false ∧ (calF (cs, ns, os, fs, ls, ks) line).2.2.getD x.toNat 0 > dayF (calF (cs, ns, os, fs, ls, ks) line).1 a + D.rem raw 30) := fun ⟨g1, g2⟩ => by
        have := of_decide_eq_false (hnd g1)
        exact this g2
      rw [if_neg hng, List.append_nil] at hn
      have hdn' : doneTo (calF (cs, ns, os, fs, ls, ks) line).2.2 (dayF (calF (cs, ns, os, fs, ls, ks) line).1 a + D.rem raw 30) x = doneTo (calF (cs, ns, os, fs, ls, ks) line).2.2 (dayF (calF (cs, ns, os, fs, ls, ks) line).1 a + D.rem raw 30) (x + 1) := by
        rw [hdn]
        cases g : doneTo (calF (cs, ns, os, fs, ls, ks) line).2.2 (dayF (calF (cs, ns, os, fs, ls, ks) line).1 a + D.rem raw 30) x with
        | true => rfl
        | false =>
          rw [Bool.false_or]; symm
          exact decide_eq_false fun g2 => hng ⟨g, g2⟩
      simp only [List.length_append, List.length_singleton]
      refine ⟨x0, hlt', by omega, by omega, trivial, in_small (by omega), x + 1, hx2 hne, ⟨hdn', rfl, ?_, hn.symm⟩, by omega⟩
      rw [hn]; simp only [List.length_append, List.length_singleton]
  · have hge' : ¬ x < ((calF (cs, ns, os, fs, ls, ks) line).2.2.length : Int) := ltf hge
    have hx' : x = ((calF (cs, ns, os, fs, ls, ks) line).2.2.length : Int) := by have := hx.2.2.2.2.1; omega
    have hle := addTo_len (h := (calF (cs, ns, os, fs, ls, ks) line).2.2) (d := dayF (calF (cs, ns, os, fs, ls, ks) line).1 a + D.rem raw 30) (k := x) (by omega)
    have dl := deps_len cs ns os fs ls ks (line := line) (a := a) (b := a + 43200) hf (by omega) (by omega) (by omega) (by omega) (by omega)
    have hdo := depsOk_of cs ns os fs ls ks (line := line) (a := a) (b := a + 43200) hf (by omega) (by omega) (by omega) (by omega) (by omega)
    have e0 : ([] ++ cs).length = cs.length := rfl
    have hgood : ∀ x : Int, 0 ≤ x → x < ((depsF (cs, ns, os, fs, ls, ks) line a (a + 43200)).length : Int) → okLocal (calF (cs, ns, os, fs, ls, ks) line).1 (calF (cs, ns, os, fs, ls, ks) line).2.1 (calF (cs, ns, os, fs, ls, ks) line).2.2 ((depsF (cs, ns, os, fs, ls, ks) line a (a + 43200)).getD x.toNat 0) := fun x x0 x1 => by
      rw [List.getD_eq_getElem?_getD, List.getElem?_eq_getElem (by omega), Option.getD_some]
      have := (mem_deps ha hdo).1 (List.getElem_mem (l := depsF (cs, ns, os, fs, ls, ks) line a (a + 43200)) (n := x.toNat) (by omega))
      exact ⟨hv, by omega, by omega⟩
    refine ⟨fun hd => ⟨by simp only [List.length_singleton]; omega, by simp only [List.length_singleton]; omega, by rw [List.length_append], by rw [List.length_append], ?_, ?_⟩, fun hd => ⟨?_, ?_⟩⟩
    · have hd' : doneTo (calF (cs, ns, os, fs, ls, ks) line).2.2 (dayF (calF (cs, ns, os, fs, ls, ks) line).1 a + D.rem raw 30) ((calF (cs, ns, os, fs, ls, ks) line).2.2.length : Int) = false := by rw [← hx']; exact hd
      unfold insF; rw [if_pos hd', ← hx']
    rotate_left
    · have hd' : doneTo (calF (cs, ns, os, fs, ls, ks) line).2.2 (dayF (calF (cs, ns, os, fs, ls, ks) line).1 a + D.rem raw 30) ((calF (cs, ns, os, fs, ls, ks) line).2.2.length : Int) = true := by rw [← hx']; exact hd
      unfold insF; rw [if_neg (by rw [hd']; exact Bool.noConfusion), ← hx', List.append_nil]
    all_goals
      refine ⟨rfl, by omega, by omega, rfl, rfl, q3, q4, rfl, by rw [List.length_set]; rfl, few_fewC, fun ⟨hfew, hsnd⟩ => ?_⟩
      have hdm := hol_deps cs ns os fs ls ks (line := line) (d := dayF (calF (cs, ns, os, fs, ls, ks) line).1 a + D.rem raw 30) (a := a) (b := a + 43200) hf rfl hsnd (by omega) (by omega) (by omega) (by omega) (by omega)
      refine ⟨in_small (by omega), ⟨0, ⟨hf, by omega, by omega, Int.le_refl _, Int.natCast_nonneg _⟩, rfl, rfl, rfl⟩, fun y hy => ⟨fun hlt => ?_, fun hge2 => ?_⟩⟩
      · have y0 : 0 ≤ y := hy.2.2.2.1
        have hon := other_next (n := (cs, ns, os, fs, ls, ks)) (line := line) (d := dayF (calF (cs, ns, os, fs, ls, ks) line).1 a + D.rem raw 30) y0 hlt
        have hol := other_len (n := (cs, ns, os, fs, ls, ks)) (line := line) (d := dayF (calF (cs, ns, os, fs, ls, ks) line).1 a + D.rem raw 30) (x := y) (l := depsF (cs, ns, os, fs, ls, ks) line a (a + 43200))
        refine ⟨y0, hlt, hgood y y0 hlt, fun hne => ?_, fun heq => ?_⟩
        · rw [if_pos hne] at hon
          simp only [List.length_singleton]
          refine ⟨y0, hlt, by omega, by omega, in_small (by omega), y + 1, ⟨hf, by omega, by omega, by omega, by omega⟩, ⟨?_, rfl, hon.symm⟩, by omega⟩
          rw [hon, List.length_append]; rfl
        · rw [if_neg (fun g => g heq), List.append_nil] at hon
          refine ⟨in_small (by omega), y + 1, ⟨hf, by omega, by omega, by omega, by omega⟩, ⟨by rw [hon], rfl, hon.symm⟩, by omega⟩
      · have hy' : y = ((depsF (cs, ns, os, fs, ls, ks) line a (a + 43200)).length : Int) := by have := hy.2.2.2.2; omega
        have hol := other_len (n := (cs, ns, os, fs, ls, ks)) (line := line) (d := dayF (calF (cs, ns, os, fs, ls, ks) line).1 a + D.rem raw 30) (x := y) (l := depsF (cs, ns, os, fs, ls, ks) line a (a + 43200))
        refine ⟨in_small (by omega), ?_, ?_⟩
        · rw [hdm, ← hy']
          exact (show _ ≤ 1000000 by omega)
        · exact sameI_eq (by rw [hdm, hy'])
end Go.Eng.Sv
