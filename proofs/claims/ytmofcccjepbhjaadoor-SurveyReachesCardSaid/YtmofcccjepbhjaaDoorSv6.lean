/- PeSv6 -/
import Derived.Test.YtmofcccjepbhjaaDoorW22
import Derived.Test.YtmofcccjepbhjaaDoorSv5
set_option linter.unusedSimpArgs false
set_option linter.unusedVariables false
namespace Go.Eng.Sv
open Go.Proofs

abbrev U8 : Ty := .int .u8
noncomputable def at2 (d : List (List Int)) (a b : Int) : Int := (d.getD a.toNat []).getD b.toNat 0
noncomputable def u8P (a : Int) : Prop := 0 ≤ a ∧ a ≤ 255
noncomputable def u8sP (a : Int) (l : List Int) : Prop := u8P a ∧ ∀ x ∈ l, u8P x
noncomputable def wayTo (n : Net) (ch : List Int) (s a len k : Int) : Prop := consF n = true ∧ 0 ≤ k ∧ k ≤ ch.length ∧ k ≤ 20 ∧ 0 ≤ a ∧ a < n.2.2.2.1.length ∧ 0 ≤ len ∧ len ≤ k * 5000 ∧ 0 ≤ at2 (dist2 n) s a ∧ at2 (dist2 n) s a ≤ len
noncomputable def someD (d : List (List Int)) (ls : List Line) (s b k : Int) : Bool := decide (at2 d s b < 0) || (decide (b = s) && decide (at2 d s b = 0)) || (ls.take k.toNat).any fun l => decide (lTo l = b) && decide (0 ≤ at2 d s (lFrom l)) && decide (at2 d s b = at2 d s (lFrom l) + lTravel l)

noncomputable def K18 : Kt := kOr 8 (dataK [] (fun _ => True) fun _ => .dat .bool true) K17
theorem vc_lmatch (so sl : Int) (cs : List (Int × List Bool × List Int)) (ns os : List ByteArray) (fs : List Off) (ls : List Line) (ks : List Cla) (hvc :
    let c1 := (cs, ns, os, fs, ls, ks);
    let c2 := D.not (fewF c1);
    let c3 := checkF c1;
    let c4 := D.cnd true (sameF c3 c3) false;
    let c5 := dist2 c1;
    let c6 := D.cnd c4 (sameR c5 c5) false;
    let c7 := ownerF c1 so sl; true = true ∧ (True → True ∧ True ∧ (c2 = true → true = true ∧ True) ∧ (c2 = false → (true = true → true = true → true = true) ∧
     (true = true → True) ∧ (true = true → true = true → true = true) ∧ (true = true → fewC c1 = true) ∧ (true = true → true = true → true = true) ∧ (true = true →
     true = true → true = true) ∧ (true = true → mild1 c3) ∧ (D.and true true = true → true = true) ∧ (c4 = true → c4 = true → c4 = true) ∧ (c4 = true → True) ∧ (c4
     = true → c4 = true → c4 = true) ∧ (c4 = true → fewC c1 = true) ∧ (c4 = true → c4 = true → c4 = true) ∧ (c4 = true → c4 = true → c4 = true) ∧ (c4 = true → mild
     c5) ∧ (D.and true c4 = true → c4 = true) ∧ (c6 = true → c6 = true → c6 = true) ∧ (c6 = true → c6 = true → c6 = true) ∧ (c6 = true → True) ∧ (c6 = true → c6 =
     true → c6 = true) ∧ (c6 = true → c6 = true → c6 = true) ∧ (c6 = true → fewC c1 = true) ∧ (c6 = true → c6 = true → c6 = true) ∧ (c6 = true → c6 = true → c6 =
     true) ∧ (D.and true c6 = true → c6 = true) ∧ D.cnd c6 (D.eq c7 c7) false = true ∧ True))) :
    evF (mkc K18) noAnn 3 [net cs ns os fs ls ks, .agg [.dat I so, .dat I sl]] [] ⟨True, .dat .bool true, []⟩ := of_eq (by kernel_rfl) hvc

noncomputable def ldistA (n : Net) (ch : List Int) : Ann := ⟨fun id s => match id with
  | 11 => match s.sig.T 9 with
    | .dat (.int .i64) st => some { α := Int × Int × Int, inv := fun x => wayTo n ch st x.1 x.2.1 x.2.2, st := fun x => put s [(10, .dat I x.1), (11, .dat I x.2.1), (12, .dat I x.2.2)], μ := fun x => D.nat (D.sub (D.ilen ch) x.2.2) }
    | _ => none
  | 20 => some { α := Int, inv := fun b => upN b (D.ilen n.2.2.2.1), st := fun b => put s [(14, .dat I b)], μ := fun b => D.nat (D.sub (D.ilen n.2.2.2.1) b) }
  | 24 => match s.sig.T 9, s.sig.T 14 with
    | .dat (.int .i64) st, .dat (.int .i64) b => some { α := Int, inv := fun k => upN k (D.ilen n.2.2.2.2.1), st := fun k => put s [(16, .dat I k), (15, .dat .bool (someD (dist2 n) n.2.2.2.2.1 st b k))], μ := fun k => D.nat (D.sub (D.ilen n.2.2.2.2.1) k) }
    | _, _ => none
  | _ => none, fun _ _ => none, fun _ _ => none⟩
set_option maxRecDepth 100000 in
theorem vc_ldist (f : Int) (ch : List Int) (cs : List (Int × List Bool × List Int)) (ns os : List ByteArray) (fs : List Off) (ls : List Line) (ks : List Cla) (hvc :
    let c1 := (fs, ls, ks);
    let c2 := (cs, ns, os, c1);
    let c3 := consF c2;
    let c4 := D.not c3;
    let c5 := D.not c4;
    let c6 := D.cnd c4 true (D.gt (D.ilen ch) (20 : Int));
    let c7 := D.ilen fs;
    let c8 := dist2 c2;
    let c9 := sqF c8 c7;
    let c10 := D.not c9;
    let c11 := D.rem f c7;
    let c12 := D.ilen ls;
    let c13 := D.gt c12 (0 : Int);
    let c14 := (ByteArray.mk (D.nil UInt8).toArray, (0 : Int), (0 : Int), (0 : Int), (0 : Int), (0 : Int));
    let c15 := D.ilen c8;
    let c16 := D.get c8 (D.nat c11) (D.nil Int);
    let c17 := D.ilen c16; true = true ∧ (u8sP f ch → True ∧ True ∧ (c5 = true → c5 = true → c5 = true) ∧ (c5 = true → c5 = true → c5 = true) ∧ (D.and true c5 =
     true → c5 = true) ∧ (c6 = true → true = true ∧ True) ∧ (c6 = false → True ∧ okInt c7 ∧ (c10 = true → false = true ∧ True) ∧ (c10 = false → inR IntKind.i64 f ∧
     D.ine c7 (0 : Int) ∧ (∃ (x : Int × Int × Int),
    let c18 := x.fst;
    let c19 := x.snd;
    let c20 := c19.fst;
    let c21 := c19.snd; wayTo c2 ch c11 c18 c20 c21 ∧ cs = cs ∧ ns = ns ∧ os = os ∧ fs = fs ∧ ls = ls ∧ ks = ks ∧ f = f ∧ ch = ch ∧ c2 = c2 ∧ true = true ∧ c8 = c8
     ∧ c11 = c11 ∧ c11 = c18 ∧ (0 : Int) = c20 ∧ (0 : Int) = c21 ∧ true = true ∧ cs = cs ∧ ns = ns ∧ os = os ∧ fs = fs ∧ ls = ls ∧ ks = ks ∧ c3 = c3 ∧ c4 = c4 ∧ c4
     = c4 ∧ c6 = c6 ∧ cs = cs ∧ ns = ns ∧ os = os ∧ fs = fs ∧ ls = ls ∧ ks = ks ∧ c8 = c8 ∧ c8 = c8 ∧ c1 = c1 ∧ fs = fs ∧ c7 = c7 ∧ c9 = c9 ∧ c10 = c10 ∧ f = f ∧ f
     = f ∧ c1 = c1 ∧ fs = fs ∧ c7 = c7 ∧ c11 = c11 ∧ c11 = c11 ∧ True) ∧ ∀ (x : Int × Int × Int),
    let c22 := x.fst;
    let c23 := x.snd;
    let c24 := c23.fst;
    let c25 := c23.snd;
    let c26 := D.lt c25 (D.ilen ch);
    let c27 := D.cnd c26 c13 false;
    let c28 := D.get ch (D.nat c25) (0 : Int);
    let c29 := D.rem c28 c12;
    let c30 := (D.get ls (D.nat c29) c14).snd;
    let c31 := D.eq c30.fst c22;
    let c32 := c30.snd;
    let c33 := D.add c24 c32.snd.snd.fst;
    let c34 := c32.fst;
    let c35 := D.get c16 (D.nat c34) (0 : Int);
    let c36 := D.lt c35 (0 : Int);
    let c37 := D.not c36;
    let c38 := D.cnd c36 true (D.gt c35 c33);
    let c39 := D.add c25 (1 : Int);
    let c40 := D.get c16 (D.nat c22) (0 : Int);
    let c41 := D.lt c40 (0 : Int);
    let c42 := D.not c41;
    let c43 := D.cnd c41 true (D.gt c40 c24); wayTo c2 ch c11 c22 c24 c25 → (c26 = true → c26 = true → c26 = true) ∧ (c26 = true → c26 = true → c26 = true) ∧ (c26 =
     true → c26 = true → c26 = true) ∧ (D.and true c26 = true → c26 = true) ∧ (c27 = true → D.ile (0 : Int) c25 ∧ D.ilt c25 (D.ilen ch) ∧ inR IntKind.i64 c28 ∧
     D.ine c12 (0 : Int) ∧ D.ile (0 : Int) c29 ∧ D.ilt c29 c12 ∧ 1 = 1 ∧ 0 = 0 ∧ 1 = 1 ∧ 1 = 1 ∧ 0 = 0 ∧ (c31 = true → 1 = 1 ∧ 1 = 1 ∧ 0 = 0 ∧ 1 = 1 ∧ 1 = 1 ∧ 0 = 0
     ∧ inR IntKind.i64 c33 ∧ D.ile (0 : Int) c11 ∧ D.ilt c11 c15 ∧ D.ile (0 : Int) c34 ∧ D.ilt c34 c17 ∧ (c37 = true → c37 = true → c37 = true) ∧ (c37 = true → c37
     = true → c37 = true) ∧ (c37 = true → D.ile (0 : Int) c11) ∧ (c37 = true → D.ilt c11 c15) ∧ (c37 = true → c37 = true → c37 = true) ∧ (c37 = true → c37 = true →
     c37 = true) ∧ (c37 = true → c37 = true → c37 = true) ∧ (c37 = true → D.ile (0 : Int) c34) ∧ (c37 = true → D.ilt c34 c17) ∧ (c37 = true → c37 = true → c37 =
     true) ∧ (c37 = true → c37 = true → c37 = true) ∧ (c37 = true → c37 = true → c37 = true) ∧ (D.and true c37 = true → c37 = true) ∧ (c38 = true → false = true ∧
     True) ∧ (c38 = false → inR IntKind.i64 c39 ∧ ∃ (y : Int × Int × Int),
    let c44 := y.fst;
    let c45 := y.snd;
    let c46 := c45.fst;
    let c47 := c45.snd; wayTo c2 ch c11 c44 c46 c47 ∧ (cs = cs ∧ ns = ns ∧ os = os ∧ fs = fs ∧ ls = ls ∧ ks = ks ∧ f = f ∧ ch = ch ∧ c2 = c2 ∧ true = true ∧ c8 = c8
     ∧ c11 = c11 ∧ c34 = c44 ∧ c33 = c46 ∧ c39 = c47 ∧ true = true ∧ cs = cs ∧ ns = ns ∧ os = os ∧ fs = fs ∧ ls = ls ∧ ks = ks ∧ c3 = c3 ∧ c4 = c4 ∧ c4 = c4 ∧ c6 =
     c6 ∧ cs = cs ∧ ns = ns ∧ os = os ∧ fs = fs ∧ ls = ls ∧ ks = ks ∧ c8 = c8 ∧ c8 = c8 ∧ c1 = c1 ∧ fs = fs ∧ c7 = c7 ∧ c9 = c9 ∧ c10 = c10 ∧ f = f ∧ f = f ∧ c1 =
     c1 ∧ fs = fs ∧ c7 = c7 ∧ c11 = c11 ∧ c11 = c11 ∧ True) ∧ D.nlt (D.nat (D.sub (D.ilen ch) c47)) (D.nat (D.sub (D.ilen ch) c25)))) ∧ (c31 = false → D.ile (0 :
     Int) c11 ∧ D.ilt c11 c15 ∧ D.ile (0 : Int) c22 ∧ D.ilt c22 c17 ∧ (c42 = true → c42 = true → c42 = true) ∧ (c42 = true → c42 = true → c42 = true) ∧ (c42 = true
     → D.ile (0 : Int) c11) ∧ (c42 = true → D.ilt c11 c15) ∧ (c42 = true → c42 = true → c42 = true) ∧ (c42 = true → c42 = true → c42 = true) ∧ (c42 = true → c42 =
     true → c42 = true) ∧ (c42 = true → D.ile (0 : Int) c22) ∧ (c42 = true → D.ilt c22 c17) ∧ (c42 = true → c42 = true → c42 = true) ∧ (c42 = true → c42 = true →
     c42 = true) ∧ (c42 = true → c42 = true → c42 = true) ∧ (D.and true c42 = true → c42 = true) ∧ (c43 = true → false = true ∧ True) ∧ (c43 = false → inR
     IntKind.i64 c39 ∧ ∃ (y : Int × Int × Int),
    let c48 := y.fst;
    let c49 := y.snd;
    let c50 := c49.fst;
    let c51 := c49.snd; wayTo c2 ch c11 c48 c50 c51 ∧ (cs = cs ∧ ns = ns ∧ os = os ∧ fs = fs ∧ ls = ls ∧ ks = ks ∧ f = f ∧ ch = ch ∧ c2 = c2 ∧ true = true ∧ c8 = c8
     ∧ c11 = c11 ∧ c22 = c48 ∧ c24 = c50 ∧ c39 = c51 ∧ true = true ∧ cs = cs ∧ ns = ns ∧ os = os ∧ fs = fs ∧ ls = ls ∧ ks = ks ∧ c3 = c3 ∧ c4 = c4 ∧ c4 = c4 ∧ c6 =
     c6 ∧ cs = cs ∧ ns = ns ∧ os = os ∧ fs = fs ∧ ls = ls ∧ ks = ks ∧ c8 = c8 ∧ c8 = c8 ∧ c1 = c1 ∧ fs = fs ∧ c7 = c7 ∧ c9 = c9 ∧ c10 = c10 ∧ f = f ∧ f = f ∧ c1 =
     c1 ∧ fs = fs ∧ c7 = c7 ∧ c11 = c11 ∧ c11 = c11 ∧ True) ∧ D.nlt (D.nat (D.sub (D.ilen ch) c51)) (D.nat (D.sub (D.ilen ch) c25))))) ∧ (c27 = false → (∃ x, upN x
     c7 ∧ cs = cs ∧ ns = ns ∧ os = os ∧ fs = fs ∧ ls = ls ∧ ks = ks ∧ f = f ∧ ch = ch ∧ c2 = c2 ∧ true = true ∧ c8 = c8 ∧ c11 = c11 ∧ c22 = c22 ∧ c24 = c24 ∧ c25 =
     c25 ∧ (0 : Int) = x ∧ true = true ∧ cs = cs ∧ ns = ns ∧ os = os ∧ fs = fs ∧ ls = ls ∧ ks = ks ∧ c3 = c3 ∧ c4 = c4 ∧ c4 = c4 ∧ c6 = c6 ∧ cs = cs ∧ ns = ns ∧ os
     = os ∧ fs = fs ∧ ls = ls ∧ ks = ks ∧ c8 = c8 ∧ c8 = c8 ∧ c1 = c1 ∧ fs = fs ∧ c7 = c7 ∧ c9 = c9 ∧ c10 = c10 ∧ f = f ∧ f = f ∧ c1 = c1 ∧ fs = fs ∧ c7 = c7 ∧ c11
     = c11 ∧ c11 = c11 ∧ c25 = c25 ∧ ch = ch ∧ D.ilen ch = D.ilen ch ∧ c26 = c26 ∧ c26 = c26 ∧ c27 = c27 ∧ True) ∧ ∀ (x : Int),
    let c52 := D.get c16 (D.nat x) (0 : Int);
    let c53 := D.lt c52 (0 : Int);
    let c54 := D.not c53;
    let c55 := D.cnd c53 true (D.cnd (D.eq x c11) (D.eq c52 (0 : Int)) false);
    let c56 := D.add x (1 : Int); upN x c7 → (D.lt x c15 = true → D.ile (0 : Int) c11 ∧ D.ilt c11 c15 ∧ D.ile (0 : Int) x ∧ D.ilt x c17 ∧ (c54 = true → c54 = true →
     c54 = true) ∧ (c54 = true → c54 = true → c54 = true) ∧ (c54 = true → c54 = true → c54 = true) ∧ (D.and c54 (D.eq x c11) = true → D.and c54 (D.eq x c11) = true
     → D.and c54 (D.eq x c11) = true) ∧ (D.and c54 (D.eq x c11) = true → D.and c54 (D.eq x c11) = true → D.and c54 (D.eq x c11) = true) ∧ (D.and c54 (D.eq x c11) =
     true → D.ile (0 : Int) c11) ∧ (D.and c54 (D.eq x c11) = true → D.ilt c11 c15) ∧ (D.and c54 (D.eq x c11) = true → D.and c54 (D.eq x c11) = true → D.and c54
     (D.eq x c11) = true) ∧ (D.and c54 (D.eq x c11) = true → D.and c54 (D.eq x c11) = true → D.and c54 (D.eq x c11) = true) ∧ (D.and c54 (D.eq x c11) = true → D.and
     c54 (D.eq x c11) = true → D.and c54 (D.eq x c11) = true) ∧ (D.and c54 (D.eq x c11) = true → D.ile (0 : Int) x) ∧ (D.and c54 (D.eq x c11) = true → D.ilt x c17)
     ∧ (D.and c54 (D.eq x c11) = true → D.and c54 (D.eq x c11) = true → D.and c54 (D.eq x c11) = true) ∧ (D.and c54 (D.eq x c11) = true → D.and c54 (D.eq x c11) =
     true → D.and c54 (D.eq x c11) = true) ∧ (c54 = true → c54 = true → c54 = true) ∧ (c54 = true → D.and c54 (D.eq x c11) = true → D.and c54 (D.eq x c11) = true) ∧
     (D.and true c54 = true → c54 = true) ∧ (∃ x_3, upN x_3 c12 ∧ cs = cs ∧ ns = ns ∧ os = os ∧ fs = fs ∧ ls = ls ∧ ks = ks ∧ f = f ∧ ch = ch ∧ c2 = c2 ∧ true =
     true ∧ c8 = c8 ∧ c11 = c11 ∧ c22 = c22 ∧ c24 = c24 ∧ c25 = c25 ∧ x = x ∧ c55 = someD c8 ls c11 x x_3 ∧ (0 : Int) = x_3 ∧ true = true ∧ cs = cs ∧ ns = ns ∧ os =
     os ∧ fs = fs ∧ ls = ls ∧ ks = ks ∧ c3 = c3 ∧ c4 = c4 ∧ c4 = c4 ∧ c6 = c6 ∧ cs = cs ∧ ns = ns ∧ os = os ∧ fs = fs ∧ ls = ls ∧ ks = ks ∧ c8 = c8 ∧ c8 = c8 ∧ c1 =
     c1 ∧ fs = fs ∧ c7 = c7 ∧ c9 = c9 ∧ c10 = c10 ∧ f = f ∧ f = f ∧ c1 = c1 ∧ fs = fs ∧ c7 = c7 ∧ c11 = c11 ∧ c11 = c11 ∧ c25 = c25 ∧ ch = ch ∧ D.ilen ch = D.ilen
     ch ∧ c26 = c26 ∧ c26 = c26 ∧ c27 = c27 ∧ x = x ∧ c8 = c8 ∧ c15 = c15 ∧ D.lt x c15 = D.lt x c15 ∧ c8 = c8 ∧ c11 = c11 ∧ c16 = c16 ∧ c16 = c16 ∧ x = x ∧ c52 =
     c52 ∧ c52 = c52 ∧ c53 = c53 ∧ c53 = c53 ∧ c55 = c55 ∧ True) ∧ ∀ (x_3 : Int),
    let c57 := someD c8 ls c11 x x_3;
    let c58 := D.not c57;
    let c59 := (D.get ls (D.nat x_3) c14).snd;
    let c60 := c59.snd;
    let c61 := D.eq c60.fst x;
    let c62 := c59.fst;
    let c63 := D.get c16 (D.nat c62) (0 : Int);
    let c64 := D.cnd c61 (D.ge c63 (0 : Int)) false;
    let c65 := D.add c63 c60.snd.snd.fst;
    let c66 := D.add x_3 (1 : Int); upN x_3 c12 → (D.lt x_3 c12 = true → D.ile (0 : Int) x_3 ∧ D.ilt x_3 c12 ∧ 1 = 1 ∧ 0 = 0 ∧ (c58 = true → 1 = 1) ∧ (c58 = true →
     c58 = true → c58 = true) ∧ (c58 = true → 1 = 1) ∧ (c58 = true → 0 = 0) ∧ (c58 = true → c58 = true → c58 = true) ∧ (c58 = true → c58 = true → c58 = true) ∧ (c58
     = true → c58 = true → c58 = true) ∧ (D.and c58 c61 = true → D.and c58 c61 = true → D.and c58 c61 = true) ∧ (D.and c58 c61 = true → D.and c58 c61 = true → D.and
     c58 c61 = true) ∧ (D.and c58 c61 = true → D.ile (0 : Int) c11) ∧ (D.and c58 c61 = true → D.ilt c11 c15) ∧ (D.and c58 c61 = true → D.and c58 c61 = true → D.and
     c58 c61 = true) ∧ (D.and c58 c61 = true → 1 = 1) ∧ (D.and c58 c61 = true → D.and c58 c61 = true → D.and c58 c61 = true) ∧ (D.and c58 c61 = true → 1 = 1) ∧
     (D.and c58 c61 = true → 0 = 0) ∧ (D.and c58 c61 = true → D.and c58 c61 = true → D.and c58 c61 = true) ∧ (D.and c58 c61 = true → D.and c58 c61 = true → D.and
     c58 c61 = true) ∧ (D.and c58 c61 = true → D.ile (0 : Int) c62) ∧ (D.and c58 c61 = true → D.ilt c62 c17) ∧ (D.and c58 c61 = true → D.and c58 c61 = true → D.and
     c58 c61 = true) ∧ (D.and c58 c61 = true → D.and c58 c61 = true → D.and c58 c61 = true) ∧ (c58 = true → c58 = true → c58 = true) ∧ (c58 = true → D.and c58 c61 =
     true → D.and c58 c61 = true) ∧ (c58 = true → c58 = true → c58 = true) ∧ (D.and c58 c64 = true → D.and c58 c64 = true → D.and c58 c64 = true) ∧ (D.and c58 c64 =
     true → D.and c58 c64 = true → D.and c58 c64 = true) ∧ (D.and c58 c64 = true → D.ile (0 : Int) c11) ∧ (D.and c58 c64 = true → D.ilt c11 c15) ∧ (D.and c58 c64 =
     true → D.and c58 c64 = true → D.and c58 c64 = true) ∧ (D.and c58 c64 = true → D.and c58 c64 = true → D.and c58 c64 = true) ∧ (D.and c58 c64 = true → D.and c58
     c64 = true → D.and c58 c64 = true) ∧ (D.and c58 c64 = true → D.ile (0 : Int) x) ∧ (D.and c58 c64 = true → D.ilt x c17) ∧ (D.and c58 c64 = true → D.and c58 c64
     = true → D.and c58 c64 = true) ∧ (D.and c58 c64 = true → D.and c58 c64 = true → D.and c58 c64 = true) ∧ (D.and c58 c64 = true → D.and c58 c64 = true → D.and
     c58 c64 = true) ∧ (D.and c58 c64 = true → D.ile (0 : Int) c11) ∧ (D.and c58 c64 = true → D.ilt c11 c15) ∧ (D.and c58 c64 = true → D.and c58 c64 = true → D.and
     c58 c64 = true) ∧ (D.and c58 c64 = true → 1 = 1) ∧ (D.and c58 c64 = true → D.and c58 c64 = true → D.and c58 c64 = true) ∧ (D.and c58 c64 = true → 1 = 1) ∧
     (D.and c58 c64 = true → 0 = 0) ∧ (D.and c58 c64 = true → D.and c58 c64 = true → D.and c58 c64 = true) ∧ (D.and c58 c64 = true → D.and c58 c64 = true → D.and
     c58 c64 = true) ∧ (D.and c58 c64 = true → D.ile (0 : Int) c62) ∧ (D.and c58 c64 = true → D.ilt c62 c17) ∧ (D.and c58 c64 = true → D.and c58 c64 = true → D.and
     c58 c64 = true) ∧ (D.and c58 c64 = true → 1 = 1) ∧ (D.and c58 c64 = true → D.and c58 c64 = true → D.and c58 c64 = true) ∧ (D.and c58 c64 = true → 1 = 1) ∧
     (D.and c58 c64 = true → 0 = 0) ∧ (D.and c58 c64 = true → D.and c58 c64 = true → D.and c58 c64 = true) ∧ (D.and c58 c64 = true → D.and c58 c64 = true → D.and
     c58 c64 = true) ∧ (D.and c58 c64 = true → inR IntKind.i64 c65) ∧ (D.and c58 c64 = true → D.and c58 c64 = true → D.and c58 c64 = true) ∧ (D.and c58 c64 = true →
     D.and c58 c64 = true → D.and c58 c64 = true) ∧ (c58 = true → c58 = true → c58 = true) ∧ (c58 = true → D.and c58 c64 = true → D.and c58 c64 = true) ∧ (D.and
     true c58 = true → c58 = true) ∧ inR IntKind.i64 c66 ∧ ∃ y, upN y c12 ∧ (cs = cs ∧ ns = ns ∧ os = os ∧ fs = fs ∧ ls = ls ∧ ks = ks ∧ f = f ∧ ch = ch ∧ c2 = c2 ∧
     true = true ∧ c8 = c8 ∧ c11 = c11 ∧ c22 = c22 ∧ c24 = c24 ∧ c25 = c25 ∧ x = x ∧ D.cnd c57 true (D.cnd c64 (D.eq c52 c65) false) = someD c8 ls c11 x y ∧ c66 = y
     ∧ true = true ∧ cs = cs ∧ ns = ns ∧ os = os ∧ fs = fs ∧ ls = ls ∧ ks = ks ∧ c3 = c3 ∧ c4 = c4 ∧ c4 = c4 ∧ c6 = c6 ∧ cs = cs ∧ ns = ns ∧ os = os ∧ fs = fs ∧ ls
     = ls ∧ ks = ks ∧ c8 = c8 ∧ c8 = c8 ∧ c1 = c1 ∧ fs = fs ∧ c7 = c7 ∧ c9 = c9 ∧ c10 = c10 ∧ f = f ∧ f = f ∧ c1 = c1 ∧ fs = fs ∧ c7 = c7 ∧ c11 = c11 ∧ c11 = c11 ∧
     c25 = c25 ∧ ch = ch ∧ D.ilen ch = D.ilen ch ∧ c26 = c26 ∧ c26 = c26 ∧ c27 = c27 ∧ x = x ∧ c8 = c8 ∧ c15 = c15 ∧ D.lt x c15 = D.lt x c15 ∧ c8 = c8 ∧ c11 = c11 ∧
     c16 = c16 ∧ c16 = c16 ∧ x = x ∧ c52 = c52 ∧ c52 = c52 ∧ c53 = c53 ∧ c53 = c53 ∧ c55 = c55 ∧ True) ∧ D.nlt (D.nat (D.sub c12 y)) (D.nat (D.sub c12 x_3))) ∧
     (D.lt x_3 c12 = false → (c58 = true → false = true ∧ True) ∧ (c58 = false → inR IntKind.i64 c56 ∧ ∃ y, upN y c7 ∧ (cs = cs ∧ ns = ns ∧ os = os ∧ fs = fs ∧ ls =
     ls ∧ ks = ks ∧ f = f ∧ ch = ch ∧ c2 = c2 ∧ true = true ∧ c8 = c8 ∧ c11 = c11 ∧ c22 = c22 ∧ c24 = c24 ∧ c25 = c25 ∧ c56 = y ∧ true = true ∧ cs = cs ∧ ns = ns ∧
     os = os ∧ fs = fs ∧ ls = ls ∧ ks = ks ∧ c3 = c3 ∧ c4 = c4 ∧ c4 = c4 ∧ c6 = c6 ∧ cs = cs ∧ ns = ns ∧ os = os ∧ fs = fs ∧ ls = ls ∧ ks = ks ∧ c8 = c8 ∧ c8 = c8 ∧
     c1 = c1 ∧ fs = fs ∧ c7 = c7 ∧ c9 = c9 ∧ c10 = c10 ∧ f = f ∧ f = f ∧ c1 = c1 ∧ fs = fs ∧ c7 = c7 ∧ c11 = c11 ∧ c11 = c11 ∧ c25 = c25 ∧ ch = ch ∧ D.ilen ch =
     D.ilen ch ∧ c26 = c26 ∧ c26 = c26 ∧ c27 = c27 ∧ True) ∧ D.nlt (D.nat (D.sub c7 y)) (D.nat (D.sub c7 x))))) ∧ (D.lt x c15 = false → true = true ∧ True)))))) :
    evF (mkc K18) (ldistA (cs, ns, os, fs, ls, ks) ch) 4 [net cs ns os fs ls ks, .dat U8 f, .dat (.sl U8) ch] [] ⟨u8sP f ch, .dat .bool true, []⟩ := of_eq (by kernel_rfl) hvc

set_option maxRecDepth 100000 in
theorem vc_ltri (x y z : Int) (cs : List (Int × List Bool × List Int)) (ns os : List ByteArray) (fs : List Off) (ls : List Line) (ks : List Cla) (hvc :
    let c1 := (cs, ns, os, fs, ls, ks);
    let c2 := D.not (consF c1);
    let c3 := D.ilen fs;
    let c4 := dist2 c1;
    let c5 := D.not (sqF c4 c3);
    let c6 := D.rem x c3;
    let c7 := D.ilen c4;
    let c8 := D.nat c6;
    let c9 := D.get c4 c8 (D.nil Int);
    let c10 := D.ilen c9;
    let c11 := D.cnd true (D.eq (D.get c9 c8 (0 : Int)) (0 : Int)) false;
    let c12 := D.rem y c3;
    let c13 := D.nat c12;
    let c14 := D.get c9 c13 (0 : Int);
    let c15 := D.lt c14 (0 : Int);
    let c16 := D.rem z c3;
    let c17 := D.get c4 c13 (D.nil Int);
    let c18 := D.nat c16;
    let c19 := D.get c17 c18 (0 : Int);
    let c20 := D.cnd c15 true (D.lt c19 (0 : Int));
    let c21 := D.and c11 (D.not c20);
    let c22 := D.get c9 c18 (0 : Int);
    let c23 := D.ge c22 (0 : Int);
    let c24 := D.add c14 c19; true = true ∧ (u8sP x [y, z] → True ∧ True ∧ (c2 = true → true = true ∧ True) ∧ (c2 = false → True ∧ okInt c3 ∧ (c5 = true → false =
     true ∧ True) ∧ (c5 = false → inR IntKind.i64 x ∧ D.ine c3 (0 : Int) ∧ inR IntKind.i64 y ∧ D.ine c3 (0 : Int) ∧ inR IntKind.i64 z ∧ D.ine c3 (0 : Int) ∧ (true =
     true → true = true → true = true) ∧ (true = true → true = true → true = true) ∧ (true = true → D.ile (0 : Int) c6) ∧ (true = true → D.ilt c6 c7) ∧ (true = true
     → true = true → true = true) ∧ (true = true → true = true → true = true) ∧ (true = true → true = true → true = true) ∧ (true = true → D.ile (0 : Int) c6) ∧
     (true = true → D.ilt c6 c10) ∧ (true = true → true = true → true = true) ∧ (true = true → true = true → true = true) ∧ (D.and true true = true → true = true) ∧
     (c11 = true → c11 = true → c11 = true) ∧ (c11 = true → c11 = true → c11 = true) ∧ (c11 = true → D.ile (0 : Int) c6) ∧ (c11 = true → D.ilt c6 c7) ∧ (c11 = true
     → c11 = true → c11 = true) ∧ (c11 = true → c11 = true → c11 = true) ∧ (c11 = true → c11 = true → c11 = true) ∧ (c11 = true → D.ile (0 : Int) c12) ∧ (c11 = true
     → D.ilt c12 c10) ∧ (c11 = true → c11 = true → c11 = true) ∧ (c11 = true → c11 = true → c11 = true) ∧ (c11 = true → c11 = true → c11 = true) ∧ (D.and c11 (D.not
     c15) = true → D.and c11 (D.not c15) = true → D.and c11 (D.not c15) = true) ∧ (D.and c11 (D.not c15) = true → D.and c11 (D.not c15) = true → D.and c11 (D.not
     c15) = true) ∧ (D.and c11 (D.not c15) = true → D.ile (0 : Int) c12) ∧ (D.and c11 (D.not c15) = true → D.ilt c12 c7) ∧ (D.and c11 (D.not c15) = true → D.and c11
     (D.not c15) = true → D.and c11 (D.not c15) = true) ∧ (D.and c11 (D.not c15) = true → D.and c11 (D.not c15) = true → D.and c11 (D.not c15) = true) ∧ (D.and c11
     (D.not c15) = true → D.and c11 (D.not c15) = true → D.and c11 (D.not c15) = true) ∧ (D.and c11 (D.not c15) = true → D.ile (0 : Int) c16) ∧ (D.and c11 (D.not
     c15) = true → D.ilt c16 (D.ilen c17)) ∧ (D.and c11 (D.not c15) = true → D.and c11 (D.not c15) = true → D.and c11 (D.not c15) = true) ∧ (D.and c11 (D.not c15) =
     true → D.and c11 (D.not c15) = true → D.and c11 (D.not c15) = true) ∧ (c11 = true → c11 = true → c11 = true) ∧ (c11 = true → D.and c11 (D.not c15) = true →
     D.and c11 (D.not c15) = true) ∧ (c11 = true → c11 = true → c11 = true) ∧ (c21 = true → c21 = true → c21 = true) ∧ (c21 = true → c21 = true → c21 = true) ∧ (c21
     = true → D.ile (0 : Int) c6) ∧ (c21 = true → D.ilt c6 c7) ∧ (c21 = true → c21 = true → c21 = true) ∧ (c21 = true → c21 = true → c21 = true) ∧ (c21 = true → c21
     = true → c21 = true) ∧ (c21 = true → D.ile (0 : Int) c16) ∧ (c21 = true → D.ilt c16 c10) ∧ (c21 = true → c21 = true → c21 = true) ∧ (c21 = true → c21 = true →
     c21 = true) ∧ (c21 = true → c21 = true → c21 = true) ∧ (D.and c21 c23 = true → D.and c21 c23 = true → D.and c21 c23 = true) ∧ (D.and c21 c23 = true → D.and c21
     c23 = true → D.and c21 c23 = true) ∧ (D.and c21 c23 = true → D.ile (0 : Int) c6) ∧ (D.and c21 c23 = true → D.ilt c6 c7) ∧ (D.and c21 c23 = true → D.and c21 c23
     = true → D.and c21 c23 = true) ∧ (D.and c21 c23 = true → D.and c21 c23 = true → D.and c21 c23 = true) ∧ (D.and c21 c23 = true → D.and c21 c23 = true → D.and
     c21 c23 = true) ∧ (D.and c21 c23 = true → D.ile (0 : Int) c16) ∧ (D.and c21 c23 = true → D.ilt c16 c10) ∧ (D.and c21 c23 = true → D.and c21 c23 = true → D.and
     c21 c23 = true) ∧ (D.and c21 c23 = true → D.and c21 c23 = true → D.and c21 c23 = true) ∧ (D.and c21 c23 = true → D.and c21 c23 = true → D.and c21 c23 = true) ∧
     (D.and c21 c23 = true → D.ile (0 : Int) c6) ∧ (D.and c21 c23 = true → D.ilt c6 c7) ∧ (D.and c21 c23 = true → D.and c21 c23 = true → D.and c21 c23 = true) ∧
     (D.and c21 c23 = true → D.and c21 c23 = true → D.and c21 c23 = true) ∧ (D.and c21 c23 = true → D.and c21 c23 = true → D.and c21 c23 = true) ∧ (D.and c21 c23 =
     true → D.ile (0 : Int) c12) ∧ (D.and c21 c23 = true → D.ilt c12 c10) ∧ (D.and c21 c23 = true → D.and c21 c23 = true → D.and c21 c23 = true) ∧ (D.and c21 c23 =
     true → D.and c21 c23 = true → D.and c21 c23 = true) ∧ (D.and c21 c23 = true → D.and c21 c23 = true → D.and c21 c23 = true) ∧ (D.and c21 c23 = true → D.ile (0 :
     Int) c12) ∧ (D.and c21 c23 = true → D.ilt c12 c7) ∧ (D.and c21 c23 = true → D.and c21 c23 = true → D.and c21 c23 = true) ∧ (D.and c21 c23 = true → D.and c21
     c23 = true → D.and c21 c23 = true) ∧ (D.and c21 c23 = true → D.and c21 c23 = true → D.and c21 c23 = true) ∧ (D.and c21 c23 = true → D.ile (0 : Int) c16) ∧
     (D.and c21 c23 = true → D.ilt c16 (D.ilen c17)) ∧ (D.and c21 c23 = true → D.and c21 c23 = true → D.and c21 c23 = true) ∧ (D.and c21 c23 = true → D.and c21 c23
     = true → D.and c21 c23 = true) ∧ (D.and c21 c23 = true → D.and c21 c23 = true → D.and c21 c23 = true) ∧ (D.and c21 c23 = true → inR IntKind.i64 c24) ∧ (D.and
     c21 c23 = true → D.and c21 c23 = true → D.and c21 c23 = true) ∧ (D.and c21 c23 = true → D.and c21 c23 = true → D.and c21 c23 = true) ∧ (c21 = true → c21 = true
     → c21 = true) ∧ (c21 = true → D.and c21 c23 = true → D.and c21 c23 = true) ∧ (c11 = true → c11 = true → c11 = true) ∧ (c11 = true → c21 = true → c21 = true) ∧
     (D.and true c11 = true → c11 = true) ∧ D.cnd c11 (D.cnd c20 true (D.cnd c23 (D.le c22 c24) false)) false = true ∧ True)))) :
    evF (mkc K18) noAnn 5 [net cs ns os fs ls ks, .dat U8 x, .dat U8 y, .dat U8 z] [] ⟨u8sP x [y, z], .dat .bool true, []⟩ := of_eq (by kernel_rfl) hvc

theorem KS18' : KSound Tryd.prog G0 K18 := KS18
theorem checkF_len (n : Net) : mild1 (checkF n) := by
  unfold mild1 checkF
  split
  · rename_i h
    have h1 := reachTo_len n.2.2.2.1.length n.2.2.2.2.1 n.2.2.2.1.length
    obtain ⟨cs, ns, os, fs, ls, ks⟩ := n
    have h2 := (lines_ok cs ns os fs ls ks h).1.n12
    rw [Int.toNat_natCast] at h1
    exact Nat.le_trans h1 (Nat.le_trans h2 (by decide))
  · have := faultsTo_len' (n := n) (k := 6) (by decide) (by decide)
    unfold faultsF
    omega
theorem dist2_mild (n : Net) : mild (dist2 n) := by
  unfold mild dist2
  split
  · rename_i h
    obtain ⟨cs, ns, os, fs, ls, ks⟩ := n
    have h2 := (lines_ok cs ns os fs ls ks h).1.n12
    unfold distF
    refine ⟨by rw [List.length_map, List.length_range]; show fs.length ≤ 1000000; omega, fun r hr => ?_⟩
    obtain ⟨a, _, rfl⟩ := List.mem_map.1 hr
    rw [distRow_len]; show fs.length ≤ 1000000; omega
  · exact ⟨Nat.zero_le _, fun r hr => by cases hr⟩
theorem not_false {b : Bool} (h : D.not b = false) : b = true := by cases b <;> first | rfl | cases h
theorem t_lmatch (so sl : Int) (cs : List (Int × List Bool × List Int)) (ns os : List ByteArray) (fs : List Off) (ls : List Line) (ks : List Cla) : SoundC Tryd.prog G0 3 [net cs ns os fs ls ks, .agg [.dat I so, .dat I sl]] [] ⟨True, .dat .bool true, []⟩ := by
  refine sound_of_ev (c := mkc K18) KS18' KI0s hm (vc_lmatch so sl cs ns os fs ls ks ⟨rfl, fun _ => ?_⟩)
  have e1 : sameF (checkF (cs, ns, os, fs, ls, ks)) (checkF (cs, ns, os, fs, ls, ks)) = true := beq_self_eq_true _
  have e2 : sameR (dist2 (cs, ns, os, fs, ls, ks)) (dist2 (cs, ns, os, fs, ls, ks)) = true := beq_self_eq_true _
  simp only [e1, e2, cnd_or, cnd_and, D.and, D.or, D.not, Bool.true_and, Bool.and_true, Bool.false_or, Bool.or_false, eq_self, true_and, and_true, imp_self, implies_true, Bool.not_eq_true', Bool.or_eq_true, Bool.or_eq_false_iff, Bool.not_eq_false', Bool.and_eq_true, Bool.and_eq_false_imp, Bool.not_not, forall_const, exists_eq_right, exists_eq_right', exists_eq_left, exists_eq_left', Int.toNat_natCast, Nat.zero_add, Nat.mul_one, Int.ofNat_eq_natCast, D.nil, D.eq, D.ne, D.lt, D.gt, D.le, D.ge, D.beq, D.ilen, D.slen, D.ile, D.ilt, D.ine, D.nle, D.nlt, D.sub, D.add, D.mul, D.neg, D.nat, D.ofN, D.len, D.nadd, D.nmul, D.get, D.mn, D.mx, D.set, D.app, D.tail, D.part, D.seg, D.rep, D.at2, decide_eq_true_eq, decide_eq_false_iff_not, beq_iff_eq, bne_iff_ne, beq_eq_false_iff_ne, bne_eq_false_iff_eq]
  refine fun hf => ?_
  have hc := few_fewC hf
  have m1 := checkF_len (cs, ns, os, fs, ls, ks)
  have m2 := dist2_mild (cs, ns, os, fs, ls, ks)
  and_intros <;> first | exact hc | exact m1 | exact m2.1 | exact m2.2 | (intros; trivial) | rfl
structure DistOk (m : Nat) (ls : List Line) (d : List (List Int)) : Prop where
  pos : 0 < m
  m12 : m ≤ 12
  ok : LinesOk m ls
  len : d.length = m
  row : ∀ a : Int, 0 ≤ a → a < m → (d.getD a.toNat []).length = m
  self : ∀ a : Int, 0 ≤ a → a < m → at2 d a a = 0
  low : ∀ a b : Int, 0 ≤ a → a < m → 0 ≤ b → b < m → -1 ≤ at2 d a b ∧ at2 d a b ≤ 20480000
  line : ∀ a : Int, 0 ≤ a → a < m → ∀ l ∈ ls, 0 ≤ at2 d a (lFrom l) → 0 ≤ at2 d a (lTo l) ∧ at2 d a (lTo l) ≤ at2 d a (lFrom l) + lTravel l
  last : ∀ a b : Int, 0 ≤ a → a < m → 0 ≤ b → b < m → b ≠ a → 0 ≤ at2 d a b → ∃ l ∈ ls, lTo l = b ∧ 0 ≤ at2 d a (lFrom l) ∧ at2 d a b = at2 d a (lFrom l) + lTravel l
  tri : ∀ a b c : Int, 0 ≤ a → a < m → 0 ≤ b → b < m → 0 ≤ c → c < m → 0 ≤ at2 d a b → 0 ≤ at2 d b c → 0 ≤ at2 d a c ∧ at2 d a c ≤ at2 d a b + at2 d b c
  sq : sqF d m = true
theorem distOk {m : Nat} {ls : List Line} (ok : LinesOk m ls) (h0 : 0 < m) : DistOk m ls (distF m ls) := by
  have h12 := ok.n12
  have hat : ∀ a b : Int, 0 ≤ a → a < m → 0 ≤ b → b < m → at2 (distF m ls) a b = cell (relaxedF ls) a.toNat b.toNat := by
    intro a b a0 a1 b0 b1
    unfold at2 distF
    rw [List.getD_eq_getElem?_getD, List.getD_eq_getElem?_getD, List.getElem?_map, List.getElem?_range (by omega), Option.map_some, Option.getD_some, ← List.getD_eq_getElem?_getD, distRow_at (by omega)]
  have hd : ∀ a : Int, 0 ≤ a → a < m → IsDist ls a.toNat (cell (relaxedF ls) a.toNat) := fun a a0 a1 => relaxedF_dist ok (by omega)
  have hl : ∀ l ∈ ls, 0 ≤ lFrom l ∧ lFrom l < m ∧ 0 ≤ lTo l ∧ lTo l < m := fun l hl => by
    have := ok.at_ l hl
    exact ⟨this.1, this.2.1, this.2.2.1, this.2.2.2.1⟩
  have len : (distF m ls).length = m := by unfold distF; simp
  have row : ∀ r ∈ distF m ls, r.length = m := fun r hr => by
    unfold distF at hr
    obtain ⟨a, _, rfl⟩ := List.mem_map.1 hr
    exact distRow_len _ _ _
  refine ⟨h0, h12, ok, len, fun a a0 a1 => ?_, fun a a0 a1 => ?_, fun a b a0 a1 b0 b1 => ?_, fun a a0 a1 l l1 => ?_, fun a b a0 a1 b0 b1 hne => ?_, fun a b c a0 a1 b0 b1 c0 c1 => ?_, ?_⟩
  · refine row _ ?_
    rw [List.getD_eq_getElem?_getD, List.getElem?_eq_getElem (by omega), Option.getD_some]
    exact List.getElem_mem _
  · rw [hat a a a0 a1 a0 a1]; exact (hd a a0 a1).self
  · rw [hat a b a0 a1 b0 b1]; exact fwN_bound ok (Nat.le_refl _) (by omega) (by omega)
  · obtain ⟨p, q, r, s⟩ := hl l l1
    rw [hat a _ a0 a1 p q, hat a _ a0 a1 r s]
    exact (hd a a0 a1).line l l1
  · rw [hat a b a0 a1 b0 b1]
    intro h
    obtain ⟨l, l1, l2, l3, l4⟩ := (hd a a0 a1).last b.toNat (by omega) (by omega) h
    obtain ⟨p, q, r, s⟩ := hl l l1
    exact ⟨l, l1, by omega, by rw [hat a _ a0 a1 p q]; exact l3, by rw [hat a _ a0 a1 p q]; exact l4⟩
  · rw [hat a b a0 a1 b0 b1, hat b c b0 b1 c0 c1, hat a c a0 a1 c0 c1]
    intro g1 g2
    have w1 := (hd a a0 a1).toWalk ok _ b.toNat (by omega) g1 (Nat.le_refl _)
    have w2 := (hd b b0 b1).toWalk ok _ c.toNat (by omega) g2 (Nat.le_refl _)
    exact (hd a a0 a1).walk ok (w1.trans w2)
  · unfold sqF
    rw [Bool.and_eq_true]
    exact ⟨decide_eq_true (by omega), List.all_eq_true.2 fun r hr => decide_eq_true (by rw [row r hr])⟩
theorem cons_parts (cs : List (Int × List Bool × List Int)) (ns os : List ByteArray) (fs : List Off) (ls : List Line) (ks : List Cla) (h : consF (cs, ns, os, fs, ls, ks) = true) : fewF (cs, ns, os, fs, ls, ks) = true ∧ noF (cs, ns, os, fs, ls, ks) = true ∧ DistOk fs.length ls (dist2 (cs, ns, os, fs, ls, ks)) := by
  unfold consF at h
  rw [Bool.and_eq_true, Bool.and_eq_true] at h
  refine ⟨h.1.1, h.1.2, ?_⟩
  have e : dist2 (cs, ns, os, fs, ls, ks) = distF fs.length ls := by unfold dist2; rw [if_pos h.1.2]
  rw [e]
  exact distOk (lines_ok cs ns os fs ls ks h.1.2).1 (of_decide_eq_true h.2)
theorem rem_in {f m : Int} (hf : 0 ≤ f) (hm : 0 < m) : 0 ≤ D.rem f m ∧ D.rem f m < m := ⟨Int.tmod_nonneg m hf, Int.tmod_lt_of_pos f hm⟩
theorem at2_fold (d : List (List Int)) (a b : Int) : (d.getD a.toNat []).getD b.toNat 0 = at2 d a b := rfl
theorem u8_in {x : Int} (h : u8P x) : inR .i64 x := by unfold u8P at h; unfold inR; simp only; omega
theorem in_small {x : Int} (h : -1000000000 ≤ x ∧ x ≤ 1000000000) : inR .i64 x := by unfold inR; simp only; omega
theorem t_ltri (x y z : Int) (cs : List (Int × List Bool × List Int)) (ns os : List ByteArray) (fs : List Off) (ls : List Line) (ks : List Cla) : SoundC Tryd.prog G0 5 [net cs ns os fs ls ks, .dat U8 x, .dat U8 y, .dat U8 z] [] ⟨u8sP x [y, z], .dat .bool true, []⟩ := by
  refine sound_of_ev (c := mkc K18) KS18' KI0s hm (vc_ltri x y z cs ns os fs ls ks ⟨rfl, fun hp => ?_⟩)
  obtain ⟨x0, hyz⟩ := hp
  have y0 := hyz y (by simp)
  have z0 := hyz z (by simp)
  simp only [cnd_or, cnd_and, D.and, D.or, D.not, Bool.true_and, Bool.and_true, Bool.false_or, Bool.or_false, eq_self, true_and, and_true, imp_self, implies_true, Bool.not_eq_true', Bool.or_eq_true, Bool.or_eq_false_iff, Bool.not_eq_false', Bool.and_eq_true, Bool.and_eq_false_imp, Bool.not_not, forall_const, exists_eq_right, exists_eq_right', exists_eq_left, exists_eq_left', Int.toNat_natCast, Nat.zero_add, Nat.mul_one, Int.ofNat_eq_natCast, D.nil, D.eq, D.ne, D.lt, D.gt, D.le, D.ge, D.beq, D.ilen, D.slen, D.ile, D.ilt, D.ine, D.nle, D.nlt, D.sub, D.add, D.mul, D.neg, D.nat, D.ofN, D.len, D.nadd, D.nmul, D.get, D.mn, D.mx, D.set, D.app, D.tail, D.part, D.seg, D.rep, D.at2, decide_eq_true_eq, decide_eq_false_iff_not, beq_iff_eq, bne_iff_ne, beq_eq_false_iff_ne, bne_eq_false_iff_eq]
  intro hc
  obtain ⟨_, _, dk⟩ := cons_parts cs ns os fs ls ks hc
  revert dk
  generalize dist2 (cs, ns, os, fs, ls, ks) = d
  intro dk
  have hpos := dk.pos
  have h12 := dk.m12
  obtain ⟨a0, a1⟩ := rem_in x0.1 (show (0 : Int) < fs.length by omega)
  obtain ⟨b0, b1⟩ := rem_in y0.1 (show (0 : Int) < fs.length by omega)
  obtain ⟨c0, c1⟩ := rem_in z0.1 (show (0 : Int) < fs.length by omega)
  have x1 := u8_in x0
  have y1 := u8_in y0
  have z1 := u8_in z0
  simp only [at2_fold]
  generalize D.rem x (fs.length : Int) = a at a0 a1 ⊢
  generalize D.rem y (fs.length : Int) = b at b0 b1 ⊢
  generalize D.rem z (fs.length : Int) = c at c0 c1 ⊢
  have la := dk.row a a0 a1
  have lb := dk.row b b0 b1
  have ld := dk.len
  have s1 := dk.self a a0 a1
  have w1 := dk.low a b a0 a1 b0 b1
  have w2 := dk.low b c b0 b1 c0 c1
  have w3 := dk.low a c a0 a1 c0 c1
  have tr := dk.tri a b c a0 a1 b0 b1 c0 c1
  refine ⟨(show (fs.length : Int) ≤ 1000000 by omega), fun h => (by rw [dk.sq] at h; cases h), fun _ => ?_⟩
  refine ⟨x1, by omega, y1, by omega, z1, by omega, ?_⟩
  and_intros
  all_goals try (intros; omega)
  exact fun _ => in_small (by omega)
theorem someD_zero (d : List (List Int)) (ls : List Line) (s b : Int) : someD d ls s b 0 = (decide (at2 d s b < 0) || (decide (b = s) && decide (at2 d s b = 0))) := by
  unfold someD; simp
theorem someD_next {d : List (List Int)} {ls : List Line} {s b k : Int} (k0 : 0 ≤ k) {l : Line} (hl : ls[k.toNat]? = some l) : someD d ls s b (k + 1) = (someD d ls s b k || (decide (lTo l = b) && decide (0 ≤ at2 d s (lFrom l)) && decide (at2 d s b = at2 d s (lFrom l) + lTravel l))) := by
  unfold someD
  rw [show (k + 1).toNat = k.toNat + 1 by omega, List.take_add_one, hl, Option.toList_some, List.any_append, List.any_cons, List.any_nil, Bool.or_false]
  simp only [Bool.or_assoc]
theorem someD_all {m : Nat} {ls : List Line} {d : List (List Int)} (dk : DistOk m ls d) {s b : Int} (s0 : 0 ≤ s) (s1 : s < m) (b0 : 0 ≤ b) (b1 : b < m) : someD d ls s b ls.length = true := by
  unfold someD
  rw [Int.toNat_natCast, List.take_length]
  by_cases h : at2 d s b < 0
  · rw [decide_eq_true h]; rfl
  by_cases e : b = s
  · subst e; rw [dk.self b b0 b1]; simp
  obtain ⟨l, l1, l2, l3, l4⟩ := dk.last s b s0 s1 b0 b1 e (by omega)
  rw [Bool.or_eq_true]
  exact .inr (List.any_eq_true.2 ⟨l, l1, by rw [decide_eq_true l2, decide_eq_true l3, decide_eq_true l4]; rfl⟩)
set_option maxHeartbeats 2000000 in
theorem t_ldist (f : Int) (ch : List Int) (cs : List (Int × List Bool × List Int)) (ns os : List ByteArray) (fs : List Off) (ls : List Line) (ks : List Cla) : SoundC Tryd.prog G0 4 [net cs ns os fs ls ks, .dat U8 f, .dat (.sl U8) ch] [] ⟨u8sP f ch, .dat .bool true, []⟩ := by
  refine sound_of_ev (c := mkc K18) KS18' KI0s hm (vc_ldist f ch cs ns os fs ls ks ⟨rfl, fun hp => ?_⟩)
  obtain ⟨x0, hch⟩ := hp
  simp only [cnd_or, cnd_and, D.and, D.or, D.not, Bool.true_and, Bool.and_true, Bool.false_or, Bool.or_false, eq_self, true_and, and_true, imp_self, implies_true, Bool.not_eq_true', Bool.or_eq_true, Bool.or_eq_false_iff, Bool.not_eq_false', Bool.and_eq_true, Bool.and_eq_false_imp, Bool.not_not, forall_const, exists_eq_right, exists_eq_right', exists_eq_left, exists_eq_left', Int.toNat_natCast, Nat.zero_add, Nat.mul_one, Int.ofNat_eq_natCast, D.nil, D.eq, D.ne, D.lt, D.gt, D.le, D.ge, D.beq, D.ilen, D.slen, D.ile, D.ilt, D.ine, D.nle, D.nlt, D.sub, D.add, D.mul, D.neg, D.nat, D.ofN, D.len, D.nadd, D.nmul, D.get, D.mn, D.mx, D.set, D.app, D.tail, D.part, D.seg, D.rep, D.at2, decide_eq_true_eq, decide_eq_false_iff_not, beq_iff_eq, bne_iff_ne, beq_eq_false_iff_ne, bne_eq_false_iff_eq]
  intro ⟨hc, hlen⟩
  obtain ⟨_, hnf, dk⟩ := cons_parts cs ns os fs ls ks hc
  have h40 := (lines_ok cs ns os fs ls ks hnf).2
  simp only [wayTo, at2_fold]
  revert dk
  generalize dist2 (cs, ns, os, fs, ls, ks) = d
  intro dk
  have hpos := dk.pos
  have h12 := dk.m12
  obtain ⟨s0, s1⟩ := rem_in x0.1 (show (0 : Int) < fs.length by omega)
  have x1 := u8_in x0
  generalize D.rem f (fs.length : Int) = st at s0 s1 ⊢
  have la := dk.row st s0 s1
  have ld := dk.len
  have ss := dk.self st s0 s1
  have z : upN 0 (fs.length : Int) := ⟨Int.le_refl _, Int.natCast_nonneg _⟩
  have zl : upN 0 (ls.length : Int) := ⟨Int.le_refl _, Int.natCast_nonneg _⟩
  have hdl : ∀ l ∈ ls, 0 ≤ l.2.1 ∧ l.2.1 < fs.length ∧ 0 ≤ l.2.2.1 ∧ l.2.2.1 < fs.length ∧ l.2.1 ≠ l.2.2.1 ∧ 1 ≤ l.2.2.2.2.1 ∧ l.2.2.2.2.1 ≤ 5000 := dk.ok.at_
  refine ⟨(show (fs.length : Int) ≤ 1000000 by omega), fun h => (by rw [dk.sq] at h; cases h), fun _ => ⟨x1, by omega, ⟨(st, 0, 0), ⟨hc, Int.le_refl _, Int.natCast_nonneg _, (by show (0 : Int) ≤ 20; omega), s0, s1, Int.le_refl _, Int.le_refl _, (by show 0 ≤ at2 d st st; omega), (by show at2 d st st ≤ 0; omega)⟩, rfl, rfl, rfl⟩, fun x => ?_⟩⟩
  obtain ⟨at', len, k⟩ := x
  simp only
  rintro ⟨_, k0, k1, k20, a0, a1, l0, l1, w0, w1⟩
  refine ⟨fun ⟨hk, hls⟩ => ?_, fun hno => ?_⟩
  · have c8 : u8P (ch.getD k.toNat 0) := by
      rw [List.getD_eq_getElem?_getD, List.getElem?_eq_getElem (by omega), Option.getD_some]
      exact hch _ (List.getElem_mem _)
    have c64 := u8_in c8
    obtain ⟨q0, q1⟩ := rem_in c8.1 (show (0 : Int) < ls.length by omega)
    generalize ch.getD k.toNat 0 = c at c8 c64 q0 q1 ⊢
    generalize D.rem c (ls.length : Int) = q at q0 q1 ⊢
    have hl : ls.getD q.toNat (⟨#[]⟩, 0, 0, 0, 0, 0) ∈ ls := by
      rw [List.getD_eq_getElem?_getD, List.getElem?_eq_getElem (by omega), Option.getD_some]
      exact List.getElem_mem _
    revert hl
    generalize ls.getD q.toNat _ = l
    intro hl
    obtain ⟨f0, f1, t0, t1, _, v1, v2⟩ := hdl l hl
    have hline : l.2.1 = at' → 0 ≤ at2 d st l.2.2.1 ∧ at2 d st l.2.2.1 ≤ at2 d st at' + l.2.2.2.2.1 := fun e => by
      have := dk.line st s0 s1 l hl
      unfold lFrom lTo lTravel at this
      rw [e] at this
      exact this w0
    refine ⟨k0, hk, c64, by omega, q0, q1, fun he => ?_, fun hne => ?_⟩
    · have h1 := hline he
      refine ⟨in_small (by omega), ?_⟩
      and_intros
      all_goals try (intros; omega)
      intro _
      exact ⟨in_small (by omega), (l.2.2.1, len + l.2.2.2.2.1, k + 1), (by simp only; exact ⟨hc, by omega, by omega, by omega, t0, t1, by omega, by omega, by omega, by omega⟩), ⟨rfl, rfl, rfl⟩, by simp only; omega⟩
    · and_intros
      all_goals try (intros; omega)
      intro _
      exact ⟨in_small (by omega), (at', len, k + 1), (by simp only; exact ⟨hc, by omega, by omega, by omega, a0, a1, by omega, by omega, by omega, by omega⟩), ⟨rfl, rfl, rfl⟩, by simp only; omega⟩
  · refine ⟨z, fun b ⟨b0, b1⟩ => fun hb => ?_⟩
    refine ⟨s0, by omega, b0, by omega, fun _ => s0, fun _ => by omega, fun _ => b0, fun _ => by omega, ⟨0, zl, (by rw [someD_zero]; rfl), rfl⟩, fun j ⟨j0, j1⟩ => ⟨fun hj => ?_, fun hj => ?_⟩⟩
    · obtain ⟨l, hl⟩ : ∃ l, ls[j.toNat]? = some l := ⟨_, List.getElem?_eq_getElem (by omega)⟩
      have el : ls.getD j.toNat (⟨#[]⟩, 0, 0, 0, 0, 0) = l := by rw [List.getD_eq_getElem?_getD, hl, Option.getD_some]
      simp only [el]
      obtain ⟨f0, f1, t0, t1, _, v1, v2⟩ := hdl l (List.mem_of_getElem? hl)
      have w2 := dk.low st l.2.1 s0 s1 f0 f1
      have e2 := someD_next (d := d) (s := st) (b := b) j0 hl
      and_intros
      all_goals try (intros; omega)
      · exact fun _ => in_small (by omega)
      · exact ⟨j + 1, ⟨by omega, by omega⟩, ⟨e2.symm, rfl⟩, by omega⟩
    · have : j = ls.length := by omega
      subst this
      have e3 := someD_all dk s0 s1 b0 (show b < fs.length by omega)
      exact ⟨fun h => (by rw [e3] at h; cases h), fun _ => ⟨in_small (by omega), b + 1, ⟨by omega, by omega⟩, rfl, by omega⟩⟩

end Go.Eng.Sv
