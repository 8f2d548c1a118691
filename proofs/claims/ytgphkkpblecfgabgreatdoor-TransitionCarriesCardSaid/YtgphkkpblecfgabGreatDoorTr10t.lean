/- PeTr10t -/
import Derived.Test.YtgphkkpblecfgabGreatDoorY22
import Derived.Test.YtgphkkpblecfgabGreatDoorTr9t
set_option linter.unusedSimpArgs false
set_option linter.unusedVariables false
set_option maxRecDepth 100000
noncomputable section
namespace Go.Eng.Sv
open Go.Proofs
abbrev U32 : Ty := .int .u32
abbrev B8 : Ty := .int .u8
def smF (n : Net) (nx : List (List Int)) : Bool := (fewF n && decide ((n.2.2.2.1.length : Int) ≤ 6)) && (decide ((nx.length : Int) ≤ 10) && nx.all fun r => decide ((r.length : Int) ≤ 10))
def smTo (nx : List (List Int)) (k : Int) : Prop := 0 ≤ k ∧ k ≤ nx.length ∧ nx.length ≤ 10 ∧ ∀ i : Nat, (i : Int) < k → (nx.getD i []).length ≤ 10
def passR (n : Net) (nx : List (List Int)) (o to : Int) : List Int := if leadsF n nx o to = true then passL n nx o to else []
def passTo (n : Net) (nx : List (List Int)) (o to : Int) (x : List Int × Int) : Prop := passP n nx x.2 to ∧ x.1.length ≤ 19 ∧ passL n nx o to = x.1 ++ passN n nx to (19 - x.1.length) x.2 ∧ ∀ y ∈ x.1, y ≠ to
def passB (x : List Int × Int) : List Int := x.1 ++ [x.2]
def postF (n : Net) (a b c : Int) : ByteArray × Int × Int × Int × Int := (⟨#[]⟩, a.tmod n.2.2.2.1.length, b.tmod n.2.2.2.1.length, 0, c.tmod 100001)
def postP (n : Net) (a b c : Int) : Prop := 0 < n.2.2.2.1.length ∧ 0 ≤ a ∧ a ≤ 255 ∧ 0 ≤ b ∧ b ≤ 255 ∧ 0 ≤ c ∧ c ≤ 4294967295
def luF (n m : Net) (nx mx : List (List Int)) : Bool := ((((smF n nx && smF m mx) && usF n nx) && usF m mx) && alikeO n.2.2.2.1 m.2.2.2.1) && decide ((n.2.2.2.1.length : Int) > 0)
def stopTo (a b : List Stop) (k : Int) : Prop := 0 ≤ k ∧ k ≤ a.length ∧ a.length = b.length ∧ a.take k.toNat = b.take k.toNat
def sameSt (a b : List Stop) : Bool := decide (a = b)
theorem vc_within (i l : Int) (hvc :
 let c1 := D.ge i (0 : Int); true = true ∧ (True → (c1 = true → c1 = true → c1 = true) ∧ (c1 = true → c1 = true → c1 = true) ∧ (D.and true c1 = true → c1 = true)
  ∧ D.cnd c1 (D.lt i l) false = idxF i l ∧ True)) :
    evF (mkc KR13) noAnn 86 [.dat I i, .dat I l] [] ⟨True, .dat .bool (idxF i l), []⟩ := @of_eq _ _ (by kernel_rfl) hvc
def KR14 : Kt := kOr 86 (dataK [.val I, .val I] (fun _ => True) fun (i, l, _) => .dat .bool (idxF i l)) KR13
def linesA (n : Net) (nx : List (List Int)) : Ann := ⟨fun id s => match id with
  | 4 => some { α := Int, inv := fun k => rowsTo n nx k, st := fun k => put s [(5, .dat I k)], μ := fun k => D.nat (D.sub (D.ilen nx) k) }
  | 9 => match s.sig.T 5 with
    | .dat (.int .i64) o => some { α := Int, inv := fun k => rowTo n o (D.get nx (D.nat o) []) k, st := fun k => put s [(6, .dat I k)], μ := fun k => D.nat (D.sub (D.ilen nx) k) }
    | _ => none
  | _ => none, fun _ _ => none, fun _ _ => none⟩
theorem vc_rlines (nx : List (List Int)) (cs : LC) (ns os : LB) (fs : List Off) (ls : List Line) (ks : List Cla) (hvc :
 let c1 := D.ilen fs;
 let c2 := D.ne (D.ilen nx) c1;
 let c3 := (fs, ls, ks);
 let c4 := (cs, ns, os, c3);
 let c5 := tabF c4 nx;
 let c6 := D.ilen ls; true = true ∧ (fitsM nx → (c2 = true → false = c5 ∧ True) ∧ (c2 = false → (∃ x, rowsTo c4 nx x ∧ cs = cs ∧ ns = ns ∧ os = os ∧ fs = fs ∧ ls
  = ls ∧ ks = ks ∧ nx = nx ∧ c4 = c4 ∧ (0 : Int) = x ∧ nx = nx ∧ D.ilen nx = D.ilen nx ∧ c3 = c3 ∧ fs = fs ∧ c1 = c1 ∧ c2 = c2 ∧ True) ∧ ∀ (x : Int),
 let c7 := D.lt x (D.ilen nx);
 let c8 := D.get nx (D.nat x) (D.nil Int);
 let c9 := D.ilen c8;
 let c10 := D.ne c9 (D.ilen nx);
 let c11 := D.add x (1 : Int); rowsTo c4 nx x → (c7 = true → D.ile (0 : Int) x ∧ D.ilt x (D.ilen nx) ∧ (c10 = true → false = c5 ∧ True) ∧ (c10 = false → (∃ x_4,
  rowTo c4 x c8 x_4 ∧ cs = cs ∧ ns = ns ∧ os = os ∧ fs = fs ∧ ls = ls ∧ ks = ks ∧ nx = nx ∧ c4 = c4 ∧ x = x ∧ (0 : Int) = x_4 ∧ nx = nx ∧ D.ilen nx = D.ilen nx ∧
  c3 = c3 ∧ fs = fs ∧ c1 = c1 ∧ c2 = c2 ∧ x = x ∧ nx = nx ∧ D.ilen nx = D.ilen nx ∧ c7 = c7 ∧ nx = nx ∧ x = x ∧ c8 = c8 ∧ c8 = c8 ∧ c9 = c9 ∧ nx = nx ∧ D.ilen nx
  = D.ilen nx ∧ c10 = c10 ∧ True) ∧ ∀ (x_4 : Int),
 let c12 := D.lt x_4 (D.ilen nx);
 let c13 := D.get c8 (D.nat x_4) (0 : Int);
 let c14 := D.ne c13 (-1 : Int);
 let c15 := D.not (idxF c13 c6);
 let c16 := D.cnd c14 (D.cnd c15 true (D.ne (D.get ls (D.nat c13) (ByteArray.mk (D.nil UInt8).toArray, (0 : Int), (0 : Int), (0 : Int), (0 : Int), (0 :
  Int))).snd.fst x)) false;
 let c17 := D.add x_4 (1 : Int); rowTo c4 x c8 x_4 → (c12 = true → D.ile (0 : Int) x ∧ D.ilt x (D.ilen nx) ∧ D.ile (0 : Int) x_4 ∧ D.ilt x_4 c9 ∧ (c14 = true →
  c14 = true → c14 = true) ∧ (c14 = true → c14 = true → c14 = true) ∧ (c14 = true → c14 = true → c14 = true) ∧ (c14 = true → c14 = true → c14 = true) ∧ (c14 =
  true → True) ∧ (c14 = true → c14 = true → c14 = true) ∧ (c14 = true → c14 = true → c14 = true) ∧ (D.and c14 (D.not c15) = true → D.and c14 (D.not c15) = true →
  D.and c14 (D.not c15) = true) ∧ (D.and c14 (D.not c15) = true → D.and c14 (D.not c15) = true → D.and c14 (D.not c15) = true) ∧ (D.and c14 (D.not c15) = true →
  D.and c14 (D.not c15) = true → D.and c14 (D.not c15) = true) ∧ (D.and c14 (D.not c15) = true → D.ile (0 : Int) c13) ∧ (D.and c14 (D.not c15) = true → D.ilt c13
  c6) ∧ (D.and c14 (D.not c15) = true → D.and c14 (D.not c15) = true → D.and c14 (D.not c15) = true) ∧ (D.and c14 (D.not c15) = true → D.and c14 (D.not c15) =
  true → D.and c14 (D.not c15) = true) ∧ (D.and c14 (D.not c15) = true → D.and c14 (D.not c15) = true → D.and c14 (D.not c15) = true) ∧ (D.and c14 (D.not c15) =
  true → D.and c14 (D.not c15) = true → D.and c14 (D.not c15) = true) ∧ (c14 = true → c14 = true → c14 = true) ∧ (c14 = true → D.and c14 (D.not c15) = true →
  D.and c14 (D.not c15) = true) ∧ (D.and true c14 = true → c14 = true) ∧ (c16 = true → false = c5 ∧ True) ∧ (c16 = false → inR IntKind.i64 c17 ∧ ∃ y, rowTo c4 x
  c8 y ∧ (cs = cs ∧ ns = ns ∧ os = os ∧ fs = fs ∧ ls = ls ∧ ks = ks ∧ nx = nx ∧ c4 = c4 ∧ x = x ∧ c17 = y ∧ nx = nx ∧ D.ilen nx = D.ilen nx ∧ c3 = c3 ∧ fs = fs ∧
  c1 = c1 ∧ c2 = c2 ∧ x = x ∧ nx = nx ∧ D.ilen nx = D.ilen nx ∧ c7 = c7 ∧ nx = nx ∧ x = x ∧ c8 = c8 ∧ c8 = c8 ∧ c9 = c9 ∧ nx = nx ∧ D.ilen nx = D.ilen nx ∧ c10 =
  c10 ∧ True) ∧ D.nlt (D.nat (D.sub (D.ilen nx) y)) (D.nat (D.sub (D.ilen nx) x_4)))) ∧ (c12 = false → inR IntKind.i64 c11 ∧ ∃ y, rowsTo c4 nx y ∧ (cs = cs ∧ ns
  = ns ∧ os = os ∧ fs = fs ∧ ls = ls ∧ ks = ks ∧ nx = nx ∧ c4 = c4 ∧ c11 = y ∧ nx = nx ∧ D.ilen nx = D.ilen nx ∧ c3 = c3 ∧ fs = fs ∧ c1 = c1 ∧ c2 = c2 ∧ True) ∧
  D.nlt (D.nat (D.sub (D.ilen nx) y)) (D.nat (D.sub (D.ilen nx) x))))) ∧ (c7 = false → true = c5 ∧ True)))) :
    evF (mkc KR14) (linesA (cs, ns, os, fs, ls, ks) nx) 52 [net cs ns os fs ls ks, .dat M nx] [] ⟨fitsM nx, .dat .bool (tabF (cs, ns, os, fs, ls, ks) nx), []⟩ := @of_eq _ _ (by kernel_rfl) hvc
def smA (nx : List (List Int)) : Ann := ⟨fun id s => match id with
  | 4 => some { α := Int, inv := fun k => smTo nx k, st := fun k => put s [(5, .dat I k)], μ := fun k => D.nat (D.sub (D.ilen nx) k) }
  | _ => none, fun _ _ => none, fun _ _ => none⟩
theorem vc_rsm17 (nx : List (List Int)) (cs : LC) (ns os : LB) (fs : List Off) (ls : List Line) (ks : List Cla) (hvc :
 let c1 := (cs, ns, os, fs, ls, ks);
 let c2 := fewF c1;
 let c3 := D.not c2;
 let c4 := D.not c3;
 let c5 := D.cnd c3 true (D.gt (D.ilen fs) (6 : Int));
 let c6 := D.not c5;
 let c7 := D.cnd c5 true (D.gt (D.ilen nx) (10 : Int));
 let c8 := smF c1 nx; true = true ∧ (True → True ∧ (c4 = true → c4 = true → c4 = true) ∧ (c4 = true → c4 = true → c4 = true) ∧ (c4 = true → c4 = true → c4 =
  true) ∧ (D.and true c4 = true → c4 = true) ∧ (c6 = true → c6 = true → c6 = true) ∧ (c6 = true → c6 = true → c6 = true) ∧ (D.and true c6 = true → c6 = true) ∧
  (c7 = true → false = c8 ∧ True) ∧ (c7 = false → (∃ x, smTo nx x ∧ cs = cs ∧ ns = ns ∧ os = os ∧ fs = fs ∧ ls = ls ∧ ks = ks ∧ nx = nx ∧ c1 = c1 ∧ (0 : Int) = x
  ∧ cs = cs ∧ ns = ns ∧ os = os ∧ fs = fs ∧ ls = ls ∧ ks = ks ∧ c2 = c2 ∧ c3 = c3 ∧ c3 = c3 ∧ c5 = c5 ∧ c5 = c5 ∧ c7 = c7 ∧ True) ∧ ∀ (x : Int),
 let c9 := D.lt x (D.ilen nx);
 let c10 := D.gt (D.ilen (D.get nx (D.nat x) (D.nil Int))) (10 : Int);
 let c11 := D.add x (1 : Int); smTo nx x → (c9 = true → D.ile (0 : Int) x ∧ D.ilt x (D.ilen nx) ∧ (c10 = true → false = c8 ∧ True) ∧ (c10 = false → inR
  IntKind.i64 c11 ∧ ∃ y, smTo nx y ∧ (cs = cs ∧ ns = ns ∧ os = os ∧ fs = fs ∧ ls = ls ∧ ks = ks ∧ nx = nx ∧ c1 = c1 ∧ c11 = y ∧ cs = cs ∧ ns = ns ∧ os = os ∧ fs
  = fs ∧ ls = ls ∧ ks = ks ∧ c2 = c2 ∧ c3 = c3 ∧ c3 = c3 ∧ c5 = c5 ∧ c5 = c5 ∧ c7 = c7 ∧ True) ∧ D.nlt (D.nat (D.sub (D.ilen nx) y)) (D.nat (D.sub (D.ilen nx)
  x)))) ∧ (c9 = false → true = c8 ∧ True)))) :
    evF (mkc KR14) (smA nx) 50 [net cs ns os fs ls ks, .dat M nx] [] ⟨True, .dat .bool (smF (cs, ns, os, fs, ls, ks) nx), []⟩ := @of_eq _ _ (by kernel_rfl) hvc
def offsA (fs gs : List Off) : Ann := ⟨fun id s => match id with
  | 4 => some { α := Int, inv := fun k => alikeTo fs gs k, st := fun k => put s [(5, .dat I k)], μ := fun k => D.nat (D.sub (D.ilen fs) k) }
  | _ => none, fun _ _ => none, fun _ _ => none⟩
theorem vc_rsoff (cs : LC) (ns os : LB) (fs : List Off) (ls : List Line) (ks : List Cla) (cs2 : List (Int × List Bool × List Int)) (ns2 os2 : List ByteArray) (gs : List Off) (hs : List Line) (ks2 : List Cla) (hvc :
 let c1 := D.ilen fs;
 let c2 := D.ilen gs;
 let c3 := D.ne c1 c2;
 let c4 := (fs, ls, ks);
 let c5 := (cs, ns, os, c4);
 let c6 := (gs, hs, ks2);
 let c7 := (cs2, ns2, os2, c6);
 let c8 := (ByteArray.mk (D.nil UInt8).toArray, (0 : Int), (0 : Int), (0 : Int), (0 : Int), (0 : Int), D.nil ByteArray); true = true ∧ (oFits fs → (c3 = true →
  false = alikeO fs gs ∧ True) ∧ (c3 = false → (∃ x, alikeTo fs gs x ∧ cs = cs ∧ ns = ns ∧ os = os ∧ fs = fs ∧ ls = ls ∧ ks = ks ∧ cs2 = cs2 ∧ ns2 = ns2 ∧ os2 =
  os2 ∧ gs = gs ∧ hs = hs ∧ ks2 = ks2 ∧ c5 = c5 ∧ c7 = c7 ∧ (0 : Int) = x ∧ c4 = c4 ∧ fs = fs ∧ c1 = c1 ∧ c6 = c6 ∧ gs = gs ∧ c2 = c2 ∧ c3 = c3 ∧ True) ∧ ∀ (x :
  Int),
 let c9 := D.not (D.sEq (D.get fs (D.nat x) c8).fst (D.get gs (D.nat x) c8).fst);
 let c10 := D.add x (1 : Int); alikeTo fs gs x → (D.lt x c1 = true → D.ile (0 : Int) x ∧ D.ilt x c1 ∧ D.ile (0 : Int) x ∧ D.ilt x c2 ∧ (c9 = true → false =
  alikeO fs gs ∧ True) ∧ (c9 = false → inR IntKind.i64 c10 ∧ ∃ y, alikeTo fs gs y ∧ (cs = cs ∧ ns = ns ∧ os = os ∧ fs = fs ∧ ls = ls ∧ ks = ks ∧ cs2 = cs2 ∧ ns2
  = ns2 ∧ os2 = os2 ∧ gs = gs ∧ hs = hs ∧ ks2 = ks2 ∧ c5 = c5 ∧ c7 = c7 ∧ c10 = y ∧ c4 = c4 ∧ fs = fs ∧ c1 = c1 ∧ c6 = c6 ∧ gs = gs ∧ c2 = c2 ∧ c3 = c3 ∧ True) ∧
  D.nlt (D.nat (D.sub c1 y)) (D.nat (D.sub c1 x)))) ∧ (D.lt x c1 = false → true = alikeO fs gs ∧ True)))) :
    evF (mkc KR14) (offsA fs gs) 25 [net cs ns os fs ls ks, net cs2 ns2 os2 gs hs ks2] [] ⟨oFits fs, .dat .bool (alikeO fs gs), []⟩ := @of_eq _ _ (by kernel_rfl) hvc
def pasRA (n : Net) (nx : List (List Int)) (o to : Int) : Ann := ⟨fun id s => match id with
  | 2 => match s.sig.T 12 with
    | .buf nm _ => some { α := List Int × Int, inv := fun x => passTo n nx o to x, st := fun x => putM (put (flat s) [(2, .dat I x.2), (9, .buf nm (D.len (passB x)))]) nm (.buf 3 I (passB x) []), μ := fun x => D.nat (D.sub 19 (D.ilen x.1)) }
    | _ => none
  | _ => none, fun _ _ => none, fun _ _ => none⟩
theorem vc_rpass (o to : Int) (p1 p2 : Int) (nx : List (List Int)) (dy : List (List (List Int))) (cs : LC) (ns os : LB) (fs : List Off) (ls : List Line) (ks : List Cla) (hvc :
 let c1 := (cs, ns, os, fs, ls, ks);
 let c2 := (p1, p2, nx, dy);
 let c3 := passR c1 nx o to;
 let c4 := (ByteArray.mk (D.nil UInt8).toArray, (0 : Int), (0 : Int), (0 : Int), (0 : Int), (0 : Int)); true = true ∧ (passP c1 nx o to → (∃ (x : List Int ×
  Int), passTo c1 nx o to x ∧ cs = cs ∧ ns = ns ∧ os = os ∧ fs = fs ∧ ls = ls ∧ ks = ks ∧ p1 = p1 ∧ p2 = p2 ∧ nx = nx ∧ dy = dy ∧ o = x.snd ∧ to = to ∧ c1 = c1 ∧
  c2 = c2 ∧ 1 = D.len (passB x) ∧ o = o ∧ 1 = 1 ∧ [o] = passB x ∧ True) ∧ ∀ (x : List Int × Int),
 let c5 := x.snd;
 let c6 := D.ne c5 to;
 let c7 := D.get nx (D.nat c5) (D.nil Int);
 let c8 := D.get c7 (D.nat to) (0 : Int);
 let c9 := D.lt c8 (0 : Int);
 let c10 := D.not c9;
 let c11 := D.cnd c9 true (D.ge (Int.ofNat (D.len (passB x))) (20 : Int));
 let c12 := (D.get ls (D.nat c8) c4).snd.snd.fst;
 let c13 := [c12];
 let c14 := D.nadd (D.len (passB x)) (D.len c13); passTo c1 nx o to x → (c6 = true → D.ile (0 : Int) c5 ∧ D.ilt c5 (D.ilen nx) ∧ D.ile (0 : Int) to ∧ D.ilt to
  (D.ilen c7) ∧ (c10 = true → c10 = true → c10 = true) ∧ (c10 = true → D.len (passB x) = D.len (passB x)) ∧ (c10 = true → c10 = true → c10 = true) ∧ (D.and true
  c10 = true → c10 = true) ∧ (c11 = true → c3 = D.nil Int ∧ True) ∧ (c11 = false → D.ile (0 : Int) c8 ∧ D.ilt c8 (D.ilen ls) ∧ D.len (passB x) = D.len (passB x)
  ∧ D.nle (D.nmul c14 (8)) (140737488355328) ∧ D.nle c14 (9223372036854775807) ∧ ∃ (y : List Int × Int), passTo c1 nx o to y ∧ (cs = cs ∧ ns = ns ∧ os = os ∧ fs
  = fs ∧ ls = ls ∧ ks = ks ∧ p1 = p1 ∧ p2 = p2 ∧ nx = nx ∧ dy = dy ∧ c12 = y.snd ∧ to = to ∧ c1 = c1 ∧ c2 = c2 ∧ c14 = D.len (passB y) ∧ o = o ∧ 1 = 1 ∧ D.app
  (passB x) c13 = passB y ∧ True) ∧ D.nlt (D.nat (D.sub (19 : Int) (D.ilen y.fst))) (D.nat (D.sub (19 : Int) (D.ilen x.fst))))) ∧ (c6 = false → D.len (passB x) =
  D.len (passB x) ∧ passB x = c3 ∧ True))) :
    evF { mkc KR14 with mb := fun t => t == 12 } (pasRA (cs, ns, os, fs, ls, ks) nx o to) 18 [net cs ns os fs ls ks, .agg [.dat I p1, .dat I p2, .dat M nx, .dat (.sl M) dy], .dat I o, .dat I to] [] ⟨passP (cs, ns, os, fs, ls, ks) nx o to, .dat R (passR (cs, ns, os, fs, ls, ks) nx o to), []⟩ := @of_eq _ _ (by kernel_rfl) hvc
def sameStA (a b : List Stop) : Ann := ⟨fun id s => match id with
  | 4 => some { α := Int, inv := fun k => stopTo a b k, st := fun k => put s [(5, .dat I k)], μ := fun k => D.nat (D.sub (D.ilen a) k) }
  | _ => none, fun _ _ => none, fun _ _ => none⟩
theorem vc_sameSt (a b : List Stop) (hvc :
 let c1 := D.ilen a;
 let c2 := D.ilen b;
 let c3 := D.ne c1 c2;
 let c4 := ((0 : Int), (0 : Int), (0 : Int), (0 : Int)); true = true ∧ (sFits a → (c3 = true → false = sameSt a b ∧ True) ∧ (c3 = false → (∃ x, stopTo a b x ∧ a
  = a ∧ b = b ∧ (0 : Int) = x ∧ a = a ∧ c1 = c1 ∧ b = b ∧ c2 = c2 ∧ c3 = c3 ∧ True) ∧ ∀ (x : Int),
 let c5 := D.get a (D.nat x) c4;
 let c6 := D.get b (D.nat x) c4;
 let c7 := c5.snd;
 let c8 := c6.snd;
 let c9 := c7.snd;
 let c10 := c8.snd;
 let c11 := D.not (D.and (D.eq c5.fst c6.fst) (D.and (D.eq c7.fst c8.fst) (D.and (D.eq c9.fst c10.fst) (D.and (D.eq c9.snd c10.snd) true))));
 let c12 := D.add x (1 : Int); stopTo a b x → (D.lt x c1 = true → D.ile (0 : Int) x ∧ D.ilt x c1 ∧ D.ile (0 : Int) x ∧ D.ilt x c2 ∧ (c11 = true → false = sameSt
  a b ∧ True) ∧ (c11 = false → inR IntKind.i64 c12 ∧ ∃ y, stopTo a b y ∧ (a = a ∧ b = b ∧ c12 = y ∧ a = a ∧ c1 = c1 ∧ b = b ∧ c2 = c2 ∧ c3 = c3 ∧ True) ∧ D.nlt
  (D.nat (D.sub c1 y)) (D.nat (D.sub c1 x)))) ∧ (D.lt x c1 = false → true = sameSt a b ∧ True)))) :
    evF (mkc KR14) (sameStA a b) 16 [.dat (.sl Stp) a, .dat (.sl Stp) b] [] ⟨sFits a, .dat .bool (sameSt a b), []⟩ := @of_eq _ _ (by kernel_rfl) hvc
theorem vc_post (a b c : Int) (cs : LC) (ns os : LB) (fs : List Off) (ls : List Line) (ks : List Cla) (hvc :
 let c1 := (cs, ns, os, fs, ls, ks);
 let c2 := D.ilen fs;
 let c3 := postF c1 a b c;
 let c4 := c3.snd;
 let c5 := c4.snd;
 let c6 := c5.snd; true = true ∧ (postP c1 a b c → inR IntKind.i64 a ∧ D.ine c2 (0 : Int) ∧ inR IntKind.i64 b ∧ D.ine c2 (0 : Int) ∧ inR IntKind.i64 c ∧ D.ine
  (100001 : Int) (0 : Int) ∧ 1 = 1 ∧ 0 = 0 ∧ 1 = 1 ∧ 0 = 0 ∧ ByteArray.mk (D.nil UInt8).toArray = c3.fst ∧ D.rem a c2 = c4.fst ∧ D.rem b c2 = c5.fst ∧ (0 : Int)
  = c6.fst ∧ D.rem c (100001 : Int) = c6.snd ∧ True)) :
    evF (mkc KR14) noAnn 12 [net cs ns os fs ls ks, .dat B8 a, .dat B8 b, .dat U32 c] [] ⟨postP (cs, ns, os, fs, ls, ks) a b c, .agg [.dat .str (postF (cs, ns, os, fs, ls, ks) a b c).1, .dat I (postF (cs, ns, os, fs, ls, ks) a b c).2.1, .dat I (postF (cs, ns, os, fs, ls, ks) a b c).2.2.1, .dat I (postF (cs, ns, os, fs, ls, ks) a b c).2.2.2.1, .dat I (postF (cs, ns, os, fs, ls, ks) a b c).2.2.2.2], []⟩ := @of_eq _ _ (by kernel_rfl) hvc
def KR15 : Kt := kOr 52 (dataK [.row N, .val M] (fun (_, nx, _) => fitsM nx) fun (n, nx, _) => .dat .bool (tabF n nx)) <|
  kOr 50 (dataK [.row N, .val M] (fun _ => True) fun (n, nx, _) => .dat .bool (smF n nx)) <|
  kOr 25 (dataK [.row N, .row N] (fun (n, _) => oFits n.2.2.2.1) fun (n, m, _) => .dat .bool (alikeO n.2.2.2.1 m.2.2.2.1)) <|
  kOr 18 (dataK [.row N, .row Pl, .val I, .val I] (fun (n, p, o, to, _) => passP n p.2.2.1 o to) fun (n, p, o, to, _) => .dat R (passR n p.2.2.1 o to)) <|
  kOr 16 (dataK [.val (.sl Stp), .val (.sl Stp)] (fun (a, _) => sFits a) fun (a, b, _) => .dat .bool (sameSt a b)) <|
  kOr 12 (dataK [.row N, .val B8, .val B8, .val U32] (fun (n, a, b, c, _) => postP n a b c) fun (n, a, b, c, _) => .agg [.dat .str (postF n a b c).1, .dat I (postF n a b c).2.1, .dat I (postF n a b c).2.2.1, .dat I (postF n a b c).2.2.2.1, .dat I (postF n a b c).2.2.2.2]) <|
  kOr 17 (dataK [.row N, .row Pl, .row N, .row Pl, .val I] (fun (n, p, m, q, _, _) => netFits n p.2.2.1 ∧ netFits m q.2.2.1) fun (n, p, m, q, t, _) => .dat I (safeE n m p.2.2.1 q.2.2.1 t)) <|
  kOr 13 (dataK [.row N, .row Pl, .row Po, .val I] (fun (n, p, _, _, _) => netFits n p.2.2.1) fun (n, p, x, t, _) => .tup [.dat I (placeS n p.2.2.1 x t).1, .dat I (placeS n p.2.2.1 x t).2.1, .dat I (placeE n p.2.2.1 x t)]) <|
  kOr 15 (dataK [.row N, .row Pl, .row N, .row Pl, .val I, .row Po] (fun (n, p, m, q, _, _, _) => netFits n p.2.2.1 ∧ netFits m q.2.2.1) fun (n, p, m, q, t, x, _) => .tup [.dat (.sl Stp) (carryL n m p.2.2.1 q.2.2.1 t x), .dat I (carryE n m p.2.2.1 q.2.2.1 t x)]) KR14
theorem vc_rsm20 (p1 p2 : Int) (nx : List (List Int)) (dy : List (List (List Int))) (cs : LC) (ns os : LB) (fs : List Off) (ls : List Line) (ks : List Cla) (hvc :
 let c1 := smF (cs, ns, os, fs, ls, ks) nx; true = true ∧ (True → True ∧ c1 = c1 ∧ True)) :
    evF (mkc KR15) noAnn 23 [net cs ns os fs ls ks, .agg [.dat I p1, .dat I p2, .dat M nx, .dat (.sl M) dy]] [] ⟨True, .dat .bool (smF (cs, ns, os, fs, ls, ks) nx), []⟩ := @of_eq _ _ (by kernel_rfl) hvc
theorem vc_rus20 (p1 p2 : Int) (nx : List (List Int)) (dy : List (List (List Int))) (cs : LC) (ns os : LB) (fs : List Off) (ls : List Line) (ks : List Cla) (hvc :
 let c1 := (cs, ns, os, fs, ls, ks);
 let c2 := soundF c1; true = true ∧ (fewC c1 = true ∧ fitsM nx → fewC c1 = true ∧ (c2 = true → c2 = true → c2 = true) ∧ (c2 = true → c2 = true → c2 = true) ∧ (c2
  = true → c2 = true → c2 = true) ∧ (c2 = true → fitsM nx) ∧ (D.and true c2 = true → c2 = true) ∧ D.cnd c2 (tabF c1 nx) false = usF c1 nx ∧ True)) :
    evF (mkc KR15) noAnn 24 [net cs ns os fs ls ks, .agg [.dat I p1, .dat I p2, .dat M nx, .dat (.sl M) dy]] [] ⟨fewC (cs, ns, os, fs, ls, ks) = true ∧ fitsM nx, .dat .bool (usF (cs, ns, os, fs, ls, ks) nx), []⟩ := @of_eq _ _ (by kernel_rfl) hvc
def KR16 : Kt := kOr 23 (dataK [.row N, .row Pl] (fun _ => True) fun (n, p, _) => .dat .bool (smF n p.2.2.1)) <|
  kOr 24 (dataK [.row N, .row Pl] (fun (n, p, _) => fewC n = true ∧ fitsM p.2.2.1) fun (n, p, _) => .dat .bool (usF n p.2.2.1)) KR15
theorem vc_lus (p1 p2 : Int) (nx : List (List Int)) (dy : List (List (List Int))) (cs : LC) (ns os : LB) (fs : List Off) (ls : List Line) (ks : List Cla) (q1 q2 : Int) (mx : List (List Int)) (dz : List (List (List Int))) (cs2 : List (Int × List Bool × List Int)) (ns2 os2 : List ByteArray) (gs : List Off) (hs : List Line) (ks2 : List Cla) (hvc :
 let c1 := (cs, ns, os, fs, ls, ks);
 let c2 := smF c1 nx;
 let c3 := (cs2, ns2, os2, gs, hs, ks2);
 let c4 := D.cnd c2 (smF c3 mx) false;
 let c5 := D.cnd c4 (usF c1 nx) false;
 let c6 := D.cnd c5 (usF c3 mx) false;
 let c7 := D.cnd c6 (alikeO fs gs) false; true = true ∧ (True → True ∧ (c2 = true → c2 = true → c2 = true) ∧ (c2 = true → c2 = true → c2 = true) ∧ (c2 = true →
  True) ∧ (D.and true c2 = true → c2 = true) ∧ (c4 = true → c4 = true → c4 = true) ∧ (c4 = true → c4 = true → c4 = true) ∧ (c4 = true → fewC c1 = true ∧ fitsM
  nx) ∧ (D.and true c4 = true → c4 = true) ∧ (c5 = true → c5 = true → c5 = true) ∧ (c5 = true → c5 = true → c5 = true) ∧ (c5 = true → fewC c3 = true ∧ fitsM mx)
  ∧ (D.and true c5 = true → c5 = true) ∧ (c6 = true → c6 = true → c6 = true) ∧ (c6 = true → c6 = true → c6 = true) ∧ (c6 = true → oFits fs) ∧ (D.and true c6 =
  true → c6 = true) ∧ (c7 = true → c7 = true → c7 = true) ∧ (c7 = true → c7 = true → c7 = true) ∧ (c7 = true → c7 = true → c7 = true) ∧ (D.and true c7 = true →
  c7 = true) ∧ D.cnd c7 (D.gt (D.ilen fs) (0 : Int)) false = luF c1 c3 nx mx ∧ True)) :
    evF (mkc KR16) noAnn 11 [net cs ns os fs ls ks, .agg [.dat I p1, .dat I p2, .dat M nx, .dat (.sl M) dy], net cs2 ns2 os2 gs hs ks2, .agg [.dat I q1, .dat I q2, .dat M mx, .dat (.sl M) dz]] [] ⟨True, .dat .bool (luF (cs, ns, os, fs, ls, ks) (cs2, ns2, os2, gs, hs, ks2) nx mx), []⟩ := @of_eq _ _ (by kernel_rfl) hvc
theorem t_within (i l : Int) : SoundC Tryz.prog G0 86 [.dat I i, .dat I l] [] ⟨True, .dat .bool (idxF i l), []⟩ := by
  refine sound_of_ev (c := mkc KR13) KSR13 KI0s hm (vc_within i l ⟨rfl, fun _ => ⟨fun h _ => h, fun h _ => h, fun h => by simpa [D.and] using h, ?_, trivial⟩⟩)
  unfold idxF
  simp only [D.cnd, D.ge, D.lt, ge_iff_le]
  by_cases h : 0 ≤ i <;> simp [h]
theorem KSR14 : KSound Tryz.prog G0 KR14 := kOr_ok (dataK_ok fun (i, l, _) => t_within i l) KSR13
theorem t_rlines (nx : List (List Int)) (cs : LC) (ns os : LB) (fs : List Off) (ls : List Line) (ks : List Cla) : SoundC Tryz.prog G0 52 [net cs ns os fs ls ks, .dat M nx] [] ⟨fitsM nx, .dat .bool (tabF (cs, ns, os, fs, ls, ks) nx), []⟩ := by
  refine sound_of_ev (c := mkc KR14) KSR14 KI0s hm (vc_rlines nx cs ns os fs ls ks ⟨rfl, fun hf => ?_⟩)
  simp only [cnd_or, cnd_and, D.and, D.or, D.not, Bool.true_and, Bool.and_true, Bool.false_or, Bool.or_false, eq_self, true_and, and_true, imp_self, implies_true, Bool.not_eq_true', Bool.or_eq_true, Bool.or_eq_false_iff, Bool.not_eq_false', Bool.and_eq_true, Bool.and_eq_false_imp, Bool.not_not, forall_const, exists_eq_right, exists_eq_right', exists_eq_left, exists_eq_left', Int.toNat_natCast, Nat.zero_add, Nat.mul_one, Int.ofNat_eq_natCast, D.nil, D.eq, D.ne, D.lt, D.gt, D.le, D.ge, D.beq, D.ilen, D.slen, D.ile, D.ilt, D.ine, D.nle, D.nlt, D.sub, D.add, D.mul, D.neg, D.nat, D.ofN, D.len, D.nadd, D.nmul, D.get, D.mn, D.mx, D.set, D.app, D.tail, D.part, D.seg, D.rep, D.at2, decide_eq_true_eq, decide_eq_false_iff_not, beq_iff_eq, bne_iff_ne, beq_eq_false_iff_ne, bne_eq_false_iff_eq, D.wrap, D.allNil]
  obtain ⟨hf1, hf2⟩ := id hf
  have hr : ∀ x : Int, 0 ≤ x → x < nx.length → (nx.getD x.toNat []).length ≤ 1000000 := fun x h0 h1 => hf2 _ (by
    rw [List.getD_eq_getElem?_getD, List.getElem?_eq_getElem (by omega), Option.getD_some]; exact List.getElem_mem _)
  have hct : ∀ x : Int, 0 ≤ x → ((x.toNat : Nat) : Int) = x := fun x h => by omega
  have bad : ∀ x : Int, rowsTo (cs, ns, os, fs, ls, ks) nx x → x < nx.length → rowOk (cs, ns, os, fs, ls, ks) x (nx.getD x.toNat []) = false → false = tabF (cs, ns, os, fs, ls, ks) nx := fun x hx hlt hb => by
    refine (Bool.eq_false_iff.2 fun ht => ?_).symm
    have := (tab_row hx.2.2.1).1 ht x.toNat (by have := hx.1; omega)
    rw [hct x hx.1, hb] at this; cases this
  refine ⟨fun hne => ?_, fun he => ⟨⟨Int.le_refl _, by omega, he, fun i h => by omega⟩, fun x hx => ⟨fun hlt => ⟨hx.1, hlt, fun hr' => ?_, fun hr' => ⟨⟨Int.le_refl _, by omega, hr'.trans he, fun i h => by omega⟩, fun y hy => ⟨fun hlty => ⟨hx.1, hlt, hy.1, by omega, fun h => (idxF_iff.1 h.2).1, fun h => (idxF_iff.1 h.2).2, fun hc => ?_, fun hc => ?_⟩, fun hgey => ?_⟩⟩⟩, fun hge => ?_⟩⟩⟩
  · unfold tabF; rw [decide_eq_false hne]; rfl
  · refine bad x hx hlt ?_
    unfold rowOk
    rw [decide_eq_false (by show ¬ ((nx.getD x.toNat []).length : Int) = fs.length; omega)]; rfl
  · refine bad x hx hlt ?_
    refine Bool.eq_false_iff.2 fun ht => ?_
    have h2 := (row_cell (n := (cs, ns, os, fs, ls, ks)) (hr'.trans he)).1 ht y.toNat (by have := hy.1; omega)
    unfold cellOk at h2
    simp only [Bool.or_eq_true, Bool.and_eq_true, decide_eq_true_eq] at h2
    obtain ⟨h3, h4⟩ := hc
    rcases h2 with h2 | ⟨h2, h5⟩
    · exact h3 h2
    · rcases h4 with h4 | h4
      · rw [h4] at h2; cases h2
      · exact h4 h5
  · have h1 := hr x hx.1 hlt
    refine ⟨in_big (by have := hy.1; omega), y + 1, ⟨by have := hy.1; omega, by omega, hr'.trans he, fun i hi => ?_⟩, rfl, by have := hy.1; omega⟩
    by_cases h : (i : Int) < y
    · exact hy.2.2.2 i h
    · have : i = y.toNat := by have := hy.1; omega
      rw [this]
      unfold cellOk
      simp only [Bool.or_eq_true, Bool.and_eq_true, decide_eq_true_eq]
      by_cases h1 : (nx.getD x.toNat []).getD y.toNat 0 = -1
      · exact .inl h1
      · exact .inr (hc h1)
  · refine ⟨in_big (by have := hx.1; omega), x + 1, ⟨by have := hx.1; omega, by omega, he, fun i hi => ?_⟩, rfl, by have := hx.1; omega⟩
    by_cases h : (i : Int) < x
    · exact hx.2.2.2 i h
    · have : i = x.toNat := by have := hx.1; omega
      rw [this, hct x hx.1]
      exact (row_cell (n := (cs, ns, os, fs, ls, ks)) (hr'.trans he)).2 fun j hj => hy.2.2.2 j (by omega)
  · exact ((tab_row he).2 fun i hi => hx.2.2.2 i (by omega)).symm
theorem t_rsm17 (nx : List (List Int)) (cs : LC) (ns os : LB) (fs : List Off) (ls : List Line) (ks : List Cla) : SoundC Tryz.prog G0 50 [net cs ns os fs ls ks, .dat M nx] [] ⟨True, .dat .bool (smF (cs, ns, os, fs, ls, ks) nx), []⟩ := by
  refine sound_of_ev (c := mkc KR14) KSR14 KI0s hm (vc_rsm17 nx cs ns os fs ls ks ⟨rfl, fun _ => ?_⟩)
  simp only [cnd_or, cnd_and, D.and, D.or, D.not, Bool.true_and, Bool.and_true, Bool.false_or, Bool.or_false, eq_self, true_and, and_true, imp_self, implies_true, Bool.not_eq_true', Bool.or_eq_true, Bool.or_eq_false_iff, Bool.not_eq_false', Bool.and_eq_true, Bool.and_eq_false_imp, Bool.not_not, forall_const, exists_eq_right, exists_eq_right', exists_eq_left, exists_eq_left', Int.toNat_natCast, Nat.zero_add, Nat.mul_one, Int.ofNat_eq_natCast, D.nil, D.eq, D.ne, D.lt, D.gt, D.le, D.ge, D.beq, D.ilen, D.slen, D.ile, D.ilt, D.ine, D.nle, D.nlt, D.sub, D.add, D.mul, D.neg, D.nat, D.ofN, D.len, D.nadd, D.nmul, D.get, D.mn, D.mx, D.set, D.app, D.tail, D.part, D.seg, D.rep, D.at2, decide_eq_true_eq, decide_eq_false_iff_not, beq_iff_eq, bne_iff_ne, beq_eq_false_iff_ne, bne_eq_false_iff_eq, D.wrap, D.allNil]
  have e : smF (cs, ns, os, fs, ls, ks) nx = ((fewF (cs, ns, os, fs, ls, ks) && decide ((fs.length : Int) ≤ 6)) && (decide ((nx.length : Int) ≤ 10) && nx.all fun r => decide ((r.length : Int) ≤ 10))) := rfl
  refine ⟨fun h => ?_, fun ⟨⟨h1, h2⟩, h3⟩ => ⟨⟨Int.le_refl _, Int.natCast_nonneg _, by omega, fun i h => by omega⟩, fun x hx => ⟨fun hlt => ⟨hx.1, hlt, fun hb => ?_, fun hb => ⟨in_big (by have := hx.1; omega), x + 1, ⟨by have := hx.1; omega, by omega, hx.2.2.1, fun i hi => ?_⟩, rfl, by have := hx.1; omega⟩⟩, fun hge => ?_⟩⟩⟩
  · rw [e]
    rcases h with (h | h) | h
    · rw [h]; rfl
    · rw [decide_eq_false (by omega), Bool.and_false]; rfl
    · rw [decide_eq_false (p := (nx.length : Int) ≤ 10) (by omega), Bool.false_and, Bool.and_false]
  · rw [e]
    have : (nx.all fun r => decide ((r.length : Int) ≤ 10)) = false := by
      refine List.all_eq_false.2 ⟨nx.getD x.toNat [], ?_, by simp only [decide_eq_true_eq]; omega⟩
      rw [List.getD_eq_getElem?_getD, List.getElem?_eq_getElem (by have := hx.1; omega), Option.getD_some]; exact List.getElem_mem _
    rw [this, Bool.and_false, Bool.and_false]
  · by_cases h : (i : Int) < x
    · exact hx.2.2.2 i h
    · have : i = x.toNat := by have := hx.1; omega
      rw [this]; omega
  · rw [e, h1, decide_eq_true (by omega), decide_eq_true (p := (nx.length : Int) ≤ 10) (by omega)]
    refine (List.all_eq_true.2 fun r hr => ?_).symm
    obtain ⟨i, hi, rfl⟩ := List.mem_iff_getElem.1 hr
    have := hx.2.2.2 i (by omega)
    rw [List.getD_eq_getElem?_getD, List.getElem?_eq_getElem hi, Option.getD_some] at this
    simp only [decide_eq_true_eq]; omega
theorem t_rsoff (cs : LC) (ns os : LB) (fs : List Off) (ls : List Line) (ks : List Cla) (cs2 : List (Int × List Bool × List Int)) (ns2 os2 : List ByteArray) (gs : List Off) (hs : List Line) (ks2 : List Cla) : SoundC Tryz.prog G0 25 [net cs ns os fs ls ks, net cs2 ns2 os2 gs hs ks2] [] ⟨oFits fs, .dat .bool (alikeO fs gs), []⟩ := by
  refine sound_of_ev (c := mkc KR14) KSR14 KI0s hm (vc_rsoff cs ns os fs ls ks cs2 ns2 os2 gs hs ks2 ⟨rfl, fun hp => ?_⟩)
  simp only [cnd_or, cnd_and, D.and, D.or, D.not, Bool.true_and, Bool.and_true, Bool.false_or, Bool.or_false, eq_self, true_and, and_true, imp_self, implies_true, Bool.not_eq_true', Bool.or_eq_true, Bool.or_eq_false_iff, Bool.not_eq_false', Bool.and_eq_true, Bool.and_eq_false_imp, Bool.not_not, forall_const, exists_eq_right, exists_eq_right', exists_eq_left, exists_eq_left', Int.toNat_natCast, Nat.zero_add, Nat.mul_one, Int.ofNat_eq_natCast, D.nil, D.eq, D.ne, D.lt, D.gt, D.le, D.ge, D.beq, D.ilen, D.slen, D.ile, D.ilt, D.ine, D.nle, D.nlt, D.sub, D.add, D.mul, D.neg, D.nat, D.ofN, D.len, D.nadd, D.nmul, D.get, D.mn, D.mx, D.set, D.app, D.tail, D.part, D.seg, D.rep, D.at2, decide_eq_true_eq, decide_eq_false_iff_not, beq_iff_eq, bne_iff_ne, beq_eq_false_iff_ne, bne_eq_false_iff_eq, D.wrap, D.allNil]
  have hp : fs.length ≤ 1000000 := hp
  refine ⟨fun hne => ?_, fun he => ⟨⟨Int.le_refl _, by omega, he, fun i h => by omega⟩, fun x hx => ⟨fun hlt => ⟨hx.1, hlt, hx.1, by omega, fun hb => ?_, fun hb => ⟨in_big (by have := hx.1; omega), x + 1, ⟨by have := hx.1; omega, by omega, he, fun i hi => ?_⟩, rfl, by have := hx.1; omega⟩⟩, fun hge => ?_⟩⟩⟩
  · unfold alikeO; rw [decide_eq_false hne]; rfl
  · refine (Bool.eq_false_iff.2 fun ht => ?_).symm
    unfold alikeO at ht
    simp only [Bool.and_eq_true, List.all_eq_true, List.mem_range] at ht
    have := ht.2 x.toNat (by have := hx.1; omega)
    unfold nameEq at this
    exact hb (by simpa using this)
  · by_cases e : (i : Int) < x
    · exact hx.2.2.2 i e
    · have : i = x.toNat := by have := hx.1; omega
      rw [this]; unfold nameEq; rw [hb]; exact beq_self_eq_true _
  · unfold alikeO
    rw [decide_eq_true he, Bool.true_and]
    exact (List.all_eq_true.2 fun i hi => hx.2.2.2 i (by have := List.mem_range.1 hi; omega)).symm
theorem t_rpass (o to : Int) (p1 p2 : Int) (nx : List (List Int)) (dy : List (List (List Int))) (cs : LC) (ns os : LB) (fs : List Off) (ls : List Line) (ks : List Cla) : SoundC Tryz.prog G0 18 [net cs ns os fs ls ks, .agg [.dat I p1, .dat I p2, .dat M nx, .dat (.sl M) dy], .dat I o, .dat I to] [] ⟨passP (cs, ns, os, fs, ls, ks) nx o to, .dat R (passR (cs, ns, os, fs, ls, ks) nx o to), []⟩ := by
  refine sound_of_ev (c := { mkc KR14 with mb := fun t => t == 12 }) KSR14 KI0s hm (vc_rpass o to p1 p2 nx dy cs ns os fs ls ks ⟨rfl, fun hp => ?_⟩)
  simp only [cnd_or, cnd_and, D.and, D.or, D.not, Bool.true_and, Bool.and_true, Bool.false_or, Bool.or_false, eq_self, true_and, and_true, imp_self, implies_true, Bool.not_eq_true', Bool.or_eq_true, Bool.or_eq_false_iff, Bool.not_eq_false', Bool.and_eq_true, Bool.and_eq_false_imp, Bool.not_not, forall_const, exists_eq_right, exists_eq_right', exists_eq_left, exists_eq_left', Int.toNat_natCast, Nat.zero_add, Nat.mul_one, Int.ofNat_eq_natCast, D.nil, D.eq, D.ne, D.lt, D.gt, D.le, D.ge, D.beq, D.ilen, D.slen, D.ile, D.ilt, D.ine, D.nle, D.nlt, D.sub, D.add, D.mul, D.neg, D.nat, D.ofN, D.len, D.nadd, D.nmul, D.get, D.mn, D.mx, D.set, D.app, D.tail, D.part, D.seg, D.rep, D.at2, decide_eq_true_eq, decide_eq_false_iff_not, beq_iff_eq, bne_iff_ne, beq_eq_false_iff_ne, bne_eq_false_iff_eq, D.wrap, D.allNil]
  obtain ⟨hs, ht, o0, o1, d0, d1⟩ := id hp
  have d1 : to < fs.length := d1
  have hno := sound_noF cs ns os fs ls ks hs
  refine ⟨⟨([], o), ⟨hp, by simp, rfl, fun y hy => by cases hy⟩, rfl, rfl, rfl⟩, ?_⟩
  rintro ⟨d, x⟩ ⟨⟨_, _, x0, x1, _, _⟩, hk, he, hd⟩
  simp only at x0 x1 hk he hd ⊢
  have x1 : x < fs.length := x1
  obtain ⟨c1, c2, c3⟩ := tab_cell cs ns os fs ls ks ht x0 x1 d0 d1
  have ec : (nx.getD x.toNat []).getD to.toNat 0 = nxt nx x to := rfl
  have el : (passB (d, x)).length = d.length + 1 := by simp [passB]
  rw [ec, el]
  have none_ : x ≠ to → passL (cs, ns, os, fs, ls, ks) nx o to = d ++ [x] → passR (cs, ns, os, fs, ls, ks) nx o to = [] := fun hne hl => by
    have : leadsF (cs, ns, os, fs, ls, ks) nx o to = false := by
      unfold leadsF
      rw [hl]
      refine List.any_eq_false.2 fun y hy => ?_
      rcases List.mem_append.1 hy with hy | hy
      · simpa using hd y hy
      · rw [List.mem_singleton] at hy
        subst hy; simpa using hne
    unfold passR; rw [this]; rfl
  refine ⟨fun hne => ⟨x0, by rw [c1]; exact x1, d0, by rw [c2]; exact d1, fun hb => ?_, fun hb => ?_⟩, fun e => ?_⟩
  · refine none_ hne ?_
    by_cases h : nxt nx x to = -1
    · rw [he]
      congr 1
      cases 19 - d.length with
      | zero => rfl
      | succ k => rw [passN, if_pos (.inr h)]
    · obtain ⟨⟨l0, _⟩, _⟩ := c3 h
      have : d.length = 19 := by omega
      rw [he, this]; rfl
  · have hn1 : nxt nx x to ≠ -1 := by omega
    obtain ⟨⟨l0, l1⟩, _⟩ := c3 hn1
    obtain ⟨g1, g2, g3, g4, _⟩ := lin_ok cs ns os fs ls ks (l := nxt nx x to) ⟨hno, l0, l1⟩
    have eo : (ls.getD (nxt nx x to).toNat (⟨#[]⟩, 0, 0, 0, 0, 0)).2.2.1 = lnTo (cs, ns, os, fs, ls, ks) (nxt nx x to) := rfl
    rw [eo, List.length_singleton]
    rw [show 19 - d.length = (19 - (d.length + 1)) + 1 by omega, passN, if_neg (fun h => h.elim hne hn1)] at he
    refine ⟨l0, l1, by omega, by omega, (d ++ [x], lnTo (cs, ns, os, fs, ls, ks) (nxt nx x to)), ⟨⟨hs, ht, g3, g4, d0, d1⟩, by simp; omega, by rw [he]; simp, fun y hy => ?_⟩, ⟨rfl, by simp [passB], by simp [passB]⟩, by simp; omega⟩
    rcases List.mem_append.1 hy with hy | hy
    · exact hd y hy
    · rw [List.mem_singleton] at hy
      subst hy; exact hne
  · have hl : passL (cs, ns, os, fs, ls, ks) nx o to = d ++ [x] := by
      rw [he]
      congr 1
      cases 19 - d.length with
      | zero => rfl
      | succ k => rw [passN, if_pos (.inl e)]
    have : leadsF (cs, ns, os, fs, ls, ks) nx o to = true := by
      unfold leadsF
      rw [hl]
      exact List.any_eq_true.2 ⟨x, by simp, decide_eq_true e⟩
    unfold passR passB; rw [if_pos this, hl]
theorem t_sameSt (a b : List Stop) : SoundC Tryz.prog G0 16 [.dat (.sl Stp) a, .dat (.sl Stp) b] [] ⟨sFits a, .dat .bool (sameSt a b), []⟩ := by
  refine sound_of_ev (c := mkc KR14) KSR14 KI0s hm (vc_sameSt a b ⟨rfl, fun hp => ?_⟩)
  simp only [cnd_or, cnd_and, D.and, D.or, D.not, Bool.true_and, Bool.and_true, Bool.false_or, Bool.or_false, eq_self, true_and, and_true, imp_self, implies_true, Bool.not_eq_true', Bool.or_eq_true, Bool.or_eq_false_iff, Bool.not_eq_false', Bool.and_eq_true, Bool.and_eq_false_imp, Bool.not_not, forall_const, exists_eq_right, exists_eq_right', exists_eq_left, exists_eq_left', Int.toNat_natCast, Nat.zero_add, Nat.mul_one, Int.ofNat_eq_natCast, D.nil, D.eq, D.ne, D.lt, D.gt, D.le, D.ge, D.beq, D.ilen, D.slen, D.ile, D.ilt, D.ine, D.nle, D.nlt, D.sub, D.add, D.mul, D.neg, D.nat, D.ofN, D.len, D.nadd, D.nmul, D.get, D.mn, D.mx, D.set, D.app, D.tail, D.part, D.seg, D.rep, D.at2, decide_eq_true_eq, decide_eq_false_iff_not, beq_iff_eq, bne_iff_ne, beq_eq_false_iff_ne, bne_eq_false_iff_eq, D.wrap, D.allNil]
  have hp : a.length ≤ 1000000 := hp
  refine ⟨fun hne => ?_, fun he => ⟨⟨Int.le_refl _, by omega, by omega, by simp⟩, fun x hx => ⟨fun hlt => ⟨hx.1, hlt, hx.1, by omega, fun hb => ?_, fun hb => ⟨in_big (by have := hx.1; omega), x + 1, ⟨by have := hx.1; omega, by omega, by omega, ?_⟩, rfl, by have := hx.1; omega⟩⟩, fun hge => ?_⟩⟩⟩
  · have : a ≠ b := fun e => hne (by rw [e])
    simp [sameSt, this]
  · have : a ≠ b := by
      rintro rfl; exact hb rfl rfl rfl rfl
    simp [sameSt, this]
  · have h0 := hx.1
    have ea : a[x.toNat]? = some (a.getD x.toNat (0, 0, 0, 0)) := by rw [List.getD_eq_getElem?_getD, List.getElem?_eq_getElem (by omega), Option.getD_some]
    have eb : b[x.toNat]? = some (b.getD x.toNat (0, 0, 0, 0)) := by rw [List.getD_eq_getElem?_getD, List.getElem?_eq_getElem (by omega), Option.getD_some]
    have eab : a.getD x.toNat (0, 0, 0, 0) = b.getD x.toNat (0, 0, 0, 0) := Prod.ext hb.1 (Prod.ext hb.2.1 (Prod.ext hb.2.2.1 hb.2.2.2))
    rw [show (x + 1).toNat = x.toNat + 1 by omega, List.take_add_one, List.take_add_one, ea, eb, eab, hx.2.2.2]
  · have := hx.2.2.2
    rw [List.take_of_length_le (by omega), List.take_of_length_le (by omega)] at this
    simp [sameSt, this]
theorem t_post (a b c : Int) (cs : LC) (ns os : LB) (fs : List Off) (ls : List Line) (ks : List Cla) : SoundC Tryz.prog G0 12 [net cs ns os fs ls ks, .dat B8 a, .dat B8 b, .dat U32 c] [] ⟨postP (cs, ns, os, fs, ls, ks) a b c, .agg [.dat .str (postF (cs, ns, os, fs, ls, ks) a b c).1, .dat I (postF (cs, ns, os, fs, ls, ks) a b c).2.1, .dat I (postF (cs, ns, os, fs, ls, ks) a b c).2.2.1, .dat I (postF (cs, ns, os, fs, ls, ks) a b c).2.2.2.1, .dat I (postF (cs, ns, os, fs, ls, ks) a b c).2.2.2.2], []⟩ := by
  refine sound_of_ev (c := mkc KR14) KSR14 KI0s hm (vc_post a b c cs ns os fs ls ks ⟨rfl, fun hp => ?_⟩)
  simp only [cnd_or, cnd_and, D.and, D.or, D.not, Bool.true_and, Bool.and_true, Bool.false_or, Bool.or_false, eq_self, true_and, and_true, imp_self, implies_true, Bool.not_eq_true', Bool.or_eq_true, Bool.or_eq_false_iff, Bool.not_eq_false', Bool.and_eq_true, Bool.and_eq_false_imp, Bool.not_not, forall_const, exists_eq_right, exists_eq_right', exists_eq_left, exists_eq_left', Int.toNat_natCast, Nat.zero_add, Nat.mul_one, Int.ofNat_eq_natCast, D.nil, D.eq, D.ne, D.lt, D.gt, D.le, D.ge, D.beq, D.ilen, D.slen, D.ile, D.ilt, D.ine, D.nle, D.nlt, D.sub, D.add, D.mul, D.neg, D.nat, D.ofN, D.len, D.nadd, D.nmul, D.get, D.mn, D.mx, D.set, D.app, D.tail, D.part, D.seg, D.rep, D.at2, decide_eq_true_eq, decide_eq_false_iff_not, beq_iff_eq, bne_iff_ne, beq_eq_false_iff_ne, bne_eq_false_iff_eq, D.wrap, D.allNil]
  obtain ⟨h0, a0, a1, b0, b1, c0, c1⟩ := hp
  have h0 : 0 < fs.length := h0
  exact ⟨in_big (by omega), by omega, in_big (by omega), by omega, in_big (by omega), by omega, rfl, rfl, rfl, rfl, rfl⟩
theorem KSR15 : KSound Tryz.prog G0 KR15 := kOr_ok (dataK_ok fun ((cs, ns, os, fs, ls, ks), nx, _) => t_rlines nx cs ns os fs ls ks) <| kOr_ok (dataK_ok fun ((cs, ns, os, fs, ls, ks), nx, _) => t_rsm17 nx cs ns os fs ls ks) <| kOr_ok (dataK_ok fun ((cs, ns, os, fs, ls, ks), (cs2, ns2, os2, gs, hs, ks2), _) => t_rsoff cs ns os fs ls ks cs2 ns2 os2 gs hs ks2) <|
  kOr_ok (dataK_ok fun ((cs, ns, os, fs, ls, ks), (p1, p2, nx, dy), o, to, _) => t_rpass o to p1 p2 nx dy cs ns os fs ls ks) <| kOr_ok (dataK_ok fun (a, b, _) => t_sameSt a b) <| kOr_ok (dataK_ok fun ((cs, ns, os, fs, ls, ks), a, b, c, _) => t_post a b c cs ns os fs ls ks) <|
  kOr_ok (dataK_ok fun ((cs, ns, os, fs, ls, ks), (p1, p2, nx, dy), (cs2, ns2, os2, gs, hs, ks2), (q1, q2, mx, dz), t, _) => t_tSafe t p1 p2 nx dy cs ns os fs ls ks q1 q2 mx dz cs2 ns2 os2 gs hs ks2) <| kOr_ok (dataK_ok fun ((cs, ns, os, fs, ls, ks), (p1, p2, nx, dy), (x1, x2, x3, x4, x5), t, _) => t_tPlace t x1 x2 x3 x4 x5 p1 p2 nx dy cs ns os fs ls ks) <|
  kOr_ok (dataK_ok fun ((cs, ns, os, fs, ls, ks), (p1, p2, nx, dy), (cs2, ns2, os2, gs, hs, ks2), (q1, q2, mx, dz), t, (x1, x2, x3, x4, x5), _) => t_tCarry t x1 x2 x3 x4 x5 p1 p2 nx dy cs ns os fs ls ks q1 q2 mx dz cs2 ns2 os2 gs hs ks2) KSR14
theorem t_rsm20 (p1 p2 : Int) (nx : List (List Int)) (dy : List (List (List Int))) (cs : LC) (ns os : LB) (fs : List Off) (ls : List Line) (ks : List Cla) : SoundC Tryz.prog G0 23 [net cs ns os fs ls ks, .agg [.dat I p1, .dat I p2, .dat M nx, .dat (.sl M) dy]] [] ⟨True, .dat .bool (smF (cs, ns, os, fs, ls, ks) nx), []⟩ :=
  sound_of_ev (c := mkc KR15) KSR15 KI0s hm (vc_rsm20 p1 p2 nx dy cs ns os fs ls ks ⟨rfl, fun _ => ⟨trivial, rfl, trivial⟩⟩)
theorem t_rus20 (p1 p2 : Int) (nx : List (List Int)) (dy : List (List (List Int))) (cs : LC) (ns os : LB) (fs : List Off) (ls : List Line) (ks : List Cla) : SoundC Tryz.prog G0 24 [net cs ns os fs ls ks, .agg [.dat I p1, .dat I p2, .dat M nx, .dat (.sl M) dy]] [] ⟨fewC (cs, ns, os, fs, ls, ks) = true ∧ fitsM nx, .dat .bool (usF (cs, ns, os, fs, ls, ks) nx), []⟩ := by
  refine sound_of_ev (c := mkc KR15) KSR15 KI0s hm (vc_rus20 p1 p2 nx dy cs ns os fs ls ks ⟨rfl, fun hp => ?_⟩)
  simp only [cnd_or, cnd_and, D.and, D.or, D.not, Bool.true_and, Bool.and_true, Bool.false_or, Bool.or_false, eq_self, true_and, and_true, imp_self, implies_true, Bool.not_eq_true', Bool.or_eq_true, Bool.or_eq_false_iff, Bool.not_eq_false', Bool.and_eq_true, Bool.and_eq_false_imp, Bool.not_not, forall_const, exists_eq_right, exists_eq_right', exists_eq_left, exists_eq_left', Int.toNat_natCast, Nat.zero_add, Nat.mul_one, Int.ofNat_eq_natCast, D.nil, D.eq, D.ne, D.lt, D.gt, D.le, D.ge, D.beq, D.ilen, D.slen, D.ile, D.ilt, D.ine, D.nle, D.nlt, D.sub, D.add, D.mul, D.neg, D.nat, D.ofN, D.len, D.nadd, D.nmul, D.get, D.mn, D.mx, D.set, D.app, D.tail, D.part, D.seg, D.rep, D.at2, decide_eq_true_eq, decide_eq_false_iff_not, beq_iff_eq, bne_iff_ne, beq_eq_false_iff_ne, bne_eq_false_iff_eq, D.wrap, D.allNil]
  exact ⟨hp.1, fun _ => hp.2, rfl⟩
theorem KSR16 : KSound Tryz.prog G0 KR16 := kOr_ok (dataK_ok fun ((cs, ns, os, fs, ls, ks), (p1, p2, nx, dy), _) => t_rsm20 p1 p2 nx dy cs ns os fs ls ks) <| kOr_ok (dataK_ok fun ((cs, ns, os, fs, ls, ks), (p1, p2, nx, dy), _) => t_rus20 p1 p2 nx dy cs ns os fs ls ks) KSR15
theorem t_lus (p1 p2 : Int) (nx : List (List Int)) (dy : List (List (List Int))) (cs : LC) (ns os : LB) (fs : List Off) (ls : List Line) (ks : List Cla) (q1 q2 : Int) (mx : List (List Int)) (dz : List (List (List Int))) (cs2 : List (Int × List Bool × List Int)) (ns2 os2 : List ByteArray) (gs : List Off) (hs : List Line) (ks2 : List Cla) : SoundC Tryz.prog G0 11 [net cs ns os fs ls ks, .agg [.dat I p1, .dat I p2, .dat M nx, .dat (.sl M) dy], net cs2 ns2 os2 gs hs ks2, .agg [.dat I q1, .dat I q2, .dat M mx, .dat (.sl M) dz]] [] ⟨True, .dat .bool (luF (cs, ns, os, fs, ls, ks) (cs2, ns2, os2, gs, hs, ks2) nx mx), []⟩ := by
  refine sound_of_ev (c := mkc KR16) KSR16 KI0s hm (vc_lus p1 p2 nx dy cs ns os fs ls ks q1 q2 mx dz cs2 ns2 os2 gs hs ks2 ⟨rfl, fun _ => ?_⟩)
  simp only [cnd_or, cnd_and, D.and, D.or, D.not, Bool.true_and, Bool.and_true, Bool.false_or, Bool.or_false, eq_self, true_and, and_true, imp_self, implies_true, Bool.not_eq_true', Bool.or_eq_true, Bool.or_eq_false_iff, Bool.not_eq_false', Bool.and_eq_true, Bool.and_eq_false_imp, Bool.not_not, forall_const, exists_eq_right, exists_eq_right', exists_eq_left, exists_eq_left', Int.toNat_natCast, Nat.zero_add, Nat.mul_one, Int.ofNat_eq_natCast, D.nil, D.eq, D.ne, D.lt, D.gt, D.le, D.ge, D.beq, D.ilen, D.slen, D.ile, D.ilt, D.ine, D.nle, D.nlt, D.sub, D.add, D.mul, D.neg, D.nat, D.ofN, D.len, D.nadd, D.nmul, D.get, D.mn, D.mx, D.set, D.app, D.tail, D.part, D.seg, D.rep, D.at2, decide_eq_true_eq, decide_eq_false_iff_not, beq_iff_eq, bne_iff_ne, beq_eq_false_iff_ne, bne_eq_false_iff_eq, D.wrap, D.allNil]
  have key : ∀ (n : Net) (nx : List (List Int)), smF n nx = true → fewC n = true ∧ fitsM nx ∧ n.2.2.2.1.length ≤ 6 := fun n nx h => by
    unfold smF at h
    simp only [Bool.and_eq_true, decide_eq_true_eq, List.all_eq_true] at h
    obtain ⟨⟨h1, h2⟩, h3, h4⟩ := h
    exact ⟨few_fewC h1, ⟨by omega, fun r hr => by have := h4 r hr; omega⟩, by omega⟩
  exact ⟨fun h => ⟨(key _ _ h.1).1, (key _ _ h.1).2.1⟩, fun h => ⟨(key _ _ h.1.2).1, (key _ _ h.1.2).2.1⟩, fun h => by have := (key _ _ h.1.1.1).2.2; show _ ≤ 1000000; exact Nat.le_trans this (by omega), rfl⟩
end Go.Eng.Sv
