/- PeTr12t -/
import Derived.Test.YtgphkkpblecfgabGreatDoorY22
import Derived.Test.YtgphkkpblecfgabGreatDoorTr11t
set_option linter.unusedSimpArgs false
set_option linter.unusedVariables false
set_option maxRecDepth 100000
noncomputable section
namespace Go.Eng.Sv
open Go.Proofs
def u2P (a b : Int) : Prop := 0 ≤ a ∧ a ≤ 255 ∧ 0 ≤ b ∧ b ≤ 255
def w1P (c : Int) : Prop := 0 ≤ c ∧ c ≤ 4294967295
def unTo (n m : Net) (nx mx : List (List Int)) (o : Int) (b : Bool) : Prop := 0 ≤ o ∧ o ≤ n.2.2.2.1.length ∧ (b = false ↔ ∀ x d : Int, 0 ≤ x → x < o → 0 ≤ d → d < n.2.2.2.1.length → pairOk n m nx mx x d = true)
def unTo2 (n m : Net) (nx mx : List (List Int)) (o : Int) (b0 : Bool) (d : Int) (b : Bool) : Prop := 0 ≤ d ∧ d ≤ n.2.2.2.1.length ∧ (b = false ↔ b0 = false ∧ ∀ y : Int, 0 ≤ y → y < d → pairOk n m nx mx o y = true)
def unTo3 (m : Net) (mx : List (List Int)) (w : List Int) (d : Int) (b0 : Bool) (i : Int) (b : Bool) : Prop := 0 ≤ i ∧ i ≤ w.length ∧ (b = false ↔ b0 = false ∧ ∀ j : Nat, (j : Int) < i → leadsF m mx (w.getD j 0) d = true)
def KR19 : Kt := kOr 10 (dataK [] (fun _ => True) fun _ => .dat .bool true) KR18
theorem vc_lsafe (a b c d : Int) (p1 p2 : Int) (nx : List (List Int)) (dy : List (List (List Int))) (cs : LC) (ns os : LB) (fs : List Off) (ls : List Line) (ks : List Cla) (q1 q2 : Int) (mx : List (List Int)) (dz : List (List (List Int))) (cs2 : List (Int × List Bool × List Int)) (ns2 os2 : List ByteArray) (gs : List Off) (hs : List Line) (ks2 : List Cla) (hvc :
 let c1 := (cs, ns, os, fs, ls, ks);
 let c2 := (cs2, ns2, os2, gs, hs, ks2);
 let c3 := D.not (luF c1 c2 nx mx);
 let c4 := D.ne (safeE c1 c2 nx mx (0 : Int)) (0 : Int);
 let c5 := postF c1 a b c;
 let c6 := c5.snd;
 let c7 := c6.fst;
 let c8 := c6.snd;
 let c9 := c8.fst;
 let c10 := c8.snd;
 let c11 := c10.snd;
 let c12 := D.cnd c4 true (D.ne (WayE c1 nx c7 c9 c11) (0 : Int)); true = true ∧ (u2P a b ∧ w1P c ∧ w1P d → True ∧ True ∧ (c3 = true → true = true ∧ True) ∧ (c3
  = false → postP c1 a b c ∧ 1 = 1 ∧ 0 = 0 ∧ 1 = 1 ∧ 1 = 1 ∧ 0 = 0 ∧ 1 = 1 ∧ 1 = 1 ∧ 0 = 0 ∧ 1 = 1 ∧ 1 = 1 ∧ 0 = 0 ∧ fitsM nx ∧ inR IntKind.i64 d ∧ D.ine (100001
  : Int) (0 : Int) ∧ 1 = 1 ∧ 0 = 0 ∧ (netFits c1 nx ∧ netFits c2 mx) ∧ (true = true → true = true → true = true) ∧ (true = true → true = true → true = true) ∧
  (true = true → true = true → true = true) ∧ (true = true → true = true → true = true) ∧ (true = true → netFits c1 nx ∧ netFits c2 mx) ∧ (true = true → true =
  true → true = true) ∧ (true = true → true = true → true = true) ∧ (D.and true (D.not c4) = true → D.and true (D.not c4) = true → D.and true (D.not c4) = true)
  ∧ (true = true → true = true → true = true) ∧ (true = true → D.and true (D.not c4) = true → D.and true (D.not c4) = true) ∧ (true = true → true = true → true =
  true) ∧ (D.and true (D.not c12) = true → D.and true (D.not c12) = true → D.and true (D.not c12) = true) ∧ (true = true → true = true → true = true) ∧ (true =
  true → D.and true (D.not c12) = true → D.and true (D.not c12) = true) ∧ (D.and true true = true → true = true) ∧ D.cnd true (D.cnd c12 true (D.ne (carryE c1 c2
  nx mx (D.rem d (100001 : Int)) (c5.fst, c7, c9, c10.fst, c11)) (170 : Int))) false = true ∧ True))) :
    evF (mkc KR19) noAnn 6 [net cs ns os fs ls ks, .agg [.dat I p1, .dat I p2, .dat M nx, .dat (.sl M) dy], net cs2 ns2 os2 gs hs ks2, .agg [.dat I q1, .dat I q2, .dat M mx, .dat (.sl M) dz], .dat B8 a, .dat B8 b, .dat U32 c, .dat U32 d] [] ⟨u2P a b ∧ w1P c ∧ w1P d, .dat .bool true, []⟩ := @of_eq _ _ (by kernel_rfl) hvc
theorem vc_lchains (d : Int) (p1 p2 : Int) (nx : List (List Int)) (dy : List (List (List Int))) (cs : LC) (ns os : LB) (fs : List Off) (ls : List Line) (ks : List Cla) (q1 q2 : Int) (mx : List (List Int)) (dz : List (List (List Int))) (cs2 : List (Int × List Bool × List Int)) (ns2 os2 : List ByteArray) (gs : List Off) (hs : List Line) (ks2 : List Cla) (r1 r2 : Int) (kx : List (List Int)) (ez : List (List (List Int))) (cs3 : List (Int × List Bool × List Int)) (ns3 os3 : List ByteArray) (is : List Off) (js : List Line) (ks3 : List Cla) (hvc :
 let c1 := (cs, ns, os, fs, ls, ks);
 let c2 := (cs2, ns2, os2, gs, hs, ks2);
 let c3 := D.not (luF c1 c2 nx mx);
 let c4 := D.not c3;
 let c5 := (cs3, ns3, os3, is, js, ks3);
 let c6 := D.cnd c3 true (D.not (luF c2 c5 mx kx));
 let c7 := D.rem d (1000001 : Int);
 let c8 := D.cnd true (D.eq (safeE c1 c1 nx nx c7) (0 : Int)) false;
 let c9 := D.ne (safeE c1 c2 nx mx c7) (0 : Int);
 let c10 := D.cnd c9 true (D.ne (safeE c2 c5 mx kx c7) (0 : Int)); true = true ∧ (w1P d → True ∧ True ∧ (c4 = true → c4 = true → c4 = true) ∧ (c4 = true → c4 =
  true → c4 = true) ∧ (c4 = true → c4 = true → c4 = true) ∧ (c4 = true → c4 = true → c4 = true) ∧ (c4 = true → True) ∧ (c4 = true → c4 = true → c4 = true) ∧
  (D.and true c4 = true → c4 = true) ∧ (c6 = true → true = true ∧ True) ∧ (c6 = false → inR IntKind.i64 d ∧ D.ine (1000001 : Int) (0 : Int) ∧ (netFits c1 nx ∧
  netFits c2 mx) ∧ (netFits c2 mx ∧ netFits c5 kx) ∧ (true = true → true = true → true = true) ∧ (true = true → true = true → true = true) ∧ (true = true → true
  = true → true = true) ∧ (true = true → true = true → true = true) ∧ (true = true → true = true → true = true) ∧ (true = true → netFits c1 nx ∧ netFits c1 nx) ∧
  (true = true → true = true → true = true) ∧ (D.and true true = true → true = true) ∧ (c8 = true → c8 = true → c8 = true) ∧ (c8 = true → c8 = true → c8 = true)
  ∧ (D.and c8 (D.not c9) = true → D.and c8 (D.not c9) = true → D.and c8 (D.not c9) = true) ∧ (c8 = true → c8 = true → c8 = true) ∧ (c8 = true → D.and c8 (D.not
  c9) = true → D.and c8 (D.not c9) = true) ∧ (c8 = true → c8 = true → c8 = true) ∧ (D.and c8 (D.not c10) = true → D.and c8 (D.not c10) = true → D.and c8 (D.not
  c10) = true) ∧ (D.and c8 (D.not c10) = true → D.and c8 (D.not c10) = true → D.and c8 (D.not c10) = true) ∧ (D.and c8 (D.not c10) = true → D.and c8 (D.not c10)
  = true → D.and c8 (D.not c10) = true) ∧ (D.and c8 (D.not c10) = true → D.and c8 (D.not c10) = true → D.and c8 (D.not c10) = true) ∧ (D.and c8 (D.not c10) =
  true → D.and c8 (D.not c10) = true → D.and c8 (D.not c10) = true) ∧ (D.and c8 (D.not c10) = true → netFits c1 nx ∧ netFits c5 kx) ∧ (D.and c8 (D.not c10) =
  true → D.and c8 (D.not c10) = true → D.and c8 (D.not c10) = true) ∧ (c8 = true → c8 = true → c8 = true) ∧ (c8 = true → D.and c8 (D.not c10) = true → D.and c8
  (D.not c10) = true) ∧ (D.and true c8 = true → c8 = true) ∧ D.cnd c8 (D.cnd c10 true (D.eq (safeE c1 c5 nx kx c7) (0 : Int))) false = true ∧ True))) :
    evF (mkc KR19) noAnn 7 [net cs ns os fs ls ks, .agg [.dat I p1, .dat I p2, .dat M nx, .dat (.sl M) dy], net cs2 ns2 os2 gs hs ks2, .agg [.dat I q1, .dat I q2, .dat M mx, .dat (.sl M) dz], net cs3 ns3 os3 is js ks3, .agg [.dat I r1, .dat I r2, .dat M kx, .dat (.sl M) ez], .dat U32 d] [] ⟨w1P d, .dat .bool true, []⟩ := @of_eq _ _ (by kernel_rfl) hvc
def unsA (n m : Net) (nx mx : List (List Int)) : Ann := ⟨fun id s => match id with
  | 7 => some { α := Bool × Int, inv := fun x => unTo n m nx mx x.2 x.1, st := fun x => put (flat s) [(11, .dat .bool x.1), (12, .dat I x.2)], μ := fun x => D.nat (D.sub (D.ilen n.2.2.2.1) x.2) }
  | 1000010 => match s.sig.T 12, s.sig.T 92 with
    | .dat (.int .i64) o, .dat .bool b0 => some { α := Bool × Int, inv := fun x => unTo2 n m nx mx o b0 x.2 x.1, st := fun x => put (flat s) [(11, .dat .bool x.1), (13, .dat I x.2)], μ := fun x => D.nat (D.sub (D.ilen n.2.2.2.1) x.2) }
    | _, _ => none
  | 1000014 => match s.sig.T 13, s.sig.T 14, s.sig.T 92 with
    | .dat (.int .i64) d, .dat (.sl (.int .i64)) w, .dat .bool b0 => some { α := Bool × Int, inv := fun x => unTo3 m mx w d b0 x.2 x.1, st := fun x => put (flat s) [(11, .dat .bool x.1), (15, .dat I x.2)], μ := fun x => D.nat (D.sub (D.ilen w) x.2) }
    | _, _, _ => none
  | _ => none, fun _ _ => none, fun _ _ => none⟩
theorem vc_lunsafe (p1 p2 : Int) (nx : List (List Int)) (dy : List (List (List Int))) (cs : LC) (ns os : LB) (fs : List Off) (ls : List Line) (ks : List Cla) (q1 q2 : Int) (mx : List (List Int)) (dz : List (List (List Int))) (cs2 : List (Int × List Bool × List Int)) (ns2 os2 : List ByteArray) (gs : List Off) (hs : List Line) (ks2 : List Cla) (hvc :
 let c1 := (fs, ls, ks);
 let c2 := (cs, ns, os, c1);
 let c3 := (cs2, ns2, os2, gs, hs, ks2);
 let c4 := luF c2 c3 nx mx;
 let c5 := D.not c4;
 let c6 := (p1, p2, nx, dy);
 let c7 := (q1, q2, mx, dz);
 let c8 := safeE c2 c3 nx mx (0 : Int);
 let c9 := D.ilen fs;
 let c10 := D.eq c8 (170 : Int); true = true ∧ (True → True ∧ True ∧ (c5 = true → true = true ∧ True) ∧ (c5 = false → (netFits c2 nx ∧ netFits c3 mx) ∧ (∃ (x :
  Bool × Int), unTo c2 c3 nx mx x.snd x.fst ∧ cs = cs ∧ ns = ns ∧ os = os ∧ fs = fs ∧ ls = ls ∧ ks = ks ∧ p1 = p1 ∧ p2 = p2 ∧ nx = nx ∧ dy = dy ∧ cs2 = cs2 ∧ ns2
  = ns2 ∧ os2 = os2 ∧ gs = gs ∧ hs = hs ∧ ks2 = ks2 ∧ q1 = q1 ∧ q2 = q2 ∧ mx = mx ∧ dz = dz ∧ c2 = c2 ∧ c6 = c6 ∧ c3 = c3 ∧ c7 = c7 ∧ false = false ∧ true = true
  ∧ c8 = c8 ∧ false = x.fst ∧ (0 : Int) = x.snd ∧ true = true ∧ cs = cs ∧ ns = ns ∧ os = os ∧ fs = fs ∧ ls = ls ∧ ks = ks ∧ p1 = p1 ∧ p2 = p2 ∧ nx = nx ∧ dy = dy
  ∧ cs2 = cs2 ∧ ns2 = ns2 ∧ os2 = os2 ∧ gs = gs ∧ hs = hs ∧ ks2 = ks2 ∧ q1 = q1 ∧ q2 = q2 ∧ mx = mx ∧ dz = dz ∧ c4 = c4 ∧ c5 = c5 ∧ cs = cs ∧ ns = ns ∧ os = os ∧
  fs = fs ∧ ls = ls ∧ ks = ks ∧ p1 = p1 ∧ p2 = p2 ∧ nx = nx ∧ dy = dy ∧ cs2 = cs2 ∧ ns2 = ns2 ∧ os2 = os2 ∧ gs = gs ∧ hs = hs ∧ ks2 = ks2 ∧ q1 = q1 ∧ q2 = q2 ∧
  mx = mx ∧ dz = dz ∧ c8 = c8 ∧ True) ∧ ∀ (x : Bool × Int),
 let c11 := D.lt x.snd c9;
 let c12 := D.add x.snd (1 : Int);
 let c13 := D.cnd true (D.beq c10 x.fst) false; unTo c2 c3 nx mx x.snd x.fst → (c11 = true → (∃ (x_3 : Bool × Int), unTo2 c2 c3 nx mx x.snd x.fst x_3.snd x_3.fst
  ∧ cs = cs ∧ ns = ns ∧ os = os ∧ fs = fs ∧ ls = ls ∧ ks = ks ∧ p1 = p1 ∧ p2 = p2 ∧ nx = nx ∧ dy = dy ∧ cs2 = cs2 ∧ ns2 = ns2 ∧ os2 = os2 ∧ gs = gs ∧ hs = hs ∧
  ks2 = ks2 ∧ q1 = q1 ∧ q2 = q2 ∧ mx = mx ∧ dz = dz ∧ c2 = c2 ∧ c6 = c6 ∧ c3 = c3 ∧ c7 = c7 ∧ false = false ∧ true = true ∧ c8 = c8 ∧ x.fst = x_3.fst ∧ x.snd =
  x.snd ∧ (0 : Int) = x_3.snd ∧ true = true ∧ cs = cs ∧ ns = ns ∧ os = os ∧ fs = fs ∧ ls = ls ∧ ks = ks ∧ p1 = p1 ∧ p2 = p2 ∧ nx = nx ∧ dy = dy ∧ cs2 = cs2 ∧ ns2
  = ns2 ∧ os2 = os2 ∧ gs = gs ∧ hs = hs ∧ ks2 = ks2 ∧ q1 = q1 ∧ q2 = q2 ∧ mx = mx ∧ dz = dz ∧ c4 = c4 ∧ c5 = c5 ∧ cs = cs ∧ ns = ns ∧ os = os ∧ fs = fs ∧ ls = ls
  ∧ ks = ks ∧ p1 = p1 ∧ p2 = p2 ∧ nx = nx ∧ dy = dy ∧ cs2 = cs2 ∧ ns2 = ns2 ∧ os2 = os2 ∧ gs = gs ∧ hs = hs ∧ ks2 = ks2 ∧ q1 = q1 ∧ q2 = q2 ∧ mx = mx ∧ dz = dz ∧
  c8 = c8 ∧ x.snd = x.snd ∧ c1 = c1 ∧ fs = fs ∧ c9 = c9 ∧ c11 = c11 ∧ True) ∧ ∀ (x_3 : Bool × Int),
 let c14 := D.lt x_3.snd c9;
 let c15 := passR c2 nx x.snd x_3.snd;
 let c16 := D.ilen c15;
 let c17 := D.add x_3.snd (1 : Int); unTo2 c2 c3 nx mx x.snd x.fst x_3.snd x_3.fst → (c14 = true → passP c2 nx x.snd x_3.snd ∧ (∃ (x_6 : Bool × Int), unTo3 c3 mx
  c15 x_3.snd x_3.fst x_6.snd x_6.fst ∧ cs = cs ∧ ns = ns ∧ os = os ∧ fs = fs ∧ ls = ls ∧ ks = ks ∧ p1 = p1 ∧ p2 = p2 ∧ nx = nx ∧ dy = dy ∧ cs2 = cs2 ∧ ns2 = ns2
  ∧ os2 = os2 ∧ gs = gs ∧ hs = hs ∧ ks2 = ks2 ∧ q1 = q1 ∧ q2 = q2 ∧ mx = mx ∧ dz = dz ∧ c2 = c2 ∧ c6 = c6 ∧ c3 = c3 ∧ c7 = c7 ∧ false = false ∧ true = true ∧ c8
  = c8 ∧ x_3.fst = x_6.fst ∧ x.snd = x.snd ∧ x_3.snd = x_3.snd ∧ c15 = c15 ∧ (0 : Int) = x_6.snd ∧ true = true ∧ cs = cs ∧ ns = ns ∧ os = os ∧ fs = fs ∧ ls = ls
  ∧ ks = ks ∧ p1 = p1 ∧ p2 = p2 ∧ nx = nx ∧ dy = dy ∧ cs2 = cs2 ∧ ns2 = ns2 ∧ os2 = os2 ∧ gs = gs ∧ hs = hs ∧ ks2 = ks2 ∧ q1 = q1 ∧ q2 = q2 ∧ mx = mx ∧ dz = dz ∧
  c4 = c4 ∧ c5 = c5 ∧ cs = cs ∧ ns = ns ∧ os = os ∧ fs = fs ∧ ls = ls ∧ ks = ks ∧ p1 = p1 ∧ p2 = p2 ∧ nx = nx ∧ dy = dy ∧ cs2 = cs2 ∧ ns2 = ns2 ∧ os2 = os2 ∧ gs
  = gs ∧ hs = hs ∧ ks2 = ks2 ∧ q1 = q1 ∧ q2 = q2 ∧ mx = mx ∧ dz = dz ∧ c8 = c8 ∧ x.snd = x.snd ∧ c1 = c1 ∧ fs = fs ∧ c9 = c9 ∧ c11 = c11 ∧ x_3.snd = x_3.snd ∧ c1
  = c1 ∧ fs = fs ∧ c9 = c9 ∧ c14 = c14 ∧ cs = cs ∧ ns = ns ∧ os = os ∧ fs = fs ∧ ls = ls ∧ ks = ks ∧ p1 = p1 ∧ p2 = p2 ∧ nx = nx ∧ dy = dy ∧ x.snd = x.snd ∧
  x_3.snd = x_3.snd ∧ c15 = c15 ∧ True) ∧ ∀ (x_6 : Bool × Int),
 let c18 := D.lt x_6.snd c16;
 let c19 := D.not x_6.fst;
 let c20 := D.get c15 (D.nat x_6.snd) (0 : Int);
 let c21 := D.add x_6.snd (1 : Int); unTo3 c3 mx c15 x_3.snd x_3.fst x_6.snd x_6.fst → (c18 = true → (c19 = true → c19 = true → c19 = true) ∧ (c19 = true → c19 =
  true → c19 = true) ∧ (c19 = true → D.ile (0 : Int) x_6.snd) ∧ (c19 = true → D.ilt x_6.snd c16) ∧ (c19 = true → c19 = true → c19 = true) ∧ (c19 = true → c19 =
  true → c19 = true) ∧ (c19 = true → c19 = true → c19 = true) ∧ (c19 = true → c19 = true → c19 = true) ∧ (c19 = true → c19 = true → c19 = true) ∧ (c19 = true →
  passP c3 mx c20 x_3.snd) ∧ (c19 = true → c19 = true → c19 = true) ∧ (c19 = true → c19 = true → c19 = true) ∧ (D.and true c19 = true → c19 = true) ∧ inR
  IntKind.i64 c21 ∧ ∃ (y : Bool × Int), unTo3 c3 mx c15 x_3.snd x_3.fst y.snd y.fst ∧ (cs = cs ∧ ns = ns ∧ os = os ∧ fs = fs ∧ ls = ls ∧ ks = ks ∧ p1 = p1 ∧ p2 =
  p2 ∧ nx = nx ∧ dy = dy ∧ cs2 = cs2 ∧ ns2 = ns2 ∧ os2 = os2 ∧ gs = gs ∧ hs = hs ∧ ks2 = ks2 ∧ q1 = q1 ∧ q2 = q2 ∧ mx = mx ∧ dz = dz ∧ c2 = c2 ∧ c6 = c6 ∧ c3 =
  c3 ∧ c7 = c7 ∧ false = false ∧ true = true ∧ c8 = c8 ∧ D.cnd x_6.fst true (D.eq (D.ilen (passR c3 mx c20 x_3.snd)) (0 : Int)) = y.fst ∧ x.snd = x.snd ∧ x_3.snd
  = x_3.snd ∧ c15 = c15 ∧ c21 = y.snd ∧ true = true ∧ cs = cs ∧ ns = ns ∧ os = os ∧ fs = fs ∧ ls = ls ∧ ks = ks ∧ p1 = p1 ∧ p2 = p2 ∧ nx = nx ∧ dy = dy ∧ cs2 =
  cs2 ∧ ns2 = ns2 ∧ os2 = os2 ∧ gs = gs ∧ hs = hs ∧ ks2 = ks2 ∧ q1 = q1 ∧ q2 = q2 ∧ mx = mx ∧ dz = dz ∧ c4 = c4 ∧ c5 = c5 ∧ cs = cs ∧ ns = ns ∧ os = os ∧ fs = fs
  ∧ ls = ls ∧ ks = ks ∧ p1 = p1 ∧ p2 = p2 ∧ nx = nx ∧ dy = dy ∧ cs2 = cs2 ∧ ns2 = ns2 ∧ os2 = os2 ∧ gs = gs ∧ hs = hs ∧ ks2 = ks2 ∧ q1 = q1 ∧ q2 = q2 ∧ mx = mx ∧
  dz = dz ∧ c8 = c8 ∧ x.snd = x.snd ∧ c1 = c1 ∧ fs = fs ∧ c9 = c9 ∧ c11 = c11 ∧ x_3.snd = x_3.snd ∧ c1 = c1 ∧ fs = fs ∧ c9 = c9 ∧ c14 = c14 ∧ cs = cs ∧ ns = ns ∧
  os = os ∧ fs = fs ∧ ls = ls ∧ ks = ks ∧ p1 = p1 ∧ p2 = p2 ∧ nx = nx ∧ dy = dy ∧ x.snd = x.snd ∧ x_3.snd = x_3.snd ∧ c15 = c15 ∧ True) ∧ D.nlt (D.nat (D.sub c16
  y.snd)) (D.nat (D.sub c16 x_6.snd))) ∧ (c18 = false → inR IntKind.i64 c17 ∧ ∃ (y : Bool × Int), unTo2 c2 c3 nx mx x.snd x.fst y.snd y.fst ∧ (cs = cs ∧ ns = ns
  ∧ os = os ∧ fs = fs ∧ ls = ls ∧ ks = ks ∧ p1 = p1 ∧ p2 = p2 ∧ nx = nx ∧ dy = dy ∧ cs2 = cs2 ∧ ns2 = ns2 ∧ os2 = os2 ∧ gs = gs ∧ hs = hs ∧ ks2 = ks2 ∧ q1 = q1 ∧
  q2 = q2 ∧ mx = mx ∧ dz = dz ∧ c2 = c2 ∧ c6 = c6 ∧ c3 = c3 ∧ c7 = c7 ∧ false = false ∧ true = true ∧ c8 = c8 ∧ x_6.fst = y.fst ∧ x.snd = x.snd ∧ c17 = y.snd ∧
  true = true ∧ cs = cs ∧ ns = ns ∧ os = os ∧ fs = fs ∧ ls = ls ∧ ks = ks ∧ p1 = p1 ∧ p2 = p2 ∧ nx = nx ∧ dy = dy ∧ cs2 = cs2 ∧ ns2 = ns2 ∧ os2 = os2 ∧ gs = gs ∧
  hs = hs ∧ ks2 = ks2 ∧ q1 = q1 ∧ q2 = q2 ∧ mx = mx ∧ dz = dz ∧ c4 = c4 ∧ c5 = c5 ∧ cs = cs ∧ ns = ns ∧ os = os ∧ fs = fs ∧ ls = ls ∧ ks = ks ∧ p1 = p1 ∧ p2 = p2
  ∧ nx = nx ∧ dy = dy ∧ cs2 = cs2 ∧ ns2 = ns2 ∧ os2 = os2 ∧ gs = gs ∧ hs = hs ∧ ks2 = ks2 ∧ q1 = q1 ∧ q2 = q2 ∧ mx = mx ∧ dz = dz ∧ c8 = c8 ∧ x.snd = x.snd ∧ c1
  = c1 ∧ fs = fs ∧ c9 = c9 ∧ c11 = c11 ∧ True) ∧ D.nlt (D.nat (D.sub c9 y.snd)) (D.nat (D.sub c9 x_3.snd)))) ∧ (c14 = false → inR IntKind.i64 c12 ∧ ∃ (y : Bool ×
  Int), unTo c2 c3 nx mx y.snd y.fst ∧ (cs = cs ∧ ns = ns ∧ os = os ∧ fs = fs ∧ ls = ls ∧ ks = ks ∧ p1 = p1 ∧ p2 = p2 ∧ nx = nx ∧ dy = dy ∧ cs2 = cs2 ∧ ns2 = ns2
  ∧ os2 = os2 ∧ gs = gs ∧ hs = hs ∧ ks2 = ks2 ∧ q1 = q1 ∧ q2 = q2 ∧ mx = mx ∧ dz = dz ∧ c2 = c2 ∧ c6 = c6 ∧ c3 = c3 ∧ c7 = c7 ∧ false = false ∧ true = true ∧ c8
  = c8 ∧ x_3.fst = y.fst ∧ c12 = y.snd ∧ true = true ∧ cs = cs ∧ ns = ns ∧ os = os ∧ fs = fs ∧ ls = ls ∧ ks = ks ∧ p1 = p1 ∧ p2 = p2 ∧ nx = nx ∧ dy = dy ∧ cs2 =
  cs2 ∧ ns2 = ns2 ∧ os2 = os2 ∧ gs = gs ∧ hs = hs ∧ ks2 = ks2 ∧ q1 = q1 ∧ q2 = q2 ∧ mx = mx ∧ dz = dz ∧ c4 = c4 ∧ c5 = c5 ∧ cs = cs ∧ ns = ns ∧ os = os ∧ fs = fs
  ∧ ls = ls ∧ ks = ks ∧ p1 = p1 ∧ p2 = p2 ∧ nx = nx ∧ dy = dy ∧ cs2 = cs2 ∧ ns2 = ns2 ∧ os2 = os2 ∧ gs = gs ∧ hs = hs ∧ ks2 = ks2 ∧ q1 = q1 ∧ q2 = q2 ∧ mx = mx ∧
  dz = dz ∧ c8 = c8 ∧ True) ∧ D.nlt (D.nat (D.sub c9 y.snd)) (D.nat (D.sub c9 x.snd)))) ∧ (c11 = false → (true = true → true = true → true = true) ∧ (true = true
  → true = true → true = true) ∧ (true = true → true = true → true = true) ∧ (D.and true true = true → true = true) ∧ (c13 = true → c13 = true → c13 = true) ∧
  (c13 = true → c13 = true → c13 = true) ∧ (c13 = true → c13 = true → c13 = true) ∧ (c13 = true → c13 = true → c13 = true) ∧ (D.and true c13 = true → c13 = true)
  ∧ D.cnd c13 (D.beq (D.eq c8 (0 : Int)) (D.not x.fst)) false = true ∧ True)))) :
    evF (mkc KR19) (unsA (cs, ns, os, fs, ls, ks) (cs2, ns2, os2, gs, hs, ks2) nx mx) 8 [net cs ns os fs ls ks, .agg [.dat I p1, .dat I p2, .dat M nx, .dat (.sl M) dy], net cs2 ns2 os2 gs hs ks2, .agg [.dat I q1, .dat I q2, .dat M mx, .dat (.sl M) dz]] [] ⟨True, .dat .bool true, []⟩ := @of_eq _ _ (by kernel_rfl) hvc
theorem KSR19 : KSound Tryz.prog G0 KR19 := kOr_ok (dataK_ok fun _ => t_thead) KSR18
theorem rng8 {a : Int} (h : inR .u8 a) : 0 ≤ a ∧ a ≤ 255 := by unfold inR at h; simp only at h; omega
theorem rng32 {a : Int} (h : inR .u32 a) : 0 ≤ a ∧ a ≤ 4294967295 := by unfold inR at h; simp only at h; omega
theorem usF_iff {n : Net} {nx : List (List Int)} : usF n nx = true ↔ soundF n = true ∧ tabF n nx = true := by unfold usF; simp
theorem alike_len {fs gs : List Off} (h : alikeO fs gs = true) : fs.length = gs.length := by
  unfold alikeO at h
  simp only [Bool.and_eq_true, decide_eq_true_eq] at h
  omega
theorem alike_iff {fs gs : List Off} : alikeO fs gs = true ↔ fs.length = gs.length ∧ ∀ i : Nat, i < fs.length → (fs.getD i (⟨#[]⟩, 0, 0, 0, 0, 0, [])).1.toList = (gs.getD i (⟨#[]⟩, 0, 0, 0, 0, 0, [])).1.toList := by
  unfold alikeO nameEq
  simp only [Bool.and_eq_true, decide_eq_true_eq, List.all_eq_true, List.mem_range, beq_iff_eq]
  exact ⟨fun h => ⟨by omega, h.2⟩, fun h => ⟨by omega, h.2⟩⟩
theorem alike_refl (fs : List Off) : alikeO fs fs = true := alike_iff.2 ⟨rfl, fun _ _ => rfl⟩
theorem alike_trans {fs gs is : List Off} (h1 : alikeO fs gs = true) (h2 : alikeO gs is = true) : alikeO fs is = true := by
  obtain ⟨a1, a2⟩ := alike_iff.1 h1
  obtain ⟨b1, b2⟩ := alike_iff.1 h2
  exact alike_iff.2 ⟨a1.trans b1, fun i hi => (a2 i hi).trans (b2 i (by omega))⟩
theorem sm_fits {n : Net} {nx : List (List Int)} (h : smF n nx = true) : netFits n nx ∧ n.2.2.2.1.length ≤ 6 := by
  unfold smF at h
  simp only [Bool.and_eq_true, decide_eq_true_eq, List.all_eq_true] at h
  obtain ⟨⟨h1, h2⟩, h3, h4⟩ := h
  exact ⟨⟨by show _ ≤ 1000000; omega, ⟨by omega, fun r hr => by have := h4 r hr; omega⟩⟩, by omega⟩
structure LU (n m : Net) (nx mx : List (List Int)) : Prop where
  fn : netFits n nx
  fm : netFits m mx
  un : usF n nx = true
  um : usF m mx = true
  al : alikeO n.2.2.2.1 m.2.2.2.1 = true
  pos : 0 < n.2.2.2.1.length
  six : n.2.2.2.1.length ≤ 6
theorem lu_of {n m : Net} {nx mx : List (List Int)} (h : luF n m nx mx = true) : LU n m nx mx := by
  unfold luF at h
  simp only [Bool.and_eq_true, decide_eq_true_eq] at h
  obtain ⟨⟨⟨⟨⟨h1, h2⟩, h3⟩, h4⟩, h5⟩, h6⟩ := h
  exact ⟨(sm_fits h1).1, (sm_fits h2).1, h3, h4, h5, by omega, (sm_fits h1).2⟩
theorem LU.len {n m : Net} {nx mx : List (List Int)} (h : LU n m nx mx) : n.2.2.2.1.length = m.2.2.2.1.length := alike_len h.al
theorem LU.pass {n m : Net} {nx mx : List (List Int)} (h : LU n m nx mx) {o d : Int} (o0 : 0 ≤ o) (o1 : o < n.2.2.2.1.length) (d0 : 0 ≤ d) (d1 : d < n.2.2.2.1.length) : passP n nx o d ∧ passP m mx o d := by
  obtain ⟨a1, a2⟩ := usF_iff.1 h.un
  obtain ⟨b1, b2⟩ := usF_iff.1 h.um
  have := h.len
  exact ⟨⟨a1, a2, o0, o1, d0, d1⟩, ⟨b1, b2, o0, by omega, d0, by omega⟩⟩
theorem tmod_bnd {a k : Int} (h : 0 < k) (a0 : 0 ≤ a) : 0 ≤ a.tmod k ∧ a.tmod k < k := by
  rw [Int.tmod_eq_emod_of_nonneg a0]
  exact ⟨Int.emod_nonneg _ (by omega), Int.emod_lt_of_pos _ (by omega)⟩
theorem post_bnd {n : Net} {a b c : Int} (h : postP n a b c) : (0 ≤ (postF n a b c).2.1 ∧ (postF n a b c).2.1 < n.2.2.2.1.length) ∧ (0 ≤ (postF n a b c).2.2.1 ∧ (postF n a b c).2.2.1 < n.2.2.2.1.length) ∧ 0 ≤ (postF n a b c).2.2.2.2 ∧ (postF n a b c).2.2.2.2 ≤ 100000 := by
  obtain ⟨h0, a0, a1, b0, b1, c0, c1⟩ := h
  have := tmod_bnd (k := 100001) (by omega) c0
  exact ⟨tmod_bnd (by omega) a0, tmod_bnd (by omega) b0, this.1, by have := this.2; show c.tmod 100001 ≤ 100000; omega⟩
theorem allSafe_iff {n m : Net} {nx mx : List (List Int)} : allSafe n m nx mx = true ↔ ∀ o d : Int, 0 ≤ o → o < n.2.2.2.1.length → 0 ≤ d → d < n.2.2.2.1.length → pairOk n m nx mx o d = true := by
  unfold allSafe
  simp only [List.all_eq_true, List.mem_range]
  constructor
  · intro h o d o0 o1 d0 d1
    have := h o.toNat (by omega) d.toNat (by omega)
    rwa [Int.toNat_of_nonneg o0, Int.toNat_of_nonneg d0] at this
  · exact fun h o ho d hd => h o d (by omega) (by omega) (by omega) (by omega)
theorem safeE_zero {n m : Net} {nx mx : List (List Int)} {t : Int} : safeE n m nx mx t = 0 ↔ safeOk n m nx mx t = true ∧ allSafe n m nx mx = true := by
  unfold safeE
  by_cases h : safeOk n m nx mx t = true
  · rw [if_pos h]
    by_cases h2 : allSafe n m nx mx = true
    · rw [if_pos h2]; exact ⟨fun _ => ⟨h, h2⟩, fun _ => rfl⟩
    · rw [if_neg h2]; exact ⟨fun h => by omega, fun h => absurd h.2 h2⟩
  · rw [if_neg h]; exact ⟨fun h => by omega, fun g => absurd g.1 h⟩
theorem LU.ok {n m : Net} {nx mx : List (List Int)} (h : LU n m nx mx) {t : Int} (t0 : 0 ≤ t) (t1 : t ≤ 1000000) : safeOk n m nx mx t = true := by
  unfold safeOk tim20
  rw [h.un, h.um, h.al, decide_eq_true ⟨t0, t1⟩]; rfl
section
variable {n m : Net} {nx mx : List (List Int)} {to : Int}
theorem pass_head (k : Nat) (x : Int) : x ∈ passN n nx to k x := by
  cases k with
  | zero => rw [passN]; simp
  | succ k => rw [passN]; split <;> simp
theorem pass_mono : ∀ (j k : Nat) (x : Int), j ≤ k → to ∈ passN n nx to j x → to ∈ passN n nx to k x
  | 0, k, x, _, h => by
    rw [passN, List.mem_singleton] at h
    subst h; exact pass_head k _
  | j + 1, 0, x, h, _ => by omega
  | j + 1, k + 1, x, hk, h => by
    rw [passN] at h ⊢
    split
    · rename_i hs; rw [if_pos hs] at h; exact h
    · rename_i hs
      rw [if_neg hs] at h
      rcases List.mem_cons.1 h with h | h
      · rw [h]; exact List.mem_cons_self
      · exact List.mem_cons_of_mem _ (pass_mono j k _ (by omega) h)
theorem pass_lead : ∀ (k : Nat) (x0 : Int), to ∈ passN n nx to k x0 → ∀ x ∈ passN n nx to k x0, ∃ j, j ≤ k ∧ to ∈ passN n nx to j x
  | 0, x0, h, x, hx => by
    rw [passN, List.mem_singleton] at hx
    subst hx; exact ⟨0, Nat.le_refl _, h⟩
  | k + 1, x0, h, x, hx => by
    by_cases hs : x0 = to ∨ nxt nx x0 to = -1
    · have hx' := hx
      rw [passN, if_pos hs, List.mem_singleton] at hx'
      subst hx'; exact ⟨k + 1, Nat.le_refl _, h⟩
    · have h' := h
      have hx' := hx
      rw [passN, if_neg hs] at h' hx'
      rcases List.mem_cons.1 hx' with rfl | hx'
      · exact ⟨k + 1, Nat.le_refl _, h⟩
      · rcases List.mem_cons.1 h' with e | h'
        · exact absurd (.inl e.symm) hs
        · obtain ⟨j, h1, h2⟩ := pass_lead k _ h' x hx'
          exact ⟨j, by omega, h2⟩
theorem leads_iff {o : Int} : leadsF n nx o to = true ↔ to ∈ passL n nx o to := by
  unfold leadsF
  simp [List.any_eq_true]
theorem leads_on {o x : Int} (h : leadsF n nx o to = true) (hx : x ∈ passL n nx o to) : leadsF n nx x to = true := by
  obtain ⟨j, h1, h2⟩ := pass_lead 19 o (leads_iff.1 h) x hx
  exact leads_iff.2 (pass_mono j 19 x h1 h2)
theorem way_no_route : ∀ (k : Nat) (x t : Int), to ∈ passN n nx to k x → (wayN n nx to k x t).2 ≠ 170
  | k, x, t, h => by
    by_cases h0 : x = to
    · rw [way_to k h0]; show (0 : Int) ≠ 170; decide
    · by_cases h1 : nxt nx x to = -1
      · exfalso
        have : passN n nx to k x = [x] := by
          cases k with
          | zero => rfl
          | succ k => rw [passN, if_pos (.inr h1)]
        rw [this, List.mem_singleton] at h
        exact h0 h.symm
      · have hd : depE n (nxt nx x to) (readyF n x t) ≠ 170 := by
          unfold depE fstE nextE
          split
          · split <;> decide
          · decide
        by_cases h2 : depE n (nxt nx x to) (readyF n x t) = 0
        · cases k with
          | zero =>
            rw [passN, List.mem_singleton] at h
            exact absurd h.symm h0
          | succ k =>
            rw [passN, if_neg (fun g => g.elim h0 h1)] at h
            rcases List.mem_cons.1 h with e | h
            · exact absurd e.symm h0
            · have ih := way_no_route k (lnTo n (nxt nx x to)) (depD n (nxt nx x to) (readyF n x t) + lnTrav n (nxt nx x to)) h
              rw [way_next k h0 h1 h2]
              unfold preW
              split
              · simp
              · exact ih
        · rw [way_err k h0 h1 h2]; exact hd
theorem isWay.office : ∀ (k : Nat) {o t : Int} {l : List Stop}, isWay n nx to o t l → l.length ≤ k + 1 → ∀ s ∈ l, s.1 ∈ passN n nx to k o
  | k, o, t, [], h, _, _, _ => h.elim
  | k, o, t, s0 :: r, h, hl, s, hs => by
    rcases h with ⟨h0, h1, rfl⟩ | ⟨h0, h1, h2, h3, h4⟩
    · rw [List.mem_singleton] at hs
      subst hs; rw [h1]; exact pass_head k o
    · rcases List.mem_cons.1 hs with rfl | hs
      · rw [h3]; exact pass_head k o
      · cases k with
        | zero =>
          cases r with
          | nil => exact h4.elim
          | cons _ _ => simp at hl
        | succ k =>
          rw [passN, if_neg (fun g => g.elim h0 h1)]
          exact List.mem_cons_of_mem _ (isWay.office k h4 (by simp at hl; omega) s hs)
theorem isWay.last {o t : Int} {l : List Stop} (h : isWay n nx to o t l) : ∃ s ∈ l, s.1 = to := by
  have hp := h.pos
  refine ⟨l.getD (l.length - 1) (0, 0, 0, 0), ?_, ?_⟩
  · rw [List.getD_eq_getElem?_getD, List.getElem?_eq_getElem (by omega), Option.getD_some]; exact List.getElem_mem _
  · rcases h.at (i := l.length - 1) (by omega) with ⟨_, g, _⟩ | ⟨g, _⟩
    · exact g
    · omega
theorem Way_leads {o t : Int} (h : WayE n nx o to t = 0) : leadsF n nx o to = true ∧ ∀ s ∈ WayL n nx o to t, s.1 ∈ passL n nx o to := by
  obtain ⟨_, hw, hl⟩ := Way_is h
  have ho := hw.office 19 hl
  obtain ⟨s, h1, h2⟩ := hw.last
  exact ⟨leads_iff.2 (h2 ▸ ho s h1), ho⟩
theorem Way_route {o t : Int} (h : leadsF n nx o to = true) : WayE n nx o to t ≠ 170 := by
  unfold WayE
  split
  · exact way_no_route 19 o t (leads_iff.1 h)
  · decide
theorem pair_of {o d : Int} (h : pairOk n m nx mx o d = true) (hl : leadsF n nx o d = true) : ∀ x ∈ passL n nx o d, leadsF m mx x d = true := by
  unfold pairOk safeW at h
  rw [hl] at h
  simpa using h
theorem pair_to {o d : Int} (h : leadsF n nx o d = true → ∀ x ∈ passL n nx o d, leadsF m mx x d = true) : pairOk n m nx mx o d = true := by
  unfold pairOk safeW
  cases hl : leadsF n nx o d with
  | false => rfl
  | true => simpa using h hl
theorem passR_iff {o d : Int} : (passR n nx o d).length = 0 ↔ leadsF n nx o d = false := by
  unfold passR
  cases h : leadsF n nx o d with
  | false => simp
  | true =>
    rw [if_pos rfl]
    have : 0 < (passL n nx o d).length := List.length_pos_of_mem (pass_head 19 o)
    simp; exact List.length_pos_iff.1 this
end
theorem t_lsafe (a b c d : Int) (p1 p2 : Int) (nx : List (List Int)) (dy : List (List (List Int))) (cs : LC) (ns os : LB) (fs : List Off) (ls : List Line) (ks : List Cla) (q1 q2 : Int) (mx : List (List Int)) (dz : List (List (List Int))) (cs2 : List (Int × List Bool × List Int)) (ns2 os2 : List ByteArray) (gs : List Off) (hs : List Line) (ks2 : List Cla) : SoundC Tryz.prog G0 6 [net cs ns os fs ls ks, .agg [.dat I p1, .dat I p2, .dat M nx, .dat (.sl M) dy], net cs2 ns2 os2 gs hs ks2, .agg [.dat I q1, .dat I q2, .dat M mx, .dat (.sl M) dz], .dat B8 a, .dat B8 b, .dat U32 c, .dat U32 d] [] ⟨u2P a b ∧ w1P c ∧ w1P d, .dat .bool true, []⟩ := by
  refine sound_of_ev (c := mkc KR19) KSR19 KI0s hm (vc_lsafe a b c d p1 p2 nx dy cs ns os fs ls ks q1 q2 mx dz cs2 ns2 os2 gs hs ks2 ⟨rfl, fun hp => ?_⟩)
  simp only [cnd_or, cnd_and, D.and, D.or, D.not, Bool.true_and, Bool.and_true, Bool.false_or, Bool.or_false, eq_self, true_and, and_true, imp_self, implies_true, Bool.not_eq_true', Bool.or_eq_true, Bool.or_eq_false_iff, Bool.not_eq_false', Bool.and_eq_true, Bool.and_eq_false_imp, Bool.not_not, forall_const, exists_eq_right, exists_eq_right', exists_eq_left, exists_eq_left', Int.toNat_natCast, Nat.zero_add, Nat.mul_one, Int.ofNat_eq_natCast, D.nil, D.eq, D.ne, D.lt, D.gt, D.le, D.ge, D.beq, D.ilen, D.slen, D.ile, D.ilt, D.ine, D.nle, D.nlt, D.sub, D.add, D.mul, D.neg, D.nat, D.ofN, D.len, D.nadd, D.nmul, D.get, D.mn, D.mx, D.set, D.app, D.tail, D.part, D.seg, D.rep, D.at2, decide_eq_true_eq, decide_eq_false_iff_not, beq_iff_eq, bne_iff_ne, beq_eq_false_iff_ne, bne_eq_false_iff_eq, D.wrap, D.allNil]
  intro hu
  obtain ⟨⟨a0, a1, b0, b1⟩, ⟨c0, c1⟩, ⟨d0, d1⟩⟩ := hp
  have L := lu_of hu
  have hpo : postP (cs, ns, os, fs, ls, ks) a b c := ⟨L.pos, a0, a1, b0, b1, c0, c1⟩
  refine ⟨hpo, L.fn.2, in_big (by omega), by omega, ⟨L.fn, L.fm⟩, ⟨L.fn, L.fm⟩, ?_⟩
  obtain ⟨⟨o0, o1⟩, ⟨e0, e1⟩, t0, t1⟩ := post_bnd hpo
  generalize hx : postF (cs, ns, os, fs, ls, ks) a b c = x at *
  by_cases h1 : safeE (cs, ns, os, fs, ls, ks) (cs2, ns2, os2, gs, hs, ks2) nx mx 0 = 0
  · by_cases h2 : WayE (cs, ns, os, fs, ls, ks) nx x.2.1 x.2.2.1 x.2.2.2.2 = 0
    · right
      show carryE (cs, ns, os, fs, ls, ks) (cs2, ns2, os2, gs, hs, ks2) nx mx (D.rem d 100001) x ≠ 170
      unfold carryE
      split
      · obtain ⟨l1, l2⟩ := Way_leads h2
        have hp := allSafe_iff.1 (safeE_zero.1 h1).2 x.2.1 x.2.2.1 o0 o1 e0 e1
        obtain ⟨_, hw, hl⟩ := Way_is h2
        obtain ⟨i, q1, q2, _⟩ := hw.idx (D.rem d 100001)
        have hm : oldS (cs, ns, os, fs, ls, ks) nx (D.rem d 100001) x ∈ WayL (cs, ns, os, fs, ls, ks) nx x.2.1 x.2.2.1 x.2.2.2.2 := by
          unfold oldS oldI oldW stopG
          rw [q1, Int.toNat_natCast, List.getD_eq_getElem?_getD, List.getElem?_eq_getElem q2, Option.getD_some]; exact List.getElem_mem _
        exact Way_route (pair_of hp l1 _ (l2 _ hm))
      · decide
    · exact .inl (.inr h2)
  · exact .inl (.inl h1)
theorem t_lchains (d : Int) (p1 p2 : Int) (nx : List (List Int)) (dy : List (List (List Int))) (cs : LC) (ns os : LB) (fs : List Off) (ls : List Line) (ks : List Cla) (q1 q2 : Int) (mx : List (List Int)) (dz : List (List (List Int))) (cs2 : List (Int × List Bool × List Int)) (ns2 os2 : List ByteArray) (gs : List Off) (hs : List Line) (ks2 : List Cla) (r1 r2 : Int) (kx : List (List Int)) (ez : List (List (List Int))) (cs3 : List (Int × List Bool × List Int)) (ns3 os3 : List ByteArray) (is : List Off) (js : List Line) (ks3 : List Cla) : SoundC Tryz.prog G0 7 [net cs ns os fs ls ks, .agg [.dat I p1, .dat I p2, .dat M nx, .dat (.sl M) dy], net cs2 ns2 os2 gs hs ks2, .agg [.dat I q1, .dat I q2, .dat M mx, .dat (.sl M) dz], net cs3 ns3 os3 is js ks3, .agg [.dat I r1, .dat I r2, .dat M kx, .dat (.sl M) ez], .dat U32 d] [] ⟨w1P d, .dat .bool true, []⟩ := by
  refine sound_of_ev (c := mkc KR19) KSR19 KI0s hm (vc_lchains d p1 p2 nx dy cs ns os fs ls ks q1 q2 mx dz cs2 ns2 os2 gs hs ks2 r1 r2 kx ez cs3 ns3 os3 is js ks3 ⟨rfl, fun hp => ?_⟩)
  simp only [cnd_or, cnd_and, D.and, D.or, D.not, Bool.true_and, Bool.and_true, Bool.false_or, Bool.or_false, eq_self, true_and, and_true, imp_self, implies_true, Bool.not_eq_true', Bool.or_eq_true, Bool.or_eq_false_iff, Bool.not_eq_false', Bool.and_eq_true, Bool.and_eq_false_imp, Bool.not_not, forall_const, exists_eq_right, exists_eq_right', exists_eq_left, exists_eq_left', Int.toNat_natCast, Nat.zero_add, Nat.mul_one, Int.ofNat_eq_natCast, D.nil, D.eq, D.ne, D.lt, D.gt, D.le, D.ge, D.beq, D.ilen, D.slen, D.ile, D.ilt, D.ine, D.nle, D.nlt, D.sub, D.add, D.mul, D.neg, D.nat, D.ofN, D.len, D.nadd, D.nmul, D.get, D.mn, D.mx, D.set, D.app, D.tail, D.part, D.seg, D.rep, D.at2, decide_eq_true_eq, decide_eq_false_iff_not, beq_iff_eq, bne_iff_ne, beq_eq_false_iff_ne, bne_eq_false_iff_eq, D.wrap, D.allNil]
  rintro ⟨hu1, hu2⟩
  obtain ⟨d0, d1⟩ := hp
  have L1 := lu_of hu1
  have L2 := lu_of hu2
  have hr := tmod_bnd (a := d) (k := 1000001) (by omega) d0
  have hr : 0 ≤ D.rem d 1000001 ∧ D.rem d 1000001 ≤ 1000000 := ⟨hr.1, by have := hr.2; show d.tmod 1000001 ≤ 1000000; omega⟩
  have L0 : LU (cs, ns, os, fs, ls, ks) (cs, ns, os, fs, ls, ks) nx nx := ⟨L1.fn, L1.fn, L1.un, L1.un, alike_refl _, L1.pos, L1.six⟩
  have L3 : LU (cs, ns, os, fs, ls, ks) (cs3, ns3, os3, is, js, ks3) nx kx := ⟨L1.fn, L2.fm, L1.un, L2.um, alike_trans L1.al L2.al, L1.pos, L1.six⟩
  have s0 : safeE (cs, ns, os, fs, ls, ks) (cs, ns, os, fs, ls, ks) nx nx (D.rem d 1000001) = 0 := safeE_zero.2 ⟨L0.ok hr.1 hr.2, allSafe_iff.2 fun o d _ _ _ _ => pair_to fun hl x hx => leads_on hl hx⟩
  refine ⟨in_big (by omega), by omega, ⟨L1.fn, L1.fm⟩, ⟨L2.fn, L2.fm⟩, ⟨L1.fn, L1.fn⟩, fun _ => ⟨L1.fn, L2.fm⟩, s0, ?_⟩
  by_cases h1 : safeE (cs, ns, os, fs, ls, ks) (cs2, ns2, os2, gs, hs, ks2) nx mx (D.rem d 1000001) = 0
  · by_cases h2 : safeE (cs2, ns2, os2, gs, hs, ks2) (cs3, ns3, os3, is, js, ks3) mx kx (D.rem d 1000001) = 0
    · right
      refine safeE_zero.2 ⟨L3.ok hr.1 hr.2, allSafe_iff.2 fun o e o0 o1 e0 e1 => pair_to fun hl x hx => ?_⟩
      have p1 := allSafe_iff.1 (safeE_zero.1 h1).2 o e o0 o1 e0 e1
      obtain ⟨x0, x1⟩ := pass_in cs ns os fs ls ks (L1.pass o0 o1 e0 e1).1 19 o o0 o1 x hx
      have ll : fs.length = gs.length := L1.len
      have p2 := allSafe_iff.1 (safeE_zero.1 h2).2 x e x0 (by show x < (gs.length : Int); omega) e0 (by have h : e < (fs.length : Int) := e1; show e < (gs.length : Int); omega)
      exact pair_of p2 (pair_of p1 hl x hx) x (pass_head 19 x)
    · exact .inl (.inr h2)
  · exact .inl (.inl h1)
theorem t_lunsafe (p1 p2 : Int) (nx : List (List Int)) (dy : List (List (List Int))) (cs : LC) (ns os : LB) (fs : List Off) (ls : List Line) (ks : List Cla) (q1 q2 : Int) (mx : List (List Int)) (dz : List (List (List Int))) (cs2 : List (Int × List Bool × List Int)) (ns2 os2 : List ByteArray) (gs : List Off) (hs : List Line) (ks2 : List Cla) : SoundC Tryz.prog G0 8 [net cs ns os fs ls ks, .agg [.dat I p1, .dat I p2, .dat M nx, .dat (.sl M) dy], net cs2 ns2 os2 gs hs ks2, .agg [.dat I q1, .dat I q2, .dat M mx, .dat (.sl M) dz]] [] ⟨True, .dat .bool true, []⟩ := by
  refine sound_of_ev (c := mkc KR19) KSR19 KI0s hm (vc_lunsafe p1 p2 nx dy cs ns os fs ls ks q1 q2 mx dz cs2 ns2 os2 gs hs ks2 ⟨rfl, fun _ => ?_⟩)
  simp only [cnd_or, cnd_and, D.and, D.or, D.not, Bool.true_and, Bool.and_true, Bool.false_or, Bool.or_false, eq_self, true_and, and_true, imp_self, implies_true, Bool.not_eq_true', Bool.or_eq_true, Bool.or_eq_false_iff, Bool.not_eq_false', Bool.and_eq_true, Bool.and_eq_false_imp, Bool.not_not, forall_const, exists_eq_right, exists_eq_right', exists_eq_left, exists_eq_left', Int.toNat_natCast, Nat.zero_add, Nat.mul_one, Int.ofNat_eq_natCast, D.nil, D.eq, D.ne, D.lt, D.gt, D.le, D.ge, D.beq, D.ilen, D.slen, D.ile, D.ilt, D.ine, D.nle, D.nlt, D.sub, D.add, D.mul, D.neg, D.nat, D.ofN, D.len, D.nadd, D.nmul, D.get, D.mn, D.mx, D.set, D.app, D.tail, D.part, D.seg, D.rep, D.at2, decide_eq_true_eq, decide_eq_false_iff_not, beq_iff_eq, bne_iff_ne, beq_eq_false_iff_ne, bne_eq_false_iff_eq, D.wrap, D.allNil]
  intro hu
  have L := lu_of hu
  have ll : fs.length = gs.length := L.len
  have l6 : fs.length ≤ 6 := L.six
  refine ⟨⟨L.fn, L.fm⟩, ⟨(false, 0), ⟨Int.le_refl _, Int.natCast_nonneg _, ⟨fun _ x d _ h => by omega, fun _ => rfl⟩⟩, rfl, rfl⟩, ?_⟩
  rintro ⟨b1, o⟩ ⟨o0, o1, hb1⟩
  simp only at o0 o1 hb1 ⊢
  refine ⟨fun hlt => ⟨⟨(b1, 0), ⟨Int.le_refl _, Int.natCast_nonneg _, ⟨fun h => ⟨h, fun y _ h => by omega⟩, fun h => h.1⟩⟩, rfl, rfl⟩, ?_⟩, fun hge => ?_⟩
  · rintro ⟨b2, d⟩ ⟨d0, d1, hb2⟩
    simp only at d0 d1 hb2 ⊢
    refine ⟨fun hlt2 => ?_, fun hge => ⟨in_big (by omega), (b2, o + 1), ⟨by simp only; omega, by show o + 1 ≤ (fs.length : Int); omega, ?_⟩, ⟨rfl, rfl⟩, by simp only; omega⟩⟩
    · obtain ⟨pn, pm⟩ := L.pass o0 hlt d0 hlt2
      have hin : ∀ j : Nat, j < (passR (cs, ns, os, fs, ls, ks) nx o d).length → 0 ≤ (passR (cs, ns, os, fs, ls, ks) nx o d).getD j 0 ∧ (passR (cs, ns, os, fs, ls, ks) nx o d).getD j 0 < fs.length := fun j hj => by
        have hm : (passR (cs, ns, os, fs, ls, ks) nx o d).getD j 0 ∈ passR (cs, ns, os, fs, ls, ks) nx o d := by rw [List.getD_eq_getElem?_getD, List.getElem?_eq_getElem hj, Option.getD_some]; exact List.getElem_mem _
        generalize (passR (cs, ns, os, fs, ls, ks) nx o d).getD j 0 = y at hm
        unfold passR at hm
        split at hm
        · exact pass_in cs ns os fs ls ks pn 19 o o0 hlt y hm
        · cases hm
      refine ⟨pn, ⟨(b2, 0), ⟨Int.le_refl _, Int.natCast_nonneg _, ⟨fun h => ⟨h, fun j h => by omega⟩, fun h => h.1⟩⟩, rfl, rfl⟩, ?_⟩
      rintro ⟨b3, i⟩ ⟨i0, i1, hb3⟩
      simp only at i0 i1 hb3 ⊢
      have hlen : (passR (cs, ns, os, fs, ls, ks) nx o d).length ≤ 20 := by
        unfold passR; split
        · have : ∀ (k : Nat) (x : Int), (passN (cs, ns, os, fs, ls, ks) nx d k x).length ≤ k + 1 := by
            intro k
            induction k with
            | zero => intro x; rw [passN]; simp
            | succ k ih => intro x; rw [passN]; split <;> simp; exact ih _
          exact this 19 o
        · simp
      refine ⟨fun hlt3 => ⟨fun _ => i0, fun _ => hlt3, fun _ => ?_, in_big (by omega), ((b3 || (((passR (cs2, ns2, os2, gs, hs, ks2) mx ((passR (cs, ns, os, fs, ls, ks) nx o d).getD i.toNat 0) d).length : Int) == 0)), i + 1), ⟨by simp only; omega, by simp only; omega, ?_⟩, ⟨rfl, rfl⟩, by simp only; omega⟩, fun hge3 => ⟨in_big (by omega), (b3, d + 1), ⟨by simp only; omega, by show d + 1 ≤ (fs.length : Int); omega, ?_⟩, ⟨rfl, rfl⟩, by simp only; omega⟩⟩
      · obtain ⟨y0, y1⟩ := hin i.toNat (by omega)
        exact (L.pass y0 y1 d0 hlt2).2
      · simp only [Bool.or_eq_false_iff, beq_eq_false_iff_ne]
        rw [hb3]
        have hz : ((passR (cs2, ns2, os2, gs, hs, ks2) mx ((passR (cs, ns, os, fs, ls, ks) nx o d).getD i.toNat 0) d).length : Int) ≠ 0 ↔ leadsF (cs2, ns2, os2, gs, hs, ks2) mx ((passR (cs, ns, os, fs, ls, ks) nx o d).getD i.toNat 0) d = true := by
          have := passR_iff (n := (cs2, ns2, os2, gs, hs, ks2)) (nx := mx) (o := (passR (cs, ns, os, fs, ls, ks) nx o d).getD i.toNat 0) (d := d)
          constructor
          · intro h
            cases hc : leadsF (cs2, ns2, os2, gs, hs, ks2) mx ((passR (cs, ns, os, fs, ls, ks) nx o d).getD i.toNat 0) d with
            | true => rfl
            | false => exact absurd (by rw [this.2 hc]; rfl) h
          · intro h h0
            rw [this.1 (by omega)] at h; cases h
        rw [hz]
        constructor
        · rintro ⟨⟨h1, h2⟩, h3⟩
          refine ⟨h1, fun j hj => ?_⟩
          by_cases e : (j : Int) < i
          · exact h2 j e
          · have : j = i.toNat := by omega
            rw [this]; exact h3
        · rintro ⟨h1, h2⟩
          refine ⟨⟨h1, fun j hj => h2 j (by omega)⟩, h2 i.toNat (by omega)⟩
      · simp only
        rw [hb3, hb2]
        have hpk : (∀ j : Nat, (j : Int) < i → leadsF (cs2, ns2, os2, gs, hs, ks2) mx ((passR (cs, ns, os, fs, ls, ks) nx o d).getD j 0) d = true) ↔ pairOk (cs, ns, os, fs, ls, ks) (cs2, ns2, os2, gs, hs, ks2) nx mx o d = true := by
          constructor
          · intro h
            refine pair_to fun hl x hx => ?_
            have e : passR (cs, ns, os, fs, ls, ks) nx o d = passL (cs, ns, os, fs, ls, ks) nx o d := if_pos hl
            rw [← e] at hx
            obtain ⟨j, hj, rfl⟩ := List.mem_iff_getElem.1 hx
            have := h j (by omega)
            rwa [List.getD_eq_getElem?_getD, List.getElem?_eq_getElem hj, Option.getD_some] at this
          · intro h j hj
            have hj' : j < (passR (cs, ns, os, fs, ls, ks) nx o d).length := by omega
            have hl : leadsF (cs, ns, os, fs, ls, ks) nx o d = true := by
              cases hl : leadsF (cs, ns, os, fs, ls, ks) nx o d with
              | true => rfl
              | false => rw [passR_iff.2 hl] at hj'; omega
            have e : passR (cs, ns, os, fs, ls, ks) nx o d = passL (cs, ns, os, fs, ls, ks) nx o d := if_pos hl
            refine pair_of h hl _ ?_
            rw [← e, List.getD_eq_getElem?_getD, List.getElem?_eq_getElem hj', Option.getD_some]; exact List.getElem_mem _
        rw [hpk]
        constructor
        · rintro ⟨⟨h1, h2⟩, h3⟩
          refine ⟨h1, fun y y0 hy => ?_⟩
          by_cases e : y < d
          · exact h2 y y0 e
          · have : y = d := by omega
            rw [this]; exact h3
        · rintro ⟨h1, h2⟩
          exact ⟨⟨h1, fun y y0 hy => h2 y y0 (by omega)⟩, h2 d d0 (by omega)⟩
    · simp only
      rw [hb2, hb1]
      have ed : d = fs.length := by have h : d ≤ (fs.length : Int) := d1; omega
      constructor
      · rintro ⟨h1, h2⟩ x e x0 hx e0 e1
        by_cases g : x < o
        · exact h1 x e x0 g e0 e1
        · have : x = o := by omega
          rw [this]; exact h2 e e0 (by rw [ed]; exact e1)
      · intro h
        exact ⟨fun x e x0 hx e0 e1 => h x e x0 (by omega) e0 e1, fun y y0 hy => h o y o0 (by omega) y0 (by rw [ed] at hy; exact hy)⟩
  · have eo : o = fs.length := by have h : o ≤ (fs.length : Int) := o1; omega
    have hSO := L.ok (t := 0) (by omega) (by omega)
    have key : b1 = false ↔ allSafe (cs, ns, os, fs, ls, ks) (cs2, ns2, os2, gs, hs, ks2) nx mx = true := by
      rw [hb1, allSafe_iff]
      exact ⟨fun h x e x0 hx => h x e x0 (by rw [eo]; exact hx), fun h x e x0 hx => h x e x0 (by rw [eo] at hx; exact hx)⟩
    unfold safeE
    rw [if_pos hSO]
    cases b1 with
    | false => rw [if_pos (key.1 rfl)]; exact ⟨rfl, rfl⟩
    | true => rw [if_neg (fun h => by have := key.2 h; cases this)]; exact ⟨rfl, rfl⟩
end Go.Eng.Sv
