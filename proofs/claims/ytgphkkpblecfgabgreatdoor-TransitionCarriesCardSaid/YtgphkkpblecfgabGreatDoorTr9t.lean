/- PeTr9t -/
import Derived.Test.YtgphkkpblecfgabGreatDoorY22
import Derived.Test.YtgphkkpblecfgabGreatDoorTrWt
set_option linter.unusedSimpArgs false
set_option linter.unusedVariables false
set_option maxRecDepth 100000
noncomputable section
namespace Go.Eng.Sv
open Go.Proofs
def stopG (l : List Stop) (i : Int) : Stop := l.getD i.toNat (0, 0, 0, 0)
def placeE (n : Net) (nx : List (List Int)) (x : ByteArray × Int × Int × Int × Int) (t : Int) : Int := if postOk n x t = true ∧ usF n nx = true then WayE n nx x.2.1 x.2.2.1 x.2.2.2.2 else 1
def placeS (n : Net) (nx : List (List Int)) (x : ByteArray × Int × Int × Int × Int) (t : Int) : Stop := if placeE n nx x t = 0 then stopG (WayL n nx x.2.1 x.2.2.1 x.2.2.2.2) (sIdx t (WayL n nx x.2.1 x.2.2.1 x.2.2.2.2)) else (0, 0, 0, 0)
def carOk (n m : Net) (nx mx : List (List Int)) (t : Int) (x : ByteArray × Int × Int × Int × Int) : Bool := postOk n x t && (alikeO n.2.2.2.1 m.2.2.2.1 && usF n nx && usF m mx)
def oldW (n : Net) (nx : List (List Int)) (x : ByteArray × Int × Int × Int × Int) : List Stop := WayL n nx x.2.1 x.2.2.1 x.2.2.2.2
def oldI (n : Net) (nx : List (List Int)) (t : Int) (x : ByteArray × Int × Int × Int × Int) : Int := sIdx t (oldW n nx x)
def oldS (n : Net) (nx : List (List Int)) (t : Int) (x : ByteArray × Int × Int × Int × Int) : Stop := stopG (oldW n nx x) (oldI n nx t x)
def newT (n : Net) (nx : List (List Int)) (t : Int) (x : ByteArray × Int × Int × Int × Int) : Int := max (oldS n nx t x).2.1 t
def newW (n m : Net) (nx mx : List (List Int)) (t : Int) (x : ByteArray × Int × Int × Int × Int) : List Stop := WayL m mx (oldS n nx t x).1 x.2.2.1 (newT n nx t x)
def newE (n m : Net) (nx mx : List (List Int)) (t : Int) (x : ByteArray × Int × Int × Int × Int) : Int := WayE m mx (oldS n nx t x).1 x.2.2.1 (newT n nx t x)
def carryE (n m : Net) (nx mx : List (List Int)) (t : Int) (x : ByteArray × Int × Int × Int × Int) : Int := if carOk n m nx mx t x = true then if WayE n nx x.2.1 x.2.2.1 x.2.2.2.2 = 0 then newE n m nx mx t x else WayE n nx x.2.1 x.2.2.1 x.2.2.2.2 else 1
def setArr (l : List Stop) (i : Int) (v : Int) : List Stop := l.set i.toNat ((l.getD i.toNat (0, 0, 0, 0)).1, v, (l.getD i.toNat (0, 0, 0, 0)).2.2)
def carryL (n m : Net) (nx mx : List (List Int)) (t : Int) (x : ByteArray × Int × Int × Int × Int) : List Stop := if carryE n m nx mx t x = 0 then setArr ((oldW n nx x).take (oldI n nx t x).toNat ++ newW n m nx mx t x) (oldI n nx t x) (oldS n nx t x).2.1 else []
def pairOk (n m : Net) (nx mx : List (List Int)) (o d : Int) : Bool := !leadsF n nx o d || safeW n m nx mx o d
def safeOk (n m : Net) (nx mx : List (List Int)) (t : Int) : Bool := ((tim20 t && alikeO n.2.2.2.1 m.2.2.2.1) && usF n nx) && usF m mx
def allSafe (n m : Net) (nx mx : List (List Int)) : Bool := (List.range n.2.2.2.1.length).all fun o => (List.range n.2.2.2.1.length).all fun d => pairOk n m nx mx o d
def safeE (n m : Net) (nx mx : List (List Int)) (t : Int) : Int := if safeOk n m nx mx t = true then if allSafe n m nx mx = true then 0 else 170 else 1
def safeK (n m : Net) (nx mx : List (List Int)) (k : Int) : Prop := 0 ≤ k ∧ k ≤ n.2.2.2.1.length ∧ ∀ o d : Int, 0 ≤ o → o < k → 0 ≤ d → d < n.2.2.2.1.length → pairOk n m nx mx o d = true
def safeJ (n m : Net) (nx mx : List (List Int)) (o k : Int) : Prop := 0 ≤ k ∧ k ≤ n.2.2.2.1.length ∧ ∀ d : Int, 0 ≤ d → d < k → pairOk n m nx mx o d = true
def netFits (n : Net) (nx : List (List Int)) : Prop := oFits n.2.2.2.1 ∧ fitsM nx
def ccK (args : List AV) (m : Mem) : Option CRes := match args, m with
  | [.dat (.sl (.sl (.pair (.int .i64) (.pair (.int .i64) (.pair (.int .i64) (.int .i64)))))) [a, b]], [] => some ⟨ccP a b, .buf 0 (D.len (D.app a b)), [(0, .buf 47 Stp (D.app a b) [])]⟩
  | _, _ => none
def KR13 : Kt := kOr 43 ccK <|
  kOr 47 (dataK [.ptr N, .ptr Pl, .ptr N, .ptr Pl, .val I, .val I] (fun (n, p, m, q, o, to, _) => (passP n p.2.2.1 o to ∧ passP m q.2.2.1 o to ∧ sameLen n m) ∧ safeW n m p.2.2.1 q.2.2.1 o to = true) fun _ => .tup []) KR12
def KP13 : KPt := pOr 29 (dataP [.val .bool] fun (b, _) => ⟨True, b, errV 40 1⟩) <|
  pOr 28 (dataP [.ptr N, .row Po, .val I] fun (n, x, t, _) => ⟨True, postOk n x t, errV 40 1⟩) <|
  pOr 31 (dataP [.row N, .row Pl, .val I, .val I, .val I] fun (n, p, o, to, t, _) => ⟨fitsM p.2.2.1, isZero (WayE n p.2.2.1 o to t), errV 40 (WayE n p.2.2.1 o to t)⟩) <|
  pOr 47 (dataP [.ptr N, .ptr Pl, .ptr N, .ptr Pl, .val I, .val I] fun (n, p, m, q, o, to, _) => ⟨passP n p.2.2.1 o to ∧ passP m q.2.2.1 o to ∧ sameLen n m, safeW n m p.2.2.1 q.2.2.1 o to, errV 40 170⟩) Go.Eng.noP
def c13 : Cfg := mkp KR13 (fun _ => false) KP13 (fun f => f == 29 || f == 28 || f == 31 || f == 47)
def safeA (n m : Net) (nx mx : List (List Int)) : Ann := ⟨fun id s => match id with
  | 4 => some { α := Int, inv := fun k => safeK n m nx mx k, st := fun k => put (flat s) [(29, .dat I k)], μ := fun k => D.nat (D.sub (D.ilen n.2.2.2.1) k) }
  | 7 => match s.sig.T 11 with
    | .dat (.int .i64) o => some { α := Int, inv := fun k => safeJ n m nx mx o k, st := fun k => put (flat s) [(35, .dat I k)], μ := fun k => D.nat (D.sub (D.ilen n.2.2.2.1) k) }
    | _ => none
  | _ => none, fun _ _ => none, fun _ _ => none⟩
theorem vc_tSafe (t : Int) (p1 p2 : Int) (nx : List (List Int)) (dy : List (List (List Int))) (cs : LC) (ns os : LB) (fs : List Off) (ls : List Line) (ks : List Cla) (q1 q2 : Int) (mx : List (List Int)) (dz : List (List (List Int))) (cs2 : List (Int × List Bool × List Int)) (ns2 os2 : List ByteArray) (gs : List Off) (hs : List Line) (ks2 : List Cla) (hvc :
 let c1 := (fs, ls, ks);
 let c2 := (cs, ns, os, c1);
 let c3 := (cs2, ns2, os2, gs, hs, ks2);
 let c4 := D.cnd (tim20 t) (alikeO fs gs) false;
 let c5 := D.cnd c4 (usF c2 nx) false;
 let c6 := D.cnd c5 (usF c3 mx) false;
 let c7 := safeE c2 c3 nx mx t;
 let c8 := (p1, p2, nx, dy);
 let c9 := (q1, q2, mx, dz);
 let c10 := D.ilen fs; (false = false ∧ true = true) ∧ (netFits c2 nx ∧ netFits c3 mx → true = true ∧ True ∧ (tim20 t = true → oFits fs) ∧ (D.and true (tim20 t)
  = true → tim20 t = true) ∧ (c4 = true → fitsM nx) ∧ (D.and true c4 = true → c4 = true) ∧ (c5 = true → fitsM mx) ∧ (D.and true c5 = true → c5 = true) ∧ (true =
  true → True ∧ (c6 = false → true = true ∧ true = true ∧ (D.not false = true → True ∧ 1 = 1 ∧ 0 = 0 ∧ 1 = 1 ∧ 0 = 0 ∧ (1 : Int) = c7 ∧ True) ∧ (D.not false =
  false → 1 = 1 ∧ 0 = 0 ∧ (0 : Int) = c7 ∧ True))) ∧ ((true = true → c6 = true) → (True ∧ c6 = true) ∧ (∃ x, safeK c2 c3 nx mx x ∧ cs = cs ∧ ns = ns ∧ os = os ∧
  fs = fs ∧ ls = ls ∧ ks = ks ∧ p1 = p1 ∧ p2 = p2 ∧ nx = nx ∧ dy = dy ∧ cs2 = cs2 ∧ ns2 = ns2 ∧ os2 = os2 ∧ gs = gs ∧ hs = hs ∧ ks2 = ks2 ∧ q1 = q1 ∧ q2 = q2 ∧
  mx = mx ∧ dz = dz ∧ t = t ∧ c2 = c2 ∧ c8 = c8 ∧ c3 = c3 ∧ c9 = c9 ∧ 1 = 1 ∧ 0 = 0 ∧ 0 = 0 ∧ 1 = 1 ∧ 0 = 0 ∧ 0 = 0 ∧ t = t ∧ tim20 t = tim20 t ∧ tim20 t = tim20
  t ∧ c4 = c4 ∧ c4 = c4 ∧ c5 = c5 ∧ c5 = c5 ∧ c6 = c6 ∧ c1 = c1 ∧ fs = fs ∧ c10 = c10 ∧ (0 : Int) = x ∧ (0 : Int) = (0 : Int) ∧ 1 = 1 ∧ 0 = 0 ∧ 0 = 0 ∧ True) ∧ ∀
  (x : Int),
 let c11 := D.add x (1 : Int); safeK c2 c3 nx mx x → (D.lt x c10 = true → (∃ x_3, safeJ c2 c3 nx mx x x_3 ∧ cs = cs ∧ ns = ns ∧ os = os ∧ fs = fs ∧ ls = ls ∧ ks
  = ks ∧ p1 = p1 ∧ p2 = p2 ∧ nx = nx ∧ dy = dy ∧ cs2 = cs2 ∧ ns2 = ns2 ∧ os2 = os2 ∧ gs = gs ∧ hs = hs ∧ ks2 = ks2 ∧ q1 = q1 ∧ q2 = q2 ∧ mx = mx ∧ dz = dz ∧ t =
  t ∧ c2 = c2 ∧ c8 = c8 ∧ c3 = c3 ∧ c9 = c9 ∧ 1 = 1 ∧ 0 = 0 ∧ 0 = 0 ∧ x = x ∧ 1 = 1 ∧ 0 = 0 ∧ 0 = 0 ∧ t = t ∧ tim20 t = tim20 t ∧ tim20 t = tim20 t ∧ c4 = c4 ∧
  c4 = c4 ∧ c5 = c5 ∧ c5 = c5 ∧ c6 = c6 ∧ c1 = c1 ∧ fs = fs ∧ c10 = c10 ∧ x = x ∧ D.lt x c10 = D.lt x c10 ∧ x = x ∧ c1 = c1 ∧ fs = fs ∧ c10 = c10 ∧ (0 : Int) =
  x_3 ∧ (0 : Int) = (0 : Int) ∧ 1 = 1 ∧ 0 = 0 ∧ 0 = 0 ∧ True) ∧ ∀ (x_3 : Int),
 let c12 := leadsF c2 nx x x_3;
 let c13 := safeW c2 c3 nx mx x x_3;
 let c14 := D.add x_3 (1 : Int); safeJ c2 c3 nx mx x x_3 → (D.lt x_3 c10 = true → passP c2 nx x x_3 ∧ (c12 = true → (true = true → (passP c2 nx x x_3 ∧ passP c3
  mx x x_3 ∧ sameLen c2 c3) ∧ (c13 = false → true = true ∧ true = true ∧ (D.not false = true → True ∧ 1 = 1 ∧ 0 = 0 ∧ 1 = 1 ∧ 0 = 0 ∧ (170 : Int) = c7 ∧ True) ∧
  (D.not false = false → 1 = 1 ∧ 0 = 0 ∧ (0 : Int) = c7 ∧ True))) ∧ ((true = true → c13 = true) → ((passP c2 nx x x_3 ∧ passP c3 mx x x_3 ∧ sameLen c2 c3) ∧ c13
  = true) ∧ inR IntKind.i64 c14 ∧ ∃ y, safeJ c2 c3 nx mx x y ∧ (cs = cs ∧ ns = ns ∧ os = os ∧ fs = fs ∧ ls = ls ∧ ks = ks ∧ p1 = p1 ∧ p2 = p2 ∧ nx = nx ∧ dy = dy
  ∧ cs2 = cs2 ∧ ns2 = ns2 ∧ os2 = os2 ∧ gs = gs ∧ hs = hs ∧ ks2 = ks2 ∧ q1 = q1 ∧ q2 = q2 ∧ mx = mx ∧ dz = dz ∧ t = t ∧ c2 = c2 ∧ c8 = c8 ∧ c3 = c3 ∧ c9 = c9 ∧ 1
  = 1 ∧ 0 = 0 ∧ 0 = 0 ∧ x = x ∧ 1 = 1 ∧ 0 = 0 ∧ 0 = 0 ∧ t = t ∧ tim20 t = tim20 t ∧ tim20 t = tim20 t ∧ c4 = c4 ∧ c4 = c4 ∧ c5 = c5 ∧ c5 = c5 ∧ c6 = c6 ∧ c1 = c1
  ∧ fs = fs ∧ c10 = c10 ∧ x = x ∧ D.lt x c10 = D.lt x c10 ∧ x = x ∧ c1 = c1 ∧ fs = fs ∧ c10 = c10 ∧ c14 = y ∧ (0 : Int) = (0 : Int) ∧ 1 = 1 ∧ 0 = 0 ∧ 0 = 0 ∧
  True) ∧ D.nlt (D.nat (D.sub c10 y)) (D.nat (D.sub c10 x_3)))) ∧ (c12 = false → inR IntKind.i64 c14 ∧ ∃ y, safeJ c2 c3 nx mx x y ∧ (cs = cs ∧ ns = ns ∧ os = os
  ∧ fs = fs ∧ ls = ls ∧ ks = ks ∧ p1 = p1 ∧ p2 = p2 ∧ nx = nx ∧ dy = dy ∧ cs2 = cs2 ∧ ns2 = ns2 ∧ os2 = os2 ∧ gs = gs ∧ hs = hs ∧ ks2 = ks2 ∧ q1 = q1 ∧ q2 = q2 ∧
  mx = mx ∧ dz = dz ∧ t = t ∧ c2 = c2 ∧ c8 = c8 ∧ c3 = c3 ∧ c9 = c9 ∧ 1 = 1 ∧ 0 = 0 ∧ 0 = 0 ∧ x = x ∧ 1 = 1 ∧ 0 = 0 ∧ 0 = 0 ∧ t = t ∧ tim20 t = tim20 t ∧ tim20 t
  = tim20 t ∧ c4 = c4 ∧ c4 = c4 ∧ c5 = c5 ∧ c5 = c5 ∧ c6 = c6 ∧ c1 = c1 ∧ fs = fs ∧ c10 = c10 ∧ x = x ∧ D.lt x c10 = D.lt x c10 ∧ x = x ∧ c1 = c1 ∧ fs = fs ∧ c10
  = c10 ∧ c14 = y ∧ (0 : Int) = (0 : Int) ∧ 1 = 1 ∧ 0 = 0 ∧ 0 = 0 ∧ True) ∧ D.nlt (D.nat (D.sub c10 y)) (D.nat (D.sub c10 x_3)))) ∧ (D.lt x_3 c10 = false → inR
  IntKind.i64 c11 ∧ ∃ y, safeK c2 c3 nx mx y ∧ (cs = cs ∧ ns = ns ∧ os = os ∧ fs = fs ∧ ls = ls ∧ ks = ks ∧ p1 = p1 ∧ p2 = p2 ∧ nx = nx ∧ dy = dy ∧ cs2 = cs2 ∧
  ns2 = ns2 ∧ os2 = os2 ∧ gs = gs ∧ hs = hs ∧ ks2 = ks2 ∧ q1 = q1 ∧ q2 = q2 ∧ mx = mx ∧ dz = dz ∧ t = t ∧ c2 = c2 ∧ c8 = c8 ∧ c3 = c3 ∧ c9 = c9 ∧ 1 = 1 ∧ 0 = 0 ∧
  0 = 0 ∧ 1 = 1 ∧ 0 = 0 ∧ 0 = 0 ∧ t = t ∧ tim20 t = tim20 t ∧ tim20 t = tim20 t ∧ c4 = c4 ∧ c4 = c4 ∧ c5 = c5 ∧ c5 = c5 ∧ c6 = c6 ∧ c1 = c1 ∧ fs = fs ∧ c10 = c10
  ∧ c11 = y ∧ (0 : Int) = (0 : Int) ∧ 1 = 1 ∧ 0 = 0 ∧ 0 = 0 ∧ True) ∧ D.nlt (D.nat (D.sub c10 y)) (D.nat (D.sub c10 x)))) ∧ (D.lt x c10 = false → 1 = 1 ∧ 0 = 0 ∧
  true = true ∧ true = true ∧ (D.not true = true → False) ∧ (D.not true = false → 1 = 1 ∧ 0 = 0 ∧ (0 : Int) = c7 ∧ True))))) :
    evG c13 (safeA (cs, ns, os, fs, ls, ks) (cs2, ns2, os2, gs, hs, ks2) nx mx) noAnn 17 [net cs ns os fs ls ks, .agg [.dat I p1, .dat I p2, .dat M nx, .dat (.sl M) dy], net cs2 ns2 os2 gs hs ks2, .agg [.dat I q1, .dat I q2, .dat M mx, .dat (.sl M) dz], .dat I t] ⟨netFits (cs, ns, os, fs, ls, ks) nx ∧ netFits (cs2, ns2, os2, gs, hs, ks2) mx, .dat I (safeE (cs, ns, os, fs, ls, ks) (cs2, ns2, os2, gs, hs, ks2) nx mx t), []⟩ := @of_eq _ _ (by kernel_rfl) hvc
theorem vc_tPlace (t : Int) (x1 : ByteArray) (x2 x3 x4 x5 : Int) (p1 p2 : Int) (nx : List (List Int)) (dy : List (List (List Int))) (cs : LC) (ns os : LB) (fs : List Off) (ls : List Line) (ks : List Cla) (hvc :
 let c1 := (cs, ns, os, fs, ls, ks);
 let c2 := (x1, x2, x3, x4, x5);
 let c3 := postOk c1 c2 t;
 let c4 := placeS c1 nx c2 t;
 let c5 := c4.fst;
 let c6 := c4.snd.fst;
 let c7 := placeE c1 nx c2 t;
 let c8 := usF c1 nx;
 let c9 := WayE c1 nx x2 x3 x5;
 let c10 := isZero c9;
 let c11 := WayL c1 nx x2 x3 x5;
 let c12 := sIdx t c11;
 let c13 := D.get c11 (D.nat c12) ((0 : Int), (0 : Int), (0 : Int), (0 : Int)); (false = false ∧ true = true) ∧ (netFits c1 nx → true = true ∧ (true = true →
  True ∧ (c3 = false → true = true ∧ true = true ∧ (D.not false = true → True ∧ 1 = 1 ∧ 0 = 0 ∧ 1 = 1 ∧ 0 = 0 ∧ 1 = 1 ∧ 0 = 0 ∧ 1 = 1 ∧ 0 = 0 ∧ 1 = 1 ∧ 0 = 0 ∧ 1
  = 1 ∧ 0 = 0 ∧ (0 : Int) = c5 ∧ (0 : Int) = c6 ∧ (1 : Int) = c7 ∧ True) ∧ (D.not false = false → 1 = 1 ∧ 0 = 0 ∧ 1 = 1 ∧ 0 = 0 ∧ 1 = 1 ∧ 0 = 0 ∧ (0 : Int) = c5
  ∧ (0 : Int) = c6 ∧ (0 : Int) = c7 ∧ True))) ∧ ((true = true → c3 = true) → (True ∧ c3 = true) ∧ fitsM nx ∧ (true = true → True ∧ (c8 = false → true = true ∧
  true = true ∧ (D.not false = true → True ∧ 1 = 1 ∧ 0 = 0 ∧ 1 = 1 ∧ 0 = 0 ∧ 1 = 1 ∧ 0 = 0 ∧ 1 = 1 ∧ 0 = 0 ∧ 1 = 1 ∧ 0 = 0 ∧ 1 = 1 ∧ 0 = 0 ∧ (0 : Int) = c5 ∧ (0
  : Int) = c6 ∧ (1 : Int) = c7 ∧ True) ∧ (D.not false = false → 1 = 1 ∧ 0 = 0 ∧ 1 = 1 ∧ 0 = 0 ∧ 1 = 1 ∧ 0 = 0 ∧ (0 : Int) = c5 ∧ (0 : Int) = c6 ∧ (0 : Int) = c7
  ∧ True))) ∧ ((true = true → c8 = true) → (True ∧ c8 = true) ∧ (true = true → fitsM nx ∧ (c10 = false → true = true ∧ true = true ∧ (D.not false = true → True ∧
  1 = 1 ∧ 0 = 0 ∧ 1 = 1 ∧ 0 = 0 ∧ 1 = 1 ∧ 0 = 0 ∧ 1 = 1 ∧ 0 = 0 ∧ 1 = 1 ∧ 0 = 0 ∧ 1 = 1 ∧ 0 = 0 ∧ (0 : Int) = c5 ∧ (0 : Int) = c6 ∧ c9 = c7 ∧ True) ∧ (D.not
  false = false → 1 = 1 ∧ 0 = 0 ∧ 1 = 1 ∧ 0 = 0 ∧ 1 = 1 ∧ 0 = 0 ∧ (0 : Int) = c5 ∧ (0 : Int) = c6 ∧ (0 : Int) = c7 ∧ True))) ∧ ((true = true → c10 = true) →
  (fitsM nx ∧ c10 = true) ∧ sFits c11 ∧ D.ile (0 : Int) c12 ∧ D.ilt c12 (D.ilen c11) ∧ 1 = 1 ∧ 0 = 0 ∧ 1 = 1 ∧ 1 = 1 ∧ 0 = 0 ∧ 1 = 1 ∧ 1 = 1 ∧ 0 = 0 ∧ 1 = 1 ∧ 0
  = 0 ∧ 1 = 1 ∧ 0 = 0 ∧ 1 = 1 ∧ 0 = 0 ∧ true = true ∧ true = true ∧ (D.not true = true → False) ∧ (D.not true = false → 1 = 1 ∧ 0 = 0 ∧ 1 = 1 ∧ 0 = 0 ∧ 1 = 1 ∧ 0
  = 0 ∧ c13.fst = c5 ∧ c13.snd.fst = c6 ∧ (0 : Int) = c7 ∧ True)))))) :
    evG c13 noAnn noAnn 13 [net cs ns os fs ls ks, .agg [.dat I p1, .dat I p2, .dat M nx, .dat (.sl M) dy], .agg [.dat .str x1, .dat I x2, .dat I x3, .dat I x4, .dat I x5], .dat I t] ⟨netFits (cs, ns, os, fs, ls, ks) nx, .tup [.dat I (placeS (cs, ns, os, fs, ls, ks) nx (x1, x2, x3, x4, x5) t).1, .dat I (placeS (cs, ns, os, fs, ls, ks) nx (x1, x2, x3, x4, x5) t).2.1, .dat I (placeE (cs, ns, os, fs, ls, ks) nx (x1, x2, x3, x4, x5) t)], []⟩ := @of_eq _ _ (by kernel_rfl) hvc
theorem vc_tCarry (t : Int) (x1 : ByteArray) (x2 x3 x4 x5 : Int) (p1 p2 : Int) (nx : List (List Int)) (dy : List (List (List Int))) (cs : LC) (ns os : LB) (fs : List Off) (ls : List Line) (ks : List Cla) (q1 q2 : Int) (mx : List (List Int)) (dz : List (List (List Int))) (cs2 : List (Int × List Bool × List Int)) (ns2 os2 : List ByteArray) (gs : List Off) (hs : List Line) (ks2 : List Cla) (hvc :
 let c1 := (cs, ns, os, fs, ls, ks);
 let c2 := (cs2, ns2, os2, gs, hs, ks2);
 let c3 := (x1, x2, x3, x4, x5);
 let c4 := postOk c1 c3 t;
 let c5 := carryL c1 c2 nx mx t c3;
 let c6 := carryE c1 c2 nx mx t c3;
 let c7 := D.cnd (alikeO fs gs) (usF c1 nx) false;
 let c8 := D.cnd c7 (usF c2 mx) false;
 let c9 := WayE c1 nx x2 x3 x5;
 let c10 := isZero c9;
 let c11 := WayL c1 nx x2 x3 x5;
 let c12 := sIdx t c11;
 let c13 := D.ilen c11;
 let c14 := D.nat c12;
 let c15 := ((0 : Int), (0 : Int), (0 : Int), (0 : Int));
 let c16 := D.get c11 c14 c15;
 let c17 := c16.fst;
 let c18 := c16.snd.fst;
 let c19 := D.mx c18 t;
 let c20 := WayE c2 mx c17 x3 c19;
 let c21 := isZero c20;
 let c22 := D.part c11 (0 : Int) c12;
 let c23 := WayL c2 mx c17 x3 c19;
 let c24 := D.app c22 c23;
 let c25 := D.len c24;
 let c26 := D.get c24 c14 c15;
 let c27 := c26.snd.snd;
 let c28 := D.set c24 c14 (c26.fst, c18, c27.fst, c27.snd); (false = false ∧ true = true) ∧ (netFits c1 nx ∧ netFits c2 mx → true = true ∧ (true = true → True ∧
  (c4 = false → true = true ∧ true = true ∧ (D.not false = true → True ∧ 1 = 1 ∧ 0 = 0 ∧ 1 = 1 ∧ 0 = 0 ∧ 1 = 1 ∧ 0 = 0 ∧ 1 = 1 ∧ 0 = 0 ∧ c5 = D.nil (Int × Int ×
  Int × Int) ∧ (1 : Int) = c6 ∧ True) ∧ (D.not false = false → 1 = 1 ∧ 0 = 0 ∧ 1 = 1 ∧ 0 = 0 ∧ c5 = D.nil (Int × Int × Int × Int) ∧ (0 : Int) = c6 ∧ True))) ∧
  ((true = true → c4 = true) → (True ∧ c4 = true) ∧ oFits fs ∧ (alikeO fs gs = true → fitsM nx) ∧ (D.and true (alikeO fs gs) = true → alikeO fs gs = true) ∧ (c7
  = true → fitsM mx) ∧ (D.and true c7 = true → c7 = true) ∧ (true = true → True ∧ (c8 = false → true = true ∧ true = true ∧ (D.not false = true → True ∧ 1 = 1 ∧
  0 = 0 ∧ 1 = 1 ∧ 0 = 0 ∧ 1 = 1 ∧ 0 = 0 ∧ 1 = 1 ∧ 0 = 0 ∧ c5 = D.nil (Int × Int × Int × Int) ∧ (1 : Int) = c6 ∧ True) ∧ (D.not false = false → 1 = 1 ∧ 0 = 0 ∧ 1
  = 1 ∧ 0 = 0 ∧ c5 = D.nil (Int × Int × Int × Int) ∧ (0 : Int) = c6 ∧ True))) ∧ ((true = true → c8 = true) → (True ∧ c8 = true) ∧ (true = true → fitsM nx ∧ (c10
  = false → true = true ∧ true = true ∧ (D.not false = true → True ∧ 1 = 1 ∧ 0 = 0 ∧ 1 = 1 ∧ 0 = 0 ∧ 1 = 1 ∧ 0 = 0 ∧ 1 = 1 ∧ 0 = 0 ∧ c5 = D.nil (Int × Int × Int
  × Int) ∧ c9 = c6 ∧ True) ∧ (D.not false = false → 1 = 1 ∧ 0 = 0 ∧ 1 = 1 ∧ 0 = 0 ∧ c5 = D.nil (Int × Int × Int × Int) ∧ (0 : Int) = c6 ∧ True))) ∧ ((true = true
  → c10 = true) → (fitsM nx ∧ c10 = true) ∧ sFits c11 ∧ D.ile (0 : Int) c12 ∧ D.ilt c12 c13 ∧ 1 = 1 ∧ 0 = 0 ∧ 1 = 1 ∧ 1 = 1 ∧ 0 = 0 ∧ 1 = 1 ∧ 1 = 1 ∧ 0 = 0 ∧
  (true = true → fitsM mx ∧ (c21 = false → true = true ∧ true = true ∧ (D.not false = true → True ∧ 1 = 1 ∧ 0 = 0 ∧ 1 = 1 ∧ 0 = 0 ∧ 1 = 1 ∧ 0 = 0 ∧ 1 = 1 ∧ 0 = 0
  ∧ c5 = D.nil (Int × Int × Int × Int) ∧ c20 = c6 ∧ True) ∧ (D.not false = false → 1 = 1 ∧ 0 = 0 ∧ 1 = 1 ∧ 0 = 0 ∧ c5 = D.nil (Int × Int × Int × Int) ∧ (0 : Int)
  = c6 ∧ True))) ∧ ((true = true → c21 = true) → (fitsM mx ∧ c21 = true) ∧ D.ile (0 : Int) (0 : Int) ∧ D.ile (0 : Int) c12 ∧ D.ile c12 c13 ∧ ccP c22 c23 ∧ 1 = 1
  ∧ 1 = 1 ∧ 0 = 0 ∧ c25 = c25 ∧ D.ile (0 : Int) c12 ∧ D.ilt c12 (D.ofN c25) ∧ c25 = c25 ∧ c25 = c25 ∧ 1 = 1 ∧ 0 = 0 ∧ D.len c28 = c25 ∧ 1 = 1 ∧ 0 = 0 ∧ true =
  true ∧ true = true ∧ (D.not true = true → False) ∧ (D.not true = false → 1 = 1 ∧ 0 = 0 ∧ 1 = 1 ∧ 0 = 0 ∧ D.len c28 = c25 ∧ c28 = c5 ∧ (0 : Int) = c6 ∧
  True))))))) :
    evG c13 noAnn noAnn 15 [net cs ns os fs ls ks, .agg [.dat I p1, .dat I p2, .dat M nx, .dat (.sl M) dy], net cs2 ns2 os2 gs hs ks2, .agg [.dat I q1, .dat I q2, .dat M mx, .dat (.sl M) dz], .dat I t, .agg [.dat .str x1, .dat I x2, .dat I x3, .dat I x4, .dat I x5]] ⟨netFits (cs, ns, os, fs, ls, ks) nx ∧ netFits (cs2, ns2, os2, gs, hs, ks2) mx, .tup [.dat (.sl Stp) (carryL (cs, ns, os, fs, ls, ks) (cs2, ns2, os2, gs, hs, ks2) nx mx t (x1, x2, x3, x4, x5)), .dat I (carryE (cs, ns, os, fs, ls, ks) (cs2, ns2, os2, gs, hs, ks2) nx mx t (x1, x2, x3, x4, x5))], []⟩ := @of_eq _ _ (by kernel_rfl) hvc
theorem ccK_ok : ∀ args m c, ccK args m = some c → SoundC Tryz.prog G0 43 args m c := by
  intro args m c h
  unfold ccK at h
  split at h
  · cases h; exact t_concat _ _
  · cases h
theorem KSR13 : KSound Tryz.prog G0 KR13 := kOr_ok ccK_ok <| kOr_ok (dataK_ok fun ((cs, ns, os, fs, ls, ks), (p1, p2, nx, dy), m, q, o, to, _) => (t_dsafe o to m q p1 p2 nx dy cs ns os fs ls ks).1) KSR12
theorem KP13_ok : KPSound Tryz.prog G0 KP13 := pOr_ok (dataP_ok fun (b, _) => (t_tdemand b).2) <| pOr_ok (dataP_ok fun ((cs, ns, os, fs, ls, ks), (e1, e2, e3, e4, e5), t, _) => (t_tdpost e1 e2 e3 e4 e5 t cs ns os fs ls ks).2) <|
  pOr_ok (dataP_ok fun ((cs, ns, os, fs, ls, ks), (p1, p2, nx, dy), o, to, t, _) => (t_tway o to t p1 p2 nx dy cs ns os fs ls ks).2) <| pOr_ok (dataP_ok fun ((cs, ns, os, fs, ls, ks), (p1, p2, nx, dy), m, q, o, to, _) => (t_dsafe o to m q p1 p2 nx dy cs ns os fs ls ks).2) noP_ok
theorem t_tSafe (t : Int) (p1 p2 : Int) (nx : List (List Int)) (dy : List (List (List Int))) (cs : LC) (ns os : LB) (fs : List Off) (ls : List Line) (ks : List Cla) (q1 q2 : Int) (mx : List (List Int)) (dz : List (List (List Int))) (cs2 : List (Int × List Bool × List Int)) (ns2 os2 : List ByteArray) (gs : List Off) (hs : List Line) (ks2 : List Cla) : SoundC Tryz.prog G0 17 [net cs ns os fs ls ks, .agg [.dat I p1, .dat I p2, .dat M nx, .dat (.sl M) dy], net cs2 ns2 os2 gs hs ks2, .agg [.dat I q1, .dat I q2, .dat M mx, .dat (.sl M) dz], .dat I t] [] ⟨netFits (cs, ns, os, fs, ls, ks) nx ∧ netFits (cs2, ns2, os2, gs, hs, ks2) mx, .dat I (safeE (cs, ns, os, fs, ls, ks) (cs2, ns2, os2, gs, hs, ks2) nx mx t), []⟩ := by
  refine sound_of_evG (c := c13) KSR13 KI0s hm KP13_ok (vc_tSafe t p1 p2 nx dy cs ns os fs ls ks q1 q2 mx dz cs2 ns2 os2 gs hs ks2 ⟨⟨rfl, rfl⟩, fun hp => ?_⟩)
  simp only [cnd_or, cnd_and, D.and, D.or, D.not, Bool.true_and, Bool.and_true, Bool.false_or, Bool.or_false, eq_self, true_and, and_true, imp_self, implies_true, Bool.not_eq_true', Bool.or_eq_true, Bool.or_eq_false_iff, Bool.not_eq_false', Bool.and_eq_true, Bool.and_eq_false_imp, Bool.not_not, forall_const, exists_eq_right, exists_eq_right', exists_eq_left, exists_eq_left', Int.toNat_natCast, Nat.zero_add, Nat.mul_one, Int.ofNat_eq_natCast, D.nil, D.eq, D.ne, D.lt, D.gt, D.le, D.ge, D.beq, D.ilen, D.slen, D.ile, D.ilt, D.ine, D.nle, D.nlt, D.sub, D.add, D.mul, D.neg, D.nat, D.ofN, D.len, D.nadd, D.nmul, D.get, D.mn, D.mx, D.set, D.app, D.tail, D.part, D.seg, D.rep, D.at2, decide_eq_true_eq, decide_eq_false_iff_not, beq_iff_eq, bne_iff_ne, beq_eq_false_iff_ne, bne_eq_false_iff_eq, D.wrap, D.allNil]
  obtain ⟨⟨hn1, hn2⟩, ⟨hm1, hm2⟩⟩ := hp
  have hn1 : fs.length ≤ 1000000 := hn1
  have eo : safeOk (cs, ns, os, fs, ls, ks) (cs2, ns2, os2, gs, hs, ks2) nx mx t = (((tim20 t && alikeO fs gs) && usF (cs, ns, os, fs, ls, ks) nx) && usF (cs2, ns2, os2, gs, hs, ks2) mx) := rfl
  have two : ∀ {p q : Prop}, p → (p ∧ (false = true → q)) := fun h => ⟨h, fun h => by cases h⟩
  refine ⟨fun _ => hn1, fun _ => hn2, fun _ => hm2, fun h => two ?_, fun hk => ⟨hk, ⟨Int.le_refl _, Int.natCast_nonneg _, fun o d _ h => by omega⟩, fun x hx => ⟨fun hlt => ⟨⟨Int.le_refl _, Int.natCast_nonneg _, fun d _ h => by omega⟩, fun y hy => ⟨fun hlt2 => ?_, fun hge => ?_⟩⟩, fun hge => ⟨(fun h => by cases h), ?_⟩⟩⟩⟩
  · have : safeOk (cs, ns, os, fs, ls, ks) (cs2, ns2, os2, gs, hs, ks2) nx mx t = false := by
      rw [eo]
      cases h1 : tim20 t <;> cases h2 : alikeO fs gs <;> cases h3 : usF (cs, ns, os, fs, ls, ks) nx <;> simp
      exact h ⟨⟨h1, h2⟩, h3⟩
    unfold safeE; rw [this]; rfl
  · have hSO : safeOk (cs, ns, os, fs, ls, ks) (cs2, ns2, os2, gs, hs, ks2) nx mx t = true := by rw [eo, hk.1.1.1, hk.1.1.2, hk.1.2, hk.2]; rfl
    have l0 : fs.length = gs.length := by
      have := hk.1.1.2
      unfold alikeO at this
      simp only [Bool.and_eq_true, decide_eq_true_eq] at this
      omega
    have us : ∀ (n : Net) (nx : List (List Int)), usF n nx = true → soundF n = true ∧ tabF n nx = true := fun n nx h => by
      unfold usF at h; simpa using h
    obtain ⟨s1, s2⟩ := us _ _ hk.1.2
    obtain ⟨s3, s4⟩ := us _ _ hk.2
    have hx0 := hx.1
    have hy0 := hy.1
    have pn : passP (cs, ns, os, fs, ls, ks) nx x y := ⟨s1, s2, hx0, hlt, hy0, hlt2⟩
    have pm : passP (cs2, ns2, os2, gs, hs, ks2) mx x y := ⟨s3, s4, hx0, by show x < (gs.length : Int); omega, hy0, by show y < (gs.length : Int); omega⟩
    have sl : sameLen (cs, ns, os, fs, ls, ks) (cs2, ns2, os2, gs, hs, ks2) := l0
    have next : pairOk (cs, ns, os, fs, ls, ks) (cs2, ns2, os2, gs, hs, ks2) nx mx x y = true → ∃ z, safeJ (cs, ns, os, fs, ls, ks) (cs2, ns2, os2, gs, hs, ks2) nx mx x z ∧ y + 1 = z ∧ ((fs.length : Int) - z).toNat < ((fs.length : Int) - y).toNat := fun hpk => by
      refine ⟨y + 1, ⟨by omega, by show y + 1 ≤ (fs.length : Int); omega, fun d d0 d1 => ?_⟩, rfl, by omega⟩
      by_cases e : d < y
      · exact hy.2.2 d d0 e
      · have : d = y := by omega
        rw [this]; exact hpk
    refine ⟨pn, fun hl => ⟨⟨⟨pn, pm, sl⟩, fun hw => two ?_⟩, fun hw => ⟨⟨⟨pn, pm, sl⟩, hw⟩, in_big (by omega), next ?_⟩⟩, fun hl => ⟨in_big (by omega), next ?_⟩⟩
    · have hb : allSafe (cs, ns, os, fs, ls, ks) (cs2, ns2, os2, gs, hs, ks2) nx mx = false := by
        refine List.all_eq_false.2 ⟨x.toNat, List.mem_range.2 (by show x.toNat < fs.length; omega), ?_⟩
        rw [Bool.not_eq_true]
        refine List.all_eq_false.2 ⟨y.toNat, List.mem_range.2 (by show y.toNat < fs.length; omega), ?_⟩
        rw [Int.toNat_of_nonneg hx0, Int.toNat_of_nonneg hy0]
        unfold pairOk
        rw [hl, hw]; exact Bool.false_ne_true
      unfold safeE; rw [hSO, hb]; rfl
    · unfold pairOk; rw [hw, Bool.or_true]
    · unfold pairOk; rw [hl]; rfl
  · have hx0 := hx.1
    refine ⟨in_big (by omega), x + 1, ⟨by omega, by show x + 1 ≤ (fs.length : Int); omega, fun o d o0 o1 d0 d1 => ?_⟩, rfl, by omega⟩
    by_cases e : o < x
    · exact hx.2.2 o d o0 e d0 d1
    · have : o = x := by omega
      rw [this]; exact hy.2.2 d d0 (by have h : d < (fs.length : Int) := d1; omega)
  · have hSO : safeOk (cs, ns, os, fs, ls, ks) (cs2, ns2, os2, gs, hs, ks2) nx mx t = true := by rw [eo, hk.1.1.1, hk.1.1.2, hk.1.2, hk.2]; rfl
    have hb : allSafe (cs, ns, os, fs, ls, ks) (cs2, ns2, os2, gs, hs, ks2) nx mx = true := by
      refine List.all_eq_true.2 fun o ho => List.all_eq_true.2 fun d hd => ?_
      have ho : o < fs.length := List.mem_range.1 ho
      have hd : d < fs.length := List.mem_range.1 hd
      exact hx.2.2 o d (by omega) (by omega) (by omega) (by show (d : Int) < (fs.length : Int); omega)
    unfold safeE; rw [hSO, hb]; rfl
theorem t_tPlace (t : Int) (x1 : ByteArray) (x2 x3 x4 x5 : Int) (p1 p2 : Int) (nx : List (List Int)) (dy : List (List (List Int))) (cs : LC) (ns os : LB) (fs : List Off) (ls : List Line) (ks : List Cla) : SoundC Tryz.prog G0 13 [net cs ns os fs ls ks, .agg [.dat I p1, .dat I p2, .dat M nx, .dat (.sl M) dy], .agg [.dat .str x1, .dat I x2, .dat I x3, .dat I x4, .dat I x5], .dat I t] [] ⟨netFits (cs, ns, os, fs, ls, ks) nx, .tup [.dat I (placeS (cs, ns, os, fs, ls, ks) nx (x1, x2, x3, x4, x5) t).1, .dat I (placeS (cs, ns, os, fs, ls, ks) nx (x1, x2, x3, x4, x5) t).2.1, .dat I (placeE (cs, ns, os, fs, ls, ks) nx (x1, x2, x3, x4, x5) t)], []⟩ := by
  refine sound_of_evG (c := c13) KSR13 KI0s hm KP13_ok (vc_tPlace t x1 x2 x3 x4 x5 p1 p2 nx dy cs ns os fs ls ks ⟨⟨rfl, rfl⟩, fun hp => ?_⟩)
  simp only [cnd_or, cnd_and, D.and, D.or, D.not, Bool.true_and, Bool.and_true, Bool.false_or, Bool.or_false, eq_self, true_and, and_true, imp_self, implies_true, Bool.not_eq_true', Bool.or_eq_true, Bool.or_eq_false_iff, Bool.not_eq_false', Bool.and_eq_true, Bool.and_eq_false_imp, Bool.not_not, forall_const, exists_eq_right, exists_eq_right', exists_eq_left, exists_eq_left', Int.toNat_natCast, Nat.zero_add, Nat.mul_one, Int.ofNat_eq_natCast, D.nil, D.eq, D.ne, D.lt, D.gt, D.le, D.ge, D.beq, D.ilen, D.slen, D.ile, D.ilt, D.ine, D.nle, D.nlt, D.sub, D.add, D.mul, D.neg, D.nat, D.ofN, D.len, D.nadd, D.nmul, D.get, D.mn, D.mx, D.set, D.app, D.tail, D.part, D.seg, D.rep, D.at2, decide_eq_true_eq, decide_eq_false_iff_not, beq_iff_eq, bne_iff_ne, beq_eq_false_iff_ne, bne_eq_false_iff_eq, D.wrap, D.allNil]
  obtain ⟨hn1, hn2⟩ := hp
  have two : ∀ {p q : Prop}, p → (p ∧ (false = true → q)) := fun h => ⟨h, fun h => by cases h⟩
  have bad : ∀ e, placeE (cs, ns, os, fs, ls, ks) nx (x1, x2, x3, x4, x5) t = e → e ≠ 0 → 0 = (placeS (cs, ns, os, fs, ls, ks) nx (x1, x2, x3, x4, x5) t).1 ∧ 0 = (placeS (cs, ns, os, fs, ls, ks) nx (x1, x2, x3, x4, x5) t).2.1 ∧ e = placeE (cs, ns, os, fs, ls, ks) nx (x1, x2, x3, x4, x5) t := fun e he h0 => by
    have : placeS (cs, ns, os, fs, ls, ks) nx (x1, x2, x3, x4, x5) t = (0, 0, 0, 0) := if_neg (by rw [he]; exact h0)
    rw [this]; exact ⟨rfl, rfl, he.symm⟩
  refine ⟨fun h => two (bad 1 (if_neg (by rw [h]; simp)) (by omega)), fun h => ⟨h, hn2, fun h2 => two (bad 1 (if_neg (by rw [h2]; simp)) (by omega)), fun h2 => ?_⟩⟩
  have hE : placeE (cs, ns, os, fs, ls, ks) nx (x1, x2, x3, x4, x5) t = WayE (cs, ns, os, fs, ls, ks) nx x2 x3 x5 := if_pos ⟨h, h2⟩
  refine ⟨h2, ⟨hn2, fun hz => two (bad _ hE (isZero_not.1 hz))⟩, fun hz => ?_⟩
  have hz0 := isZero_iff.1 hz
  obtain ⟨_, hw, hl⟩ := Way_is hz0
  obtain ⟨i, e1, e2, _⟩ := hw.idx t
  have hS : placeS (cs, ns, os, fs, ls, ks) nx (x1, x2, x3, x4, x5) t = stopG (WayL (cs, ns, os, fs, ls, ks) nx x2 x3 x5) (sIdx t (WayL (cs, ns, os, fs, ls, ks) nx x2 x3 x5)) := if_pos (by rw [hE]; exact hz0)
  rw [hS, hE, hz0]
  exact ⟨⟨hn2, rfl⟩, by show _ ≤ 1000000; omega, by omega, by omega, (fun h => by cases h), rfl, rfl, rfl⟩
theorem t_tCarry (t : Int) (x1 : ByteArray) (x2 x3 x4 x5 : Int) (p1 p2 : Int) (nx : List (List Int)) (dy : List (List (List Int))) (cs : LC) (ns os : LB) (fs : List Off) (ls : List Line) (ks : List Cla) (q1 q2 : Int) (mx : List (List Int)) (dz : List (List (List Int))) (cs2 : List (Int × List Bool × List Int)) (ns2 os2 : List ByteArray) (gs : List Off) (hs : List Line) (ks2 : List Cla) : SoundC Tryz.prog G0 15 [net cs ns os fs ls ks, .agg [.dat I p1, .dat I p2, .dat M nx, .dat (.sl M) dy], net cs2 ns2 os2 gs hs ks2, .agg [.dat I q1, .dat I q2, .dat M mx, .dat (.sl M) dz], .dat I t, .agg [.dat .str x1, .dat I x2, .dat I x3, .dat I x4, .dat I x5]] [] ⟨netFits (cs, ns, os, fs, ls, ks) nx ∧ netFits (cs2, ns2, os2, gs, hs, ks2) mx, .tup [.dat (.sl Stp) (carryL (cs, ns, os, fs, ls, ks) (cs2, ns2, os2, gs, hs, ks2) nx mx t (x1, x2, x3, x4, x5)), .dat I (carryE (cs, ns, os, fs, ls, ks) (cs2, ns2, os2, gs, hs, ks2) nx mx t (x1, x2, x3, x4, x5))], []⟩ := by
  refine sound_of_evG (c := c13) KSR13 KI0s hm KP13_ok (vc_tCarry t x1 x2 x3 x4 x5 p1 p2 nx dy cs ns os fs ls ks q1 q2 mx dz cs2 ns2 os2 gs hs ks2 ⟨⟨rfl, rfl⟩, fun hp => ?_⟩)
  simp only [cnd_or, cnd_and, D.and, D.or, D.not, Bool.true_and, Bool.and_true, Bool.false_or, Bool.or_false, eq_self, true_and, and_true, imp_self, implies_true, Bool.not_eq_true', Bool.or_eq_true, Bool.or_eq_false_iff, Bool.not_eq_false', Bool.and_eq_true, Bool.and_eq_false_imp, Bool.not_not, forall_const, exists_eq_right, exists_eq_right', exists_eq_left, exists_eq_left', Int.toNat_natCast, Nat.zero_add, Nat.mul_one, Int.ofNat_eq_natCast, D.nil, D.eq, D.ne, D.lt, D.gt, D.le, D.ge, D.beq, D.ilen, D.slen, D.ile, D.ilt, D.ine, D.nle, D.nlt, D.sub, D.add, D.mul, D.neg, D.nat, D.ofN, D.len, D.nadd, D.nmul, D.get, D.mn, D.mx, D.set, D.app, D.tail, D.part, D.seg, D.rep, D.at2, decide_eq_true_eq, decide_eq_false_iff_not, beq_iff_eq, bne_iff_ne, beq_eq_false_iff_ne, bne_eq_false_iff_eq, D.wrap, D.allNil]
  obtain ⟨⟨hn1, hn2⟩, ⟨hm1, hm2⟩⟩ := hp
  have two : ∀ {p q : Prop}, p → (p ∧ (false = true → q)) := fun h => ⟨h, fun h => by cases h⟩
  have bad : ∀ e, carryE (cs, ns, os, fs, ls, ks) (cs2, ns2, os2, gs, hs, ks2) nx mx t (x1, x2, x3, x4, x5) = e → e ≠ 0 → carryL (cs, ns, os, fs, ls, ks) (cs2, ns2, os2, gs, hs, ks2) nx mx t (x1, x2, x3, x4, x5) = [] ∧ e = carryE (cs, ns, os, fs, ls, ks) (cs2, ns2, os2, gs, hs, ks2) nx mx t (x1, x2, x3, x4, x5) := fun e he h0 => ⟨if_neg (by rw [he]; exact h0), he.symm⟩
  have eo : carOk (cs, ns, os, fs, ls, ks) (cs2, ns2, os2, gs, hs, ks2) nx mx t (x1, x2, x3, x4, x5) = (postOk (cs, ns, os, fs, ls, ks) (x1, x2, x3, x4, x5) t && (alikeO fs gs && usF (cs, ns, os, fs, ls, ks) nx && usF (cs2, ns2, os2, gs, hs, ks2) mx)) := rfl
  refine ⟨fun h => two (bad 1 (if_neg (by rw [eo, h]; simp)) (by omega)), fun h => ⟨h, hn1, fun _ => hn2, fun _ => hm2, fun h2 => two (bad 1 (if_neg ?_) (by omega)), fun h2 => ⟨h2, ⟨hn2, fun hz => two ?_⟩, fun hz => ?_⟩⟩⟩
  · rw [eo, h]
    cases h3 : alikeO fs gs <;> cases h4 : usF (cs, ns, os, fs, ls, ks) nx <;> simp
    exact h2 ⟨h3, h4⟩
  · have hk : carOk (cs, ns, os, fs, ls, ks) (cs2, ns2, os2, gs, hs, ks2) nx mx t (x1, x2, x3, x4, x5) = true := by rw [eo, h, h2.1.1, h2.1.2, h2.2]; rfl
    have hz0 := isZero_not.1 hz
    exact bad _ (by unfold carryE; rw [if_pos hk, if_neg hz0]) hz0
  have hk : carOk (cs, ns, os, fs, ls, ks) (cs2, ns2, os2, gs, hs, ks2) nx mx t (x1, x2, x3, x4, x5) = true := by rw [eo, h, h2.1.1, h2.1.2, h2.2]; rfl
  have hz0 := isZero_iff.1 hz
  have hE : carryE (cs, ns, os, fs, ls, ks) (cs2, ns2, os2, gs, hs, ks2) nx mx t (x1, x2, x3, x4, x5) = newE (cs, ns, os, fs, ls, ks) (cs2, ns2, os2, gs, hs, ks2) nx mx t (x1, x2, x3, x4, x5) := by unfold carryE; rw [if_pos hk, if_pos hz0]
  obtain ⟨_, hw, hl⟩ := Way_is hz0
  obtain ⟨i, e1, e2, _⟩ := hw.idx t
  refine ⟨⟨hn2, hz⟩, by show _ ≤ 1000000; omega, by omega, by omega, ⟨hm2, fun hy => two (bad _ hE (isZero_not.1 hy))⟩, fun hy => ?_⟩
  have hy0 := isZero_iff.1 hy
  obtain ⟨_, hw2, hl2⟩ := Way_is hy0
  have hp2 := hw2.pos
  have hL : carryL (cs, ns, os, fs, ls, ks) (cs2, ns2, os2, gs, hs, ks2) nx mx t (x1, x2, x3, x4, x5) = setArr ((oldW (cs, ns, os, fs, ls, ks) nx (x1, x2, x3, x4, x5)).take (oldI (cs, ns, os, fs, ls, ks) nx t (x1, x2, x3, x4, x5)).toNat ++ newW (cs, ns, os, fs, ls, ks) (cs2, ns2, os2, gs, hs, ks2) nx mx t (x1, x2, x3, x4, x5)) (oldI (cs, ns, os, fs, ls, ks) nx t (x1, x2, x3, x4, x5)) (oldS (cs, ns, os, fs, ls, ks) nx t (x1, x2, x3, x4, x5)).2.1 := if_pos (hE.trans hy0)
  have hL2 : carryL (cs, ns, os, fs, ls, ks) (cs2, ns2, os2, gs, hs, ks2) nx mx t (x1, x2, x3, x4, x5) = ((WayL (cs, ns, os, fs, ls, ks) nx x2 x3 x5).take (sIdx t (WayL (cs, ns, os, fs, ls, ks) nx x2 x3 x5)).toNat ++ WayL (cs2, ns2, os2, gs, hs, ks2) mx ((WayL (cs, ns, os, fs, ls, ks) nx x2 x3 x5).getD (sIdx t (WayL (cs, ns, os, fs, ls, ks) nx x2 x3 x5)).toNat (0, 0, 0, 0)).1 x3 (max ((WayL (cs, ns, os, fs, ls, ks) nx x2 x3 x5).getD (sIdx t (WayL (cs, ns, os, fs, ls, ks) nx x2 x3 x5)).toNat (0, 0, 0, 0)).2.1 t)).set (sIdx t (WayL (cs, ns, os, fs, ls, ks) nx x2 x3 x5)).toNat ((((WayL (cs, ns, os, fs, ls, ks) nx x2 x3 x5).take (sIdx t (WayL (cs, ns, os, fs, ls, ks) nx x2 x3 x5)).toNat ++ WayL (cs2, ns2, os2, gs, hs, ks2) mx ((WayL (cs, ns, os, fs, ls, ks) nx x2 x3 x5).getD (sIdx t (WayL (cs, ns, os, fs, ls, ks) nx x2 x3 x5)).toNat (0, 0, 0, 0)).1 x3 (max ((WayL (cs, ns, os, fs, ls, ks) nx x2 x3 x5).getD (sIdx t (WayL (cs, ns, os, fs, ls, ks) nx x2 x3 x5)).toNat (0, 0, 0, 0)).2.1 t)).getD (sIdx t (WayL (cs, ns, os, fs, ls, ks) nx x2 x3 x5)).toNat (0, 0, 0, 0)).1, ((WayL (cs, ns, os, fs, ls, ks) nx x2 x3 x5).getD (sIdx t (WayL (cs, ns, os, fs, ls, ks) nx x2 x3 x5)).toNat (0, 0, 0, 0)).2.1, (((WayL (cs, ns, os, fs, ls, ks) nx x2 x3 x5).take (sIdx t (WayL (cs, ns, os, fs, ls, ks) nx x2 x3 x5)).toNat ++ WayL (cs2, ns2, os2, gs, hs, ks2) mx ((WayL (cs, ns, os, fs, ls, ks) nx x2 x3 x5).getD (sIdx t (WayL (cs, ns, os, fs, ls, ks) nx x2 x3 x5)).toNat (0, 0, 0, 0)).1 x3 (max ((WayL (cs, ns, os, fs, ls, ks) nx x2 x3 x5).getD (sIdx t (WayL (cs, ns, os, fs, ls, ks) nx x2 x3 x5)).toNat (0, 0, 0, 0)).2.1 t)).getD (sIdx t (WayL (cs, ns, os, fs, ls, ks) nx x2 x3 x5)).toNat (0, 0, 0, 0)).2.2) := hL
  have hE0 : carryE (cs, ns, os, fs, ls, ks) (cs2, ns2, os2, gs, hs, ks2) nx mx t (x1, x2, x3, x4, x5) = 0 := hE.trans hy0
  rw [hL2, hE0]
  have ez : ∀ A : List Stop, A.drop (Int.toNat 0) = A := fun A => rfl
  simp only [ez]
  generalize WayL (cs2, ns2, os2, gs, hs, ks2) mx _ _ _ = B at hl2 hp2 hy ⊢
  generalize WayL (cs, ns, os, fs, ls, ks) nx x2 x3 x5 = A at hl e1 e2 hy ⊢
  rw [e1] at hy ⊢
  have la : (A.take (i : Int).toNat ++ B).length = i + B.length := by simp; omega
  have lt : (A.take (i : Int).toNat).length ≤ 1000 := by simp; omega
  exact ⟨⟨hm2, hy⟩, by omega, by omega, by omega, ⟨lt, by omega⟩, by omega, by rw [la]; omega, List.length_set, (fun h => by cases h), List.length_set, trivial, trivial⟩
end Go.Eng.Sv
