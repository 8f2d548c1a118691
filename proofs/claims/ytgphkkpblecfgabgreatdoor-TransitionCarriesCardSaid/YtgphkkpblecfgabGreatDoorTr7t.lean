/- PeTr7t -/
import Derived.Test.YtgphkkpblecfgabGreatDoorY22
import Derived.Test.YtgphkkpblecfgabGreatDoorTr6t
set_option linter.unusedSimpArgs false
set_option linter.unusedVariables false
set_option maxRecDepth 100000
noncomputable section
namespace Go.Eng.Sv
open Go.Proofs
def postOk (n : Net) (x : ByteArray × Int × Int × Int × Int) (t : Int) : Bool := (tim20 t && tim20 x.2.2.2.2) && (idxF x.2.1 n.2.2.2.1.length && idxF x.2.2.1 n.2.2.2.1.length)
def passN (n : Net) (nx : List (List Int)) (to : Int) : Nat → Int → List Int
  | 0, x => [x]
  | k + 1, x => if x = to ∨ nxt nx x to = -1 then [x] else x :: passN n nx to k (lnTo n (nxt nx x to))
def passL (n : Net) (nx : List (List Int)) (o to : Int) : List Int := passN n nx to 19 o
def passP (n : Net) (nx : List (List Int)) (o to : Int) : Prop := soundF n = true ∧ tabF n nx = true ∧ 0 ≤ o ∧ o < n.2.2.2.1.length ∧ 0 ≤ to ∧ to < n.2.2.2.1.length
def pasIn (n : Net) (nx : List (List Int)) (o to : Int) (x : Nat × Int) : Prop := passP n nx x.2 to ∧ x.1 ≤ 19 ∧ ∃ d : List Int, d.length = x.1 ∧ passL n nx o to = d ++ passN n nx to (19 - x.1) x.2
def leadsF (n : Net) (nx : List (List Int)) (o to : Int) : Bool := (passL n nx o to).any fun x => decide (x = to)
def leadsTo (n : Net) (nx : List (List Int)) (o to : Int) (k : Nat) : Prop := k ≤ (passL n nx o to).length ∧ ∀ i : Nat, i < k → (passL n nx o to).getD i 0 ≠ to
def safeW (n m : Net) (nx mx : List (List Int)) (o to : Int) : Bool := (passL n nx o to).all fun x => leadsF m mx x to
def safeTo (n m : Net) (nx mx : List (List Int)) (o to : Int) (k : Nat) : Prop := k ≤ (passL n nx o to).length ∧ ∀ i : Nat, i < k → leadsF m mx ((passL n nx o to).getD i 0) to = true
def sameLen (n m : Net) : Prop := n.2.2.2.1.length = m.2.2.2.1.length
def cfK (args : List AV) (m : Mem) : Option CRes := match args, m with
  | [.dat (.sl (.int .i64)) row, .fn f [.ipv (.ip (.pair (.sl (.pair (.int .i64) (.pair (.sl .bool) (.sl (.int .i64))))) (.pair (.sl .str) (.pair (.sl .str) (.pair (.sl (.pair .str (.pair (.int .i64) (.pair (.int .i64) (.pair (.int .i64) (.pair (.int .i64) (.pair (.int .i64) (.sl .str)))))))) (.pair (.sl (.pair .str (.pair (.int .i64) (.pair (.int .i64) (.pair (.int .i64) (.pair (.int .i64) (.int .i64))))))) (.sl (.pair .str (.pair (.int .i64) (.int .i64))))))))) n), .ip (.int .i64) o]], [] => if f = 54 then some ⟨rowFits row, .dat I (fIdx (badC n o) row), []⟩ else none
  | _, _ => none
def cfB (args : List AV) (m : Mem) : Option CRes := match args, m with
  | [.dat (.sl (.int .i64)) row, .fn f [.ipv (.ip (.pair (.sl (.pair (.int .i64) (.pair (.sl .bool) (.sl (.int .i64))))) (.pair (.sl .str) (.pair (.sl .str) (.pair (.sl (.pair .str (.pair (.int .i64) (.pair (.int .i64) (.pair (.int .i64) (.pair (.int .i64) (.pair (.int .i64) (.sl .str)))))))) (.pair (.sl (.pair .str (.pair (.int .i64) (.pair (.int .i64) (.pair (.int .i64) (.pair (.int .i64) (.int .i64))))))) (.sl (.pair .str (.pair (.int .i64) (.int .i64))))))))) n), .ip (.int .i64) o]], [] => if f = 54 then some ⟨rowFits row, .dat .bool (anyF (badC n o) row), []⟩ else none
  | _, _ => none
def KR8 : Kt := kOr 87 cfK <|
  kOr 56 (dataK [.val (.sl Stp), .fn 57 I] (fun (l, _) => sFits l) fun (l, t, _) => .dat I (sIdx t l)) <|
  kOr 61 (dataK [.val (.sl OF), .val (.sl OF), .fn0 62] (fun (a, _) => oFits a) fun (a, b, _) => .dat .bool (alikeO a b)) <|
  kOr 14 (dataK [.row N, .val M, .val I, .val I, .val I] (fun (_, nx, _) => fitsM nx) fun (n, nx, o, to, t, _) => .tup [.dat (.sl Stp) (WayL n nx o to t), .dat I (WayE n nx o to t)]) KR7
theorem vc_cf (row : List Int) (o : Int) (cs : LC) (ns os : LB) (fs : List Off) (ls : List Line) (ks : List Cla) (hvc :
  true = true ∧ (rowFits row → rowFits row ∧ D.ge (fIdx (badC (cs, ns, os, fs, ls, ks) o) row) (0 : Int) = anyF (badC (cs, ns, os,
  fs, ls, ks) o) row ∧ True)) :
    evF (mkc KR8) noAnn 55 [.dat R row, .fn 54 [.ipv (.ip N (cs, ns, os, fs, ls, ks)), .ip I o]] [] ⟨rowFits row, .dat .bool (anyF (badC (cs, ns, os, fs, ls, ks) o) row), []⟩ := @of_eq _ _ (by kernel_rfl) hvc
def KR9 : Kt := kOr 55 cfB KR8
def usA (n : Net) (nx : List (List Int)) : Ann := ⟨fun id s => match id with
  | 4 => some { α := Int, inv := fun k => rowsTo n nx k, st := fun k => put (frz (allNames s) s) [(32, .dat I k)], μ := fun k => D.nat (D.sub (D.ilen nx) k) }
  | _ => none, fun id s => match id with
  | 6 => some (frz (allNames s) s)
  | _ => none, fun _ _ => none⟩
theorem vc_tus (p1 p2 : Int) (nx : List (List Int)) (dy : List (List (List Int))) (cs : LC) (ns os : LB) (fs : List Off) (ls : List Line) (ks : List Cla) (hvc :
 let c1 := (cs, ns, os, fs, ls, ks);
 let c2 := checkF c1;
 let c3 := D.ilen c2;
 let c4 := D.gt c3 (0 : Int);
 let c5 := D.not c4;
 let c6 := D.ilen fs;
 let c7 := D.cnd c4 true (D.ne (D.ilen nx) c6);
 let c8 := usF c1 nx;
 let c9 := (nx, dy);
 let c10 := (p1, p2, c9); true = true ∧ (fitsM nx → True ∧ (c5 = true → c5 = true → c5 = true) ∧ (c5 = true → c5 = true → c5 = true) ∧ (c5 = true → c5 = true →
  c5 = true) ∧ (c5 = true → c5 = true → c5 = true) ∧ (c5 = true → c5 = true → c5 = true) ∧ (c5 = true → c5 = true → c5 = true) ∧ (c5 = true → c5 = true → c5 =
  true) ∧ (c5 = true → c5 = true → c5 = true) ∧ (c5 = true → c5 = true → c5 = true) ∧ (c5 = true → c5 = true → c5 = true) ∧ (D.and true c5 = true → c5 = true) ∧
  (c7 = true → false = c8 ∧ True) ∧ (c7 = false → (∃ x, rowsTo c1 nx x ∧ c1 = c1 ∧ c10 = c10 ∧ c1 = c1 ∧ c1 = c1 ∧ c1 = c1 ∧ cs = cs ∧ ns = ns ∧ os = os ∧ fs =
  fs ∧ ls = ls ∧ ks = ks ∧ c2 = c2 ∧ c3 = c3 ∧ c4 = c4 ∧ c4 = c4 ∧ c7 = c7 ∧ c10 = c10 ∧ c10 = c10 ∧ c9 = c9 ∧ nx = nx ∧ D.ilen nx = D.ilen nx ∧ (0 : Int) = x ∧
  True) ∧ ∀ (x : Int),
 let c11 := D.lt x (D.ilen nx);
 let c12 := D.get nx (D.nat x) (D.nil Int);
 let c13 := D.ne (D.ilen c12) c6;
 let c14 := D.not c13;
 let c15 := D.cnd c13 true (anyF (badC c1 x) c12);
 let c16 := D.add x (1 : Int); rowsTo c1 nx x → (c11 = true → D.ile (0 : Int) x ∧ D.ilt x (D.ilen nx) ∧ 1 = 1 ∧ 0 = 0 ∧ c1 = c1 ∧ c10 = c10 ∧ c1 = c1 ∧ 1 = 1 ∧ 0
  = 0 ∧ x = x ∧ c12 = c12 ∧ c1 = c1 ∧ c1 = c1 ∧ cs = cs ∧ ns = ns ∧ os = os ∧ fs = fs ∧ ls = ls ∧ ks = ks ∧ c2 = c2 ∧ c3 = c3 ∧ c4 = c4 ∧ c4 = c4 ∧ c7 = c7 ∧ c10
  = c10 ∧ c10 = c10 ∧ c9 = c9 ∧ nx = nx ∧ D.ilen nx = D.ilen nx ∧ x = x ∧ c11 = c11 ∧ x = x ∧ c12 = c12 ∧ c12 = c12 ∧ (c14 = true → c14 = true → c14 = true) ∧
  (c14 = true → c14 = true → c14 = true) ∧ (c14 = true → rowFits c12) ∧ (D.and true c14 = true → c14 = true) ∧ (c15 = true → false = c8 ∧ True) ∧ (c15 = false →
  inR IntKind.i64 c16 ∧ ∃ y, rowsTo c1 nx y ∧ (c1 = c1 ∧ c10 = c10 ∧ c1 = c1 ∧ c1 = c1 ∧ c1 = c1 ∧ cs = cs ∧ ns = ns ∧ os = os ∧ fs = fs ∧ ls = ls ∧ ks = ks ∧ c2
  = c2 ∧ c3 = c3 ∧ c4 = c4 ∧ c4 = c4 ∧ c7 = c7 ∧ c10 = c10 ∧ c10 = c10 ∧ c9 = c9 ∧ nx = nx ∧ D.ilen nx = D.ilen nx ∧ c16 = y ∧ True) ∧ D.nlt (D.nat (D.sub
  (D.ilen nx) y)) (D.nat (D.sub (D.ilen nx) x)))) ∧ (c11 = false → true = c8 ∧ True)))) :
    evF (mkc KR9) (usA (cs, ns, os, fs, ls, ks) nx) 30 [.ip N (cs, ns, os, fs, ls, ks), .ip Pl (p1, p2, nx, dy)] [] ⟨fitsM nx, .dat .bool (usF (cs, ns, os, fs, ls, ks) nx), []⟩ := @of_eq _ _ (by kernel_rfl) hvc
theorem vc_tal (cs : LC) (ns os : LB) (fs : List Off) (ls : List Line) (ks : List Cla) (m : Net) (hvc :
 let c1 := alikeO fs m.snd.snd.snd.fst; true = true ∧ (oFits fs → oFits fs ∧ c1 = c1 ∧ True)) :
    evF (mkc KR9) noAnn 42 [.ip N (cs, ns, os, fs, ls, ks), .ip N m] [] ⟨oFits fs, .dat .bool (alikeO fs m.2.2.2.1), []⟩ := @of_eq _ _ (by kernel_rfl) hvc
theorem vc_tplace (l : List Stop) (t : Int) (hvc :
  true = true ∧ (sFits l → sFits l ∧ sIdx t l = sIdx t l ∧ True)) :
    evF (mkc KR9) noAnn 32 [.dat (.sl Stp) l, .dat I t] [] ⟨sFits l, .dat I (sIdx t l), []⟩ := @of_eq _ _ (by kernel_rfl) hvc
def KPt1 : KPt := pOr 29 (dataP [.val .bool] fun (b, _) => ⟨True, b, errV 40 1⟩) Go.Eng.noP
def cD : Cfg := mkp KR9 (fun _ => false) KPt1 (fun f => f == 29)
theorem vc_tdpost (e1 : ByteArray) (e2 e3 e4 e5 t : Int) (cs : LC) (ns os : LB) (fs : List Off) (ls : List Line) (ks : List Cla) (hvc :
 let c1 := D.cnd (tim20 t) (tim20 e5) false;
 let c2 := postOk (cs, ns, os, fs, ls, ks) (e1, e2, e3, e4, e5) t;
 let c3 := chainOf (Value.iface (40) (Value.int IntKind.i64 (1 : Int)));
 let c4 := D.ilen fs;
 let c5 := idxF e2 c4;
 let c6 := D.cnd c5 (idxF e3 c4) false; True ∧ (True → True ∧ (tim20 t = true → tim20 t = true → tim20 t = true) ∧ (tim20 t = true → tim20 t = true → tim20 t =
  true) ∧ (tim20 t = true → True) ∧ (D.and true (tim20 t) = true → tim20 t = true) ∧ (true = true → True ∧ (c1 = false → c2 = false ∧ true = true ∧ c3 = c3)) ∧
  ((true = true → c1 = true) → (True ∧ c1 = true) ∧ True ∧ (c5 = true → c5 = true → c5 = true) ∧ (c5 = true → c5 = true → c5 = true) ∧ (c5 = true → c5 = true →
  c5 = true) ∧ (c5 = true → c5 = true → c5 = true) ∧ (c5 = true → c5 = true → c5 = true) ∧ (c5 = true → c5 = true → c5 = true) ∧ (c5 = true → c5 = true → c5 =
  true) ∧ (c5 = true → True) ∧ (D.and true c5 = true → c5 = true) ∧ True ∧ (c6 = true → True ∧ (c5 = true → c5 = true → c5 = true) ∧ (c5 = true → c5 = true → c5
  = true) ∧ (c5 = true → c5 = true → c5 = true) ∧ (c5 = true → c5 = true → c5 = true) ∧ (c5 = true → c5 = true → c5 = true) ∧ (c5 = true → c5 = true → c5 = true)
  ∧ (c5 = true → c5 = true → c5 = true) ∧ (c5 = true → True) ∧ (D.and true c5 = true → c5 = true) ∧ (True ∧ c6 = true) ∧ c2 = true ∧ True) ∧ (c6 = false → c2 =
  false ∧ true = true ∧ c3 = c3)))) :
    evC cD noAnn 28 [.ip N (cs, ns, os, fs, ls, ks), .agg [.dat .str e1, .dat I e2, .dat I e3, .dat I e4, .dat I e5], .dat I t] (.tup []) ⟨True, postOk (cs, ns, os, fs, ls, ks) (e1, e2, e3, e4, e5) t, errV 40 1⟩ := @of_eq _ _ (by kernel_rfl) hvc
theorem vc_tway (o to t : Int) (p1 p2 : Int) (nx : List (List Int)) (dy : List (List (List Int))) (cs : LC) (ns os : LB) (fs : List Off) (ls : List Line) (ks : List Cla) (hvc :
 let c1 := (cs, ns, os, fs, ls, ks);
 let c2 := WayE c1 nx o to t;
 let c3 := D.ne c2 (0 : Int);
 let c4 := isZero c2;
 let c5 := chainOf (Value.iface (40) (Value.int IntKind.i64 c2));
 let c6 := WayL c1 nx o to t; True ∧ (fitsM nx → fitsM nx ∧ (c3 = true → (true = true → True ∧ (false = false → c4 = false ∧ true = true ∧ c5 = c5)) ∧ True) ∧
  (c3 = false → c4 = true ∧ c6 = c6 ∧ True))) :
    evC (mkc KR9) noAnn 31 [net cs ns os fs ls ks, .agg [.dat I p1, .dat I p2, .dat M nx, .dat (.sl M) dy], .dat I o, .dat I to, .dat I t] (.dat (.sl Stp) (WayL (cs, ns, os, fs, ls, ks) nx o to t)) ⟨fitsM nx, isZero (WayE (cs, ns, os, fs, ls, ks) nx o to t), errV 40 (WayE (cs, ns, os, fs, ls, ks) nx o to t)⟩ := @of_eq _ _ (by kernel_rfl) hvc
theorem vc_passed (o to : Int) (p1 p2 : Int) (nx : List (List Int)) (dy : List (List (List Int))) (cs : LC) (ns os : LB) (fs : List Off) (ls : List Line) (ks : List Cla) (hvc :
 let c1 := (p1, p2, nx, dy);
 let c2 := (cs, ns, os, fs, ls, ks); true = true ∧ (True → o = o ∧ to = to ∧ c1 = c1 ∧ c2 = c2 ∧ True)) :
    evF (mkc KR9) noAnn 64 [.ip N (cs, ns, os, fs, ls, ks), .ip Pl (p1, p2, nx, dy), .dat I o, .dat I to] [] ⟨True, .fn 90 [.ip I o, .ip I to, .ipv (.ip Pl (p1, p2, nx, dy)), .ipv (.ip N (cs, ns, os, fs, ls, ks))], []⟩ := @of_eq _ _ (by kernel_rfl) hvc
def pasA (n : Net) (nx : List (List Int)) (o to : Int) : AnnY := ⟨fun id y => match id with
  | 2 => some { α := Nat × Int, inv := fun x => pasIn n nx o to x, st := fun x => ⟨put y.s [(8, .dat I (D.ofN x.1)), (6, .dat I x.2)], x.1, true⟩, μ := fun x => D.nat (D.sub 19 (D.ofN x.1)) }
  | _ => none, fun _ _ => none, fun id => id == 3 || id == 6⟩
theorem vc_iterP (o to : Int) (p1 p2 : Int) (nx : List (List Int)) (dy : List (List (List Int))) (cs : LC) (ns os : LB) (fs : List Off) (ls : List Line) (ks : List Cla) (hvc :
 let c1 := (cs, ns, os, fs, ls, ks);
 let c2 := (p1, p2, nx, dy);
 let c3 := passL c1 nx o to;
 let c4 := D.len c3; true = true ∧ true = true ∧ true = true ∧ false = false ∧ ∀ (l : Nat), passP c1 nx o to → (∃ x, pasIn c1 nx o to x ∧ (l = l ∧ o = o ∧ to =
  to ∧ c2 = c2 ∧ c1 = c1 ∧ o = x.snd ∧ o = o ∧ (0 : Int) = D.ofN x.fst ∧ True) ∧ 0 = x.fst ∧ true = true) ∧ ∀ (x : Nat × Int),
 let c5 := D.ofN x.fst;
 let c6 := D.lt c5 (19 : Int);
 let c7 := D.eq x.snd to;
 let c8 := D.get nx (D.nat x.snd) (D.nil Int);
 let c9 := D.get c8 (D.nat to) (0 : Int);
 let c10 := D.nadd x.fst (1);
 let c11 := D.add c5 (1 : Int); pasIn c1 nx o to x → (c6 = true → l = l ∧ true = true ∧ isAt c3 x.fst x.snd ∧ ∀ (b : Bool),
 let c12 := D.cnd (D.not b) true c7;
 let c13 := D.not c12;
 let c14 := D.cnd c12 true (D.eq c9 (-1 : Int)); (D.not (D.not b) = true → D.not (D.not b) = true → D.not (D.not b) = true) ∧ (D.not (D.not b) = true → D.not
  (D.not b) = true → D.not (D.not b) = true) ∧ (D.and true (D.not (D.not b)) = true → D.not (D.not b) = true) ∧ (c13 = true → c13 = true → c13 = true) ∧ (c13 =
  true → c13 = true → c13 = true) ∧ (c13 = true → c13 = true → c13 = true) ∧ (c13 = true → c13 = true → c13 = true) ∧ (c13 = true → c13 = true → c13 = true) ∧
  (c13 = true → D.ile (0 : Int) x.snd) ∧ (c13 = true → D.ilt x.snd (D.ilen nx)) ∧ (c13 = true → c13 = true → c13 = true) ∧ (c13 = true → c13 = true → c13 = true)
  ∧ (c13 = true → c13 = true → c13 = true) ∧ (c13 = true → D.ile (0 : Int) to) ∧ (c13 = true → D.ilt to (D.ilen c8)) ∧ (c13 = true → c13 = true → c13 = true) ∧
  (c13 = true → c13 = true → c13 = true) ∧ (D.and true c13 = true → c13 = true) ∧ (c14 = true → b = true → c10 = c4) ∧ (c14 = false → D.ile (0 : Int) x.snd ∧
  D.ilt x.snd (D.ilen nx) ∧ D.ile (0 : Int) to ∧ D.ilt to (D.ilen c8) ∧ D.ile (0 : Int) c9 ∧ D.ilt c9 (D.ilen ls) ∧ inR IntKind.i64 c11 ∧ ∃ y,
 let c15 := D.ofN y.fst; pasIn c1 nx o to y ∧ ((l = l ∧ o = o ∧ to = to ∧ c2 = c2 ∧ c1 = c1 ∧ (D.get ls (D.nat c9) (ByteArray.mk (D.nil UInt8).toArray, (0 :
  Int), (0 : Int), (0 : Int), (0 : Int), (0 : Int))).snd.snd.fst = y.snd ∧ o = o ∧ c11 = c15 ∧ True) ∧ c10 = y.fst ∧ b = true) ∧ D.nlt (D.nat (D.sub (19 : Int)
  c15)) (D.nat (D.sub (19 : Int) c5)))) ∧ (c6 = false → (true = true → l = l ∧ true = true ∧ isAt c3 x.fst x.snd ∧ ∀ (b : Bool), b = true → c10 = c4) ∧ (true =
  false → true = true → x.fst = c4))) :
    evI (mkc KR9) (pasA (cs, ns, os, fs, ls, ks) nx o to) 90 [.ip I o, .ip I to, .ipv (.ip Pl (p1, p2, nx, dy)), .ipv (.ip N (cs, ns, os, fs, ls, ks))] ⟨passP (cs, ns, os, fs, ls, ks) nx o to, I, passL (cs, ns, os, fs, ls, ks) nx o to⟩ := @of_eq _ _ (by kernel_rfl) hvc
theorem cfK_ok : ∀ args m c, cfK args m = some c → SoundC Tryz.prog G0 87 args m c := by
  intro args m c h
  unfold cfK at h
  split at h
  · split at h
    · rename_i e
      subst e
      cases h
      exact t_idxI _ _ _ _ _ _ _ _
    · cases h
  · cases h
theorem KSR8 : KSound Tryz.prog G0 KR8 := kOr_ok cfK_ok <| kOr_ok (dataK_ok fun (l, t, _) => t_idxP l t) <| kOr_ok (dataK_ok fun (a, b, _) => t_eqf a b) <| kOr_ok (dataK_ok fun ((cs, ns, os, fs, ls, ks), nx, o, to, t, _) => t_pway nx o to t cs ns os fs ls ks) KSR7
theorem fIdx_any (f : Int → Bool) (row : List Int) : decide (fIdx f row ≥ 0) = anyF f row := by
  unfold fIdx anyF
  cases h : row.findIdx? f with
  | some i =>
    rw [List.findIdx?_eq_some_iff_getElem] at h
    obtain ⟨h1, h2, _⟩ := h
    rw [List.any_eq_true.2 ⟨_, List.getElem_mem h1, h2⟩]
    simp
  | none =>
    rw [List.findIdx?_eq_none_iff] at h
    rw [List.any_eq_false.2 fun x hx => by rw [h x hx]; exact Bool.false_ne_true]
    rfl
theorem t_cf (row : List Int) (o : Int) (cs : LC) (ns os : LB) (fs : List Off) (ls : List Line) (ks : List Cla) : SoundC Tryz.prog G0 55 [.dat R row, .fn 54 [.ipv (.ip N (cs, ns, os, fs, ls, ks)), .ip I o]] [] ⟨rowFits row, .dat .bool (anyF (badC (cs, ns, os, fs, ls, ks) o) row), []⟩ :=
  sound_of_ev (c := mkc KR8) KSR8 KI0s hm (vc_cf row o cs ns os fs ls ks ⟨rfl, fun hp => ⟨hp, fIdx_any _ _, trivial⟩⟩)
theorem cfB_ok : ∀ args m c, cfB args m = some c → SoundC Tryz.prog G0 55 args m c := by
  intro args m c h
  unfold cfB at h
  split at h
  · split at h
    · rename_i e
      subst e
      cases h
      exact t_cf _ _ _ _ _ _ _ _
    · cases h
  · cases h
theorem KSR9 : KSound Tryz.prog G0 KR9 := kOr_ok cfB_ok KSR8
theorem t_tus (p1 p2 : Int) (nx : List (List Int)) (dy : List (List (List Int))) (cs : LC) (ns os : LB) (fs : List Off) (ls : List Line) (ks : List Cla) : SoundC Tryz.prog G0 30 [.ip N (cs, ns, os, fs, ls, ks), .ip Pl (p1, p2, nx, dy)] [] ⟨fitsM nx, .dat .bool (usF (cs, ns, os, fs, ls, ks) nx), []⟩ := by
  refine sound_of_ev (c := mkc KR9) KSR9 KI0s hm (vc_tus p1 p2 nx dy cs ns os fs ls ks ⟨rfl, fun hp => ?_⟩)
  simp only [cnd_or, cnd_and, D.and, D.or, D.not, Bool.true_and, Bool.and_true, Bool.false_or, Bool.or_false, eq_self, true_and, and_true, imp_self, implies_true, Bool.not_eq_true', Bool.or_eq_true, Bool.or_eq_false_iff, Bool.not_eq_false', Bool.and_eq_true, Bool.and_eq_false_imp, Bool.not_not, forall_const, exists_eq_right, exists_eq_right', exists_eq_left, exists_eq_left', Int.toNat_natCast, Nat.zero_add, Nat.mul_one, Int.ofNat_eq_natCast, D.nil, D.eq, D.ne, D.lt, D.gt, D.le, D.ge, D.beq, D.ilen, D.slen, D.ile, D.ilt, D.ine, D.nle, D.nlt, D.sub, D.add, D.mul, D.neg, D.nat, D.ofN, D.len, D.nadd, D.nmul, D.get, D.mn, D.mx, D.set, D.app, D.tail, D.part, D.seg, D.rep, D.at2, decide_eq_true_eq, decide_eq_false_iff_not, beq_iff_eq, bne_iff_ne, beq_eq_false_iff_ne, bne_eq_false_iff_eq, D.wrap, D.allNil]
  obtain ⟨hf1, hf2⟩ := id hp
  have hr : ∀ x : Int, 0 ≤ x → x < nx.length → (nx.getD x.toNat []).length ≤ 1000000 := fun x h0 h1 => hf2 _ (by
    rw [List.getD_eq_getElem?_getD, List.getElem?_eq_getElem (by omega), Option.getD_some]; exact List.getElem_mem _)
  have hct : ∀ x : Int, 0 ≤ x → ((x.toNat : Nat) : Int) = x := fun x h => by omega
  have sl := soundF_len (n := (cs, ns, os, fs, ls, ks))
  have bad : ∀ x : Int, rowsTo (cs, ns, os, fs, ls, ks) nx x → x < nx.length → rowOk (cs, ns, os, fs, ls, ks) x (nx.getD x.toNat []) = false → false = usF (cs, ns, os, fs, ls, ks) nx := fun x hx hlt hb => by
    refine (Bool.eq_false_iff.2 fun ht => ?_).symm
    unfold usF at ht
    simp only [Bool.and_eq_true] at ht
    have := (tab_row hx.2.2.1).1 ht.2 x.toNat (by have := hx.1; omega)
    rw [hct x hx.1, hb] at this; cases this
  refine ⟨fun h => ?_, fun ⟨h1, he⟩ => ⟨⟨Int.le_refl _, by omega, he, fun i h => by omega⟩, fun x hx => ⟨fun hlt => ⟨hx.1, hlt, fun _ => ?_, fun hb => ?_, fun ⟨hb1, hb2⟩ => ⟨in_big (by have := hx.1; omega), x + 1, ⟨by have := hx.1; omega, by omega, he, fun i hi => ?_⟩, rfl, by have := hx.1; omega⟩⟩, fun hge => ?_⟩⟩⟩
  · refine (Bool.eq_false_iff.2 fun ht => ?_).symm
    unfold usF at ht
    simp only [Bool.and_eq_true] at ht
    rw [sl, decide_eq_true_eq] at ht
    rcases h with h | h
    · have := ht.1; omega
    · have ht2 := ht.2
      unfold tabF at ht2
      simp only [Bool.and_eq_true, decide_eq_true_eq] at ht2
      exact h ht2.1
  · have := hr x hx.1 hlt
    exact this
  · refine bad x hx hlt ?_
    unfold rowOk
    rcases hb with hb | hb
    · rw [decide_eq_false hb]; rfl
    · unfold anyF badC at hb
      rw [List.any_eq_true] at hb
      obtain ⟨l, h2, h3⟩ := hb
      rw [Bool.and_eq_false_iff]
      right
      rw [List.all_eq_false]
      exact ⟨l, h2, by simpa using h3⟩
  · by_cases e : (i : Int) < x
    · exact hx.2.2.2 i e
    · have : i = x.toNat := by have := hx.1; omega
      rw [this, hct x hx.1]
      unfold rowOk
      rw [decide_eq_true hb1, Bool.true_and]
      unfold anyF badC at hb2
      rw [List.any_eq_false] at hb2
      rw [List.all_eq_true]
      exact fun l hl => by simpa using hb2 l hl
  · unfold usF
    rw [sl, decide_eq_true (by omega), Bool.true_and]
    exact ((tab_row he).2 fun i hi => hx.2.2.2 i (by omega)).symm
theorem t_tal (cs : LC) (ns os : LB) (fs : List Off) (ls : List Line) (ks : List Cla) (m : Net) : SoundC Tryz.prog G0 42 [.ip N (cs, ns, os, fs, ls, ks), .ip N m] [] ⟨oFits fs, .dat .bool (alikeO fs m.2.2.2.1), []⟩ := by
  refine sound_of_ev (c := mkc KR9) KSR9 KI0s hm (vc_tal cs ns os fs ls ks m ⟨rfl, fun hp => ?_⟩)
  exact ⟨hp, rfl, trivial⟩
theorem t_tplace (l : List Stop) (t : Int) : SoundC Tryz.prog G0 32 [.dat (.sl Stp) l, .dat I t] [] ⟨sFits l, .dat I (sIdx t l), []⟩ :=
  sound_of_ev (c := mkc KR9) KSR9 KI0s hm (vc_tplace l t ⟨rfl, fun hp => ⟨hp, rfl, trivial⟩⟩)
theorem KPt1_ok : KPSound Tryz.prog G0 KPt1 := pOr_ok (dataP_ok fun (b, _) => (t_tdemand b).2) noP_ok
theorem t_tdpost (e1 : ByteArray) (e2 e3 e4 e5 t : Int) (cs : LC) (ns os : LB) (fs : List Off) (ls : List Line) (ks : List Cla) : SoundC Tryz.prog G0 28 [.ip N (cs, ns, os, fs, ls, ks), .agg [.dat .str e1, .dat I e2, .dat I e3, .dat I e4, .dat I e5], .dat I t] [] ⟨True ∧ postOk (cs, ns, os, fs, ls, ks) (e1, e2, e3, e4, e5) t = true, .tup [], []⟩ ∧ SoundP Tryz.prog G0 28 [.ip N (cs, ns, os, fs, ls, ks), .agg [.dat .str e1, .dat I e2, .dat I e3, .dat I e4, .dat I e5], .dat I t] ⟨True, postOk (cs, ns, os, fs, ls, ks) (e1, e2, e3, e4, e5) t, errV 40 1⟩ := by
  refine sound_of_evC (c := cD) KSR9 KI0s hm KPt1_ok (vc_tdpost e1 e2 e3 e4 e5 t cs ns os fs ls ks ⟨trivial, fun _ => ?_⟩)
  simp only [cnd_or, cnd_and, D.and, D.or, D.not, Bool.true_and, Bool.and_true, Bool.false_or, Bool.or_false, eq_self, true_and, and_true, imp_self, implies_true, Bool.not_eq_true', Bool.or_eq_true, Bool.or_eq_false_iff, Bool.not_eq_false', Bool.and_eq_true, Bool.and_eq_false_imp, Bool.not_not, forall_const, exists_eq_right, exists_eq_right', exists_eq_left, exists_eq_left', Int.toNat_natCast, Nat.zero_add, Nat.mul_one, Int.ofNat_eq_natCast, D.nil, D.eq, D.ne, D.lt, D.gt, D.le, D.ge, D.beq, D.ilen, D.slen, D.ile, D.ilt, D.ine, D.nle, D.nlt, D.sub, D.add, D.mul, D.neg, D.nat, D.ofN, D.len, D.nadd, D.nmul, D.get, D.mn, D.mx, D.set, D.app, D.tail, D.part, D.seg, D.rep, D.at2, decide_eq_true_eq, decide_eq_false_iff_not, beq_iff_eq, bne_iff_ne, beq_eq_false_iff_ne, bne_eq_false_iff_eq, D.wrap, D.allNil]
  have e : postOk (cs, ns, os, fs, ls, ks) (e1, e2, e3, e4, e5) t = ((tim20 t && tim20 e5) && (idxF e2 fs.length && idxF e3 fs.length)) := rfl
  rw [e]
  cases tim20 t <;> cases tim20 e5 <;> cases idxF e2 fs.length <;> cases idxF e3 fs.length <;> simp
theorem t_tway (o to t : Int) (p1 p2 : Int) (nx : List (List Int)) (dy : List (List (List Int))) (cs : LC) (ns os : LB) (fs : List Off) (ls : List Line) (ks : List Cla) : SoundC Tryz.prog G0 31 [net cs ns os fs ls ks, .agg [.dat I p1, .dat I p2, .dat M nx, .dat (.sl M) dy], .dat I o, .dat I to, .dat I t] [] ⟨fitsM nx ∧ isZero (WayE (cs, ns, os, fs, ls, ks) nx o to t) = true, .dat (.sl Stp) (WayL (cs, ns, os, fs, ls, ks) nx o to t), []⟩ ∧ SoundP Tryz.prog G0 31 [net cs ns os fs ls ks, .agg [.dat I p1, .dat I p2, .dat M nx, .dat (.sl M) dy], .dat I o, .dat I to, .dat I t] ⟨fitsM nx, isZero (WayE (cs, ns, os, fs, ls, ks) nx o to t), errV 40 (WayE (cs, ns, os, fs, ls, ks) nx o to t)⟩ := by
  refine sound_of_evC (c := mkc KR9) KSR9 KI0s hm noP_ok (vc_tway o to t p1 p2 nx dy cs ns os fs ls ks ⟨trivial, fun hp => ?_⟩)
  simp only [cnd_or, cnd_and, D.and, D.or, D.not, Bool.true_and, Bool.and_true, Bool.false_or, Bool.or_false, eq_self, true_and, and_true, imp_self, implies_true, Bool.not_eq_true', Bool.or_eq_true, Bool.or_eq_false_iff, Bool.not_eq_false', Bool.and_eq_true, Bool.and_eq_false_imp, Bool.not_not, forall_const, exists_eq_right, exists_eq_right', exists_eq_left, exists_eq_left', Int.toNat_natCast, Nat.zero_add, Nat.mul_one, Int.ofNat_eq_natCast, D.nil, D.eq, D.ne, D.lt, D.gt, D.le, D.ge, D.beq, D.ilen, D.slen, D.ile, D.ilt, D.ine, D.nle, D.nlt, D.sub, D.add, D.mul, D.neg, D.nat, D.ofN, D.len, D.nadd, D.nmul, D.get, D.mn, D.mx, D.set, D.app, D.tail, D.part, D.seg, D.rep, D.at2, decide_eq_true_eq, decide_eq_false_iff_not, beq_iff_eq, bne_iff_ne, beq_eq_false_iff_ne, bne_eq_false_iff_eq, D.wrap, D.allNil]
  exact ⟨hp, fun h => isZero_not.2 h, fun h => isZero_iff.2 h⟩
theorem t_passed (o to : Int) (p1 p2 : Int) (nx : List (List Int)) (dy : List (List (List Int))) (cs : LC) (ns os : LB) (fs : List Off) (ls : List Line) (ks : List Cla) : SoundC Tryz.prog G0 64 [.ip N (cs, ns, os, fs, ls, ks), .ip Pl (p1, p2, nx, dy), .dat I o, .dat I to] [] ⟨True, .fn 90 [.ip I o, .ip I to, .ipv (.ip Pl (p1, p2, nx, dy)), .ipv (.ip N (cs, ns, os, fs, ls, ks))], []⟩ := by
  refine sound_of_ev (c := mkc KR9) KSR9 KI0s hm (vc_passed o to p1 p2 nx dy cs ns os fs ls ks ⟨rfl, fun _ => ?_⟩)
  exact ⟨rfl, rfl, rfl, rfl, trivial⟩
theorem t_iterP (o to : Int) (p1 p2 : Int) (nx : List (List Int)) (dy : List (List (List Int))) (cs : LC) (ns os : LB) (fs : List Off) (ls : List Line) (ks : List Cla) : IterC Tryz.prog G0 90 [.ip I o, .ip I to, .ipv (.ip Pl (p1, p2, nx, dy)), .ipv (.ip N (cs, ns, os, fs, ls, ks))] ⟨passP (cs, ns, os, fs, ls, ks) nx o to, I, passL (cs, ns, os, fs, ls, ks) nx o to⟩ := by
  refine iter_of_ev (c := mkc KR9) (A := pasA (cs, ns, os, fs, ls, ks) nx o to) KSR9 KI0s hm ?_
  refine vc_iterP o to p1 p2 nx dy cs ns os fs ls ks ⟨rfl, rfl, rfl, rfl, fun l hp => ?_⟩
  simp only [cnd_or, cnd_and, D.and, D.or, D.not, Bool.true_and, Bool.and_true, Bool.false_or, Bool.or_false, eq_self, true_and, and_true, imp_self, implies_true, Bool.not_eq_true', Bool.or_eq_true, Bool.or_eq_false_iff, Bool.not_eq_false', Bool.and_eq_true, Bool.and_eq_false_imp, Bool.not_not, forall_const, exists_eq_right, exists_eq_right', exists_eq_left, exists_eq_left', Int.toNat_natCast, Nat.zero_add, Nat.mul_one, Int.ofNat_eq_natCast, D.nil, D.eq, D.ne, D.lt, D.gt, D.le, D.ge, D.beq, D.ilen, D.slen, D.ile, D.ilt, D.ine, D.nle, D.nlt, D.sub, D.add, D.mul, D.neg, D.nat, D.ofN, D.len, D.nadd, D.nmul, D.get, D.mn, D.mx, D.set, D.app, D.tail, D.part, D.seg, D.rep, D.at2, decide_eq_true_eq, decide_eq_false_iff_not, beq_iff_eq, bne_iff_ne, beq_eq_false_iff_ne, bne_eq_false_iff_eq, D.wrap, D.allNil]
  obtain ⟨hs, ht, o0, o1, d0, d1⟩ := id hp
  have o1 : o < fs.length := o1
  have d1 : to < fs.length := d1
  have hno := sound_noF cs ns os fs ls ks hs
  have at_ : ∀ (d : List Int) (r : List Int) (k : Nat) (y : Int), d.length = k → passL (cs, ns, os, fs, ls, ks) nx o to = d ++ y :: r → isAt (passL (cs, ns, os, fs, ls, ks) nx o to) k y := fun d r k y hd he => by
    show (passL (cs, ns, os, fs, ls, ks) nx o to)[k]? = some y
    rw [he, List.getElem?_append_right (by omega), hd, Nat.sub_self]; rfl
  refine ⟨⟨(0, o), ⟨hp, Nat.zero_le _, [], rfl, rfl⟩, ⟨rfl, rfl⟩, rfl⟩, ?_⟩
  rintro ⟨k, x⟩ ⟨⟨_, _, x0, x1, _, _⟩, hk, d, hd, he⟩
  simp only at x0 x1 hk hd he ⊢
  obtain ⟨c1, c2, c3⟩ := tab_cell cs ns os fs ls ks ht x0 x1 d0 d1
  have x1 : x < fs.length := x1
  have ec : (nx.getD x.toNat []).getD to.toNat 0 = nxt nx x to := rfl
  rw [ec]
  refine ⟨fun hlt => ?_, fun hge => ?_⟩
  · have e19 : 19 - k = (19 - (k + 1)) + 1 := by omega
    rw [e19] at he
    have hfirst : isAt (passL (cs, ns, os, fs, ls, ks) nx o to) k x := by
      rw [passN] at he
      split at he
      · exact at_ d [] k x hd he
      · exact at_ d _ k x hd he
    refine ⟨hfirst, fun b => ⟨fun _ => x0, fun _ => by rw [c1]; exact x1, fun _ => d0, fun _ => by rw [c2]; exact d1, fun hb _ => ?_, fun hb => ?_⟩⟩
    · rename_i hbt
      have hst : x = to ∨ nxt nx x to = -1 := by
        rcases hb with (hb | hb) | hb
        · rw [hb] at hbt; cases hbt
        · exact .inl hb
        · exact .inr hb
      rw [passN, if_pos hst] at he
      rw [he, List.length_append, hd]; rfl
    · obtain ⟨⟨hb1, hb2⟩, hb3⟩ := hb
      have hst : ¬ (x = to ∨ nxt nx x to = -1) := fun h => by
        rcases h with h | h
        · exact hb2 h
        · exact hb3 h
      obtain ⟨⟨l0, l1⟩, _⟩ := c3 hb3
      obtain ⟨g1, g2, g3, g4, g5, g6, g7, g8⟩ := lin_ok cs ns os fs ls ks (l := nxt nx x to) ⟨hno, l0, l1⟩
      rw [passN, if_neg hst] at he
      refine ⟨x0, by rw [c1]; exact x1, d0, by rw [c2]; exact d1, l0, l1, in_big (by omega), (k + 1, lnTo (cs, ns, os, fs, ls, ks) (nxt nx x to)), ⟨⟨hs, ht, g3, g4, d0, d1⟩, by simp only; omega, d ++ [x], by simp [hd], by rw [he]; simp⟩, ⟨⟨rfl, by simp⟩, rfl, hb1⟩, by simp only; omega⟩
  · have ek : 19 - k = 0 := by omega
    rw [ek, passN] at he
    exact ⟨⟨at_ d [] k x hd he, fun b _ => by rw [he, List.length_append, hd]; rfl⟩, fun h => by cases h⟩
end Go.Eng.Sv
