/- PeRo1z -/
import Derived.Test.YtejeaokbkbfgjaaGreatDoorX22
import Derived.Test.YtejeaokbkbfgjaaGreatDoorTt9z
set_option linter.unusedSimpArgs false
set_option linter.unusedVariables false
set_option maxRecDepth 100000
noncomputable section
namespace Go.Eng.Sv
open Go.Proofs
def flrD (a b : Int) : Int := a / b
def floorP (a b : Int) : Prop := okDay a ∧ okMod b
def hasF (h : List Int) (d : Int) : Bool := h.contains d
def hasTo (h : List Int) (d k : Int) : Prop := 0 ≤ k ∧ k ≤ h.length ∧ h.length ≤ 1000000 ∧ (h.take k.toNat).contains d = false
def workP (z : Int) (w : List Bool) (h : List Int) (d : Int) : Prop := validF z w h = true ∧ inDays d = true
def rightF (n : Net) (line t : Int) : Bool := soundF n && idxF line n.2.2.2.2.1.length && timeOk t
def onP (n : Net) (line d : Int) : Prop := lineP n line ∧ inDays d = true
def onB (n : Net) (line d : Int) : Bool := workF (calF n line).2.1 (calF n line).2.2 d
def rdepTo (n : Net) (line t d : Int) : Prop := firstP n line t ∧ rightF n line t = true ∧ dayF (calF n line).1 t ≤ d ∧ d ≤ dayF (calF n line).1 t + 62 ∧ ∀ e, dayF (calF n line).1 t ≤ e → e < d → onB n line e = true → leaveF n line e < t ∨ t + 86400 ≤ leaveF n line e
def dayDeps (n : Net) (line a b d : Int) : List Int := ((listF (calF n line).2.1 (calF n line).2.2 (dayF (calF n line).1 a) (d - dayF (calF n line).1 a)).map (leaveF n line)).filter fun t => decide (a ≤ t) && decide (t < b)
def rdepsTo (n : Net) (line a b d : Int) : Prop := firstP n line a ∧ firstP n line b ∧ rightF n line a = true ∧ rightF n line b = true ∧ b ≤ a + 86400 ∧ dayF (calF n line).1 a ≤ d ∧ (d ≤ dayF (calF n line).1 b + 1 ∨ d = dayF (calF n line).1 a)
def atF (l : List Int) (a i : Int) : Int := if i = 0 then a else l.getD (i - 1).toNat 0 + 1
def rstart (n : Net) (line a b i : Int) : Int := ([a - 1] ++ depsF n line a b).getD i.toNat 0 + 1
def rwaitTo (n : Net) (line a b m i : Int) : Prop := waitOk n line a b = true ∧ 0 ≤ i ∧ i ≤ (depsF n line a b).length + 1 ∧ 0 ≤ m ∧ m ≤ 86400 ∧
  (i ≤ (depsF n line a b).length → waitGo n line b (b - rstart n line a b i).toNat (rstart n line a b i) m = waitO n line a b) ∧ (i = (depsF n line a b).length + 1 → waitO n line a b = some m)
def KR0 : Kt := kOr 11 (dataK [] (fun _ => True) fun _ => .dat .bool true) KT15
theorem vc_rfloor (a b : Int) (hvc :
 let c1 := D.lt (D.rem a b) (0 : Int);
 let c2 := D.sub (D.quo a b) (1 : Int);
 let c3 := D.add (D.rem a b) b; true = true ∧ (floorP a b → D.ine b (0 : Int) ∧ inR IntKind.i64 (D.quo a b) ∧ D.ine b (0 : Int) ∧ (c1 = true → inR IntKind.i64 c2
  ∧ inR IntKind.i64 c3 ∧ c2 = flrD a b ∧ c3 = remF a b ∧ True) ∧ (c1 = false → D.quo a b = flrD a b ∧ D.rem a b = remF a b ∧ True))) :
    evF (mkc KR0) noAnn 65 [.dat I a, .dat I b] [] ⟨floorP a b, .tup [.dat I (flrD a b), .dat I (remF a b)], []⟩ := of_eq (by kernel_rfl) hvc
theorem vc_rrange (a : Int) (hvc :
 let c1 := D.ge a (-1000000 : Int); true = true ∧ (True → (c1 = true → c1 = true → c1 = true) ∧ (D.and true c1 = true → c1 = true) ∧ D.cnd c1 (D.le a (1000000 :
  Int)) false = inDays a ∧ True)) :
    evF (mkc KR0) noAnn 84 [.dat I a] [] ⟨True, .dat .bool (inDays a), []⟩ := of_eq (by kernel_rfl) hvc
def hasA (h : List Int) (d : Int) : Ann := ⟨fun id s => match id with
  | 2 => some { α := Int, inv := fun k => hasTo h d k, st := fun k => put s [(5, .dat I k)], μ := fun k => D.nat (D.sub (D.ilen h) k) }
  | _ => none, fun _ _ => none, fun _ _ => none⟩
theorem vc_rholiday (z : Int) (w : List Bool) (h : List Int) (d : Int) (hvc :
 let c1 := (z, w, h); true = true ∧ (mildI h → (∃ x, hasTo h d x ∧ z = z ∧ w = w ∧ h = h ∧ d = d ∧ c1 = c1 ∧ (0 : Int) = x ∧ True) ∧ ∀ (x : Int),
 let c2 := D.lt x (D.ilen h);
 let c3 := D.eq (D.get h (D.nat x) (0 : Int)) d;
 let c4 := D.add x (1 : Int); hasTo h d x → (c2 = true → D.ile (0 : Int) x ∧ D.ilt x (D.ilen h) ∧ (c3 = true → true = hasF h d ∧ True) ∧ (c3 = false → inR
  IntKind.i64 c4 ∧ ∃ y, hasTo h d y ∧ (z = z ∧ w = w ∧ h = h ∧ d = d ∧ c1 = c1 ∧ c4 = y ∧ True) ∧ D.nlt (D.nat (D.sub (D.ilen h) y)) (D.nat (D.sub (D.ilen h)
  x)))) ∧ (c2 = false → false = hasF h d ∧ True))) :
    evF (mkc KR0) (hasA h d) 110 [cal z w h, .dat I d] [] ⟨mildI h, .dat .bool (hasF h d), []⟩ := of_eq (by kernel_rfl) hvc
def KR1 : Kt := kOr 65 (dataK [.val I, .val I] (fun (a, b, _) => floorP a b) fun (a, b, _) => .tup [.dat I (flrD a b), .dat I (remF a b)]) <|
  kOr 84 (dataK [.val I] (fun _ => True) fun (a, _) => .dat .bool (inDays a)) <|
  kOr 110 (dataK [.row C, .val I] (fun (c, _, _) => mildI c.2.2) fun (c, d, _) => .dat .bool (hasF c.2.2 d)) KR0
theorem vc_rworking (z : Int) (w : List Bool) (h : List Int) (d : Int) (hvc :
 let c1 := remF d (7 : Int);
 let c2 := D.get w (D.nat c1) false; true = true ∧ (workP z w h d → floorP d (7 : Int) ∧ D.ile (0 : Int) c1 ∧ D.ilt c1 (D.ilen w) ∧ (c2 = true → c2 = true → c2 =
  true) ∧ (c2 = true → c2 = true → c2 = true) ∧ (c2 = true → mildI h) ∧ (c2 = true → c2 = true → c2 = true) ∧ (D.and true c2 = true → c2 = true) ∧ D.cnd c2
  (D.not (hasF h d)) false = workF w h d ∧ True)) :
    evF (mkc KR1) noAnn 85 [cal z w h, .dat I d] [] ⟨workP z w h d, .dat .bool (workF w h d), []⟩ := of_eq (by kernel_rfl) hvc
def KR2 : Kt := kOr 85 (dataK [.row C, .val I] (fun (c, d, _) => workP c.1 c.2.1 c.2.2 d) fun (c, d, _) => .dat .bool (workF c.2.1 c.2.2 d)) KR1
theorem vc_rwork (z : Int) (w : List Bool) (h : List Int) (d : Int) (hvc :
 let c1 := D.cnd (validF z w h) (inDays d) false; true = true ∧ (workP z w h d → True ∧ (validF z w h = true → validF z w h = true → validF z w h = true) ∧
  (validF z w h = true → True) ∧ (D.and true (validF z w h) = true → validF z w h = true) ∧ (c1 = true → c1 = true → c1 = true) ∧ (c1 = true → c1 = true → c1 =
  true) ∧ (c1 = true → workP z w h d) ∧ (D.and true c1 = true → c1 = true) ∧ D.cnd c1 (workF w h d) false = workF w h d ∧ True)) :
    evF (mkc KR2) noAnn 67 [cal z w h, .dat I d] [] ⟨workP z w h d, .dat .bool (workF w h d), []⟩ := of_eq (by kernel_rfl) hvc
theorem vc_rlocal (z : Int) (w : List Bool) (h : List Int) (t : Int) (hvc :
 let c1 := D.not (validF z w h);
 let c2 := D.not c1;
 let c3 := D.cnd c1 true (D.lt t (-2000000000 : Int));
 let c4 := D.not c3;
 let c5 := D.cnd c3 true (D.gt t (2000000000 : Int)); true = true ∧ (okLocal z w h t → True ∧ (c2 = true → c2 = true → c2 = true) ∧ (D.and true c2 = true → c2 =
  true) ∧ (c4 = true → c4 = true → c4 = true) ∧ (D.and true c4 = true → c4 = true) ∧ (c5 = true → (0 : Int) = dayF z t ∧ (0 : Int) = minF z t ∧ True) ∧ (c5 =
  false → inR IntKind.i64 (D.add t z) ∧ floorP (D.add t z) (1440 : Int) ∧ flrD (D.add t z) (1440 : Int) = dayF z t ∧ remF (D.add t z) (1440 : Int) = minF z t ∧
  True))) :
    evF (mkc KR2) noAnn 38 [cal z w h, .dat I t] [] ⟨okLocal z w h t, .tup [.dat I (dayF z t), .dat I (minF z t)], []⟩ := of_eq (by kernel_rfl) hvc
theorem vc_rtime (z : Int) (w : List Bool) (h : List Int) (d m : Int) (hvc :
 let c1 := D.not (validF z w h);
 let c2 := D.not c1;
 let c3 := D.cnd c1 true (D.not (inDays d));
 let c4 := D.not c3;
 let c5 := D.cnd c3 true (D.lt m (0 : Int));
 let c6 := D.not c5;
 let c7 := D.cnd c5 true (D.gt m (1439 : Int));
 let c8 := D.mul (1440 : Int) d;
 let c9 := D.add c8 m;
 let c10 := D.sub c9 z; true = true ∧ (okTime z w h d m → True ∧ (c2 = true → c2 = true → c2 = true) ∧ (c2 = true → True) ∧ (c2 = true → c2 = true → c2 = true) ∧
  (D.and true c2 = true → c2 = true) ∧ (c4 = true → c4 = true → c4 = true) ∧ (D.and true c4 = true → c4 = true) ∧ (c6 = true → c6 = true → c6 = true) ∧ (D.and
  true c6 = true → c6 = true) ∧ (c7 = true → (0 : Int) = timeF z d m ∧ True) ∧ (c7 = false → inR IntKind.i64 c8 ∧ inR IntKind.i64 c9 ∧ inR IntKind.i64 c10 ∧ c10
  = timeF z d m ∧ True))) :
    evF (mkc KR2) noAnn 66 [cal z w h, .dat I d, .dat I m] [] ⟨okTime z w h d m, .dat I (timeF z d m), []⟩ := of_eq (by kernel_rfl) hvc
theorem vc_right (line t : Int) (cs : LC) (ns os : LB) (fs : List Off) (ls : List Line) (ks : List Cla) (hvc :
 let c1 := (cs, ns, os, fs, ls, ks);
 let c2 := soundF c1;
 let c3 := D.cnd c2 (D.ge line (0 : Int)) false;
 let c4 := D.cnd c3 (D.lt line (D.ilen ls)) false;
 let c5 := D.cnd c4 (D.ge t (0 : Int)) false; true = true ∧ (fewC c1 = true → fewC c1 = true ∧ (c2 = true → c2 = true → c2 = true) ∧ (D.and true c2 = true → c2 =
  true) ∧ (c3 = true → c3 = true → c3 = true) ∧ (c3 = true → c3 = true → c3 = true) ∧ (c3 = true → c3 = true → c3 = true) ∧ (c3 = true → c3 = true → c3 = true) ∧
  (D.and true c3 = true → c3 = true) ∧ (c4 = true → c4 = true → c4 = true) ∧ (D.and true c4 = true → c4 = true) ∧ (c5 = true → c5 = true → c5 = true) ∧ (D.and
  true c5 = true → c5 = true) ∧ D.cnd c5 (D.le t (2000000 : Int)) false = rightF c1 line t ∧ True)) :
    evF (mkc KR2) noAnn 37 [net cs ns os fs ls ks, .dat I line, .dat I t] [] ⟨fewC (cs, ns, os, fs, ls, ks) = true, .dat .bool (rightF (cs, ns, os, fs, ls, ks) line t), []⟩ := of_eq (by kernel_rfl) hvc
def KR3 : Kt := kOr 67 (dataK [.row C, .val I] (fun (c, d, _) => workP c.1 c.2.1 c.2.2 d) fun (c, d, _) => .dat .bool (workF c.2.1 c.2.2 d)) <|
  kOr 38 (dataK [.row C, .val I] (fun (c, t, _) => okLocal c.1 c.2.1 c.2.2 t) fun (c, t, _) => .tup [.dat I (dayF c.1 t), .dat I (minF c.1 t)]) <|
  kOr 66 (dataK [.row C, .val I, .val I] (fun (c, d, m, _) => okTime c.1 c.2.1 c.2.2 d m) fun (c, d, m, _) => .dat I (timeF c.1 d m)) <|
  kOr 37 (dataK [.row N, .val I, .val I] (fun (n, _, _, _) => fewC n = true) fun (n, l, t, _) => .dat .bool (rightF n l t)) KR2
theorem vc_on (line d : Int) (cs : LC) (ns os : LB) (fs : List Off) (ls : List Line) (ks : List Cla) (hvc :
 let c1 := (cs, ns, os, fs, ls, ks);
 let c2 := (D.get ls (D.nat line) (ByteArray.mk (D.nil UInt8).toArray, (0 : Int), (0 : Int), (0 : Int), (0 : Int), (0 : Int))).snd;
 let c3 := c2.fst;
 let c4 := (D.get fs (D.nat c3) (ByteArray.mk (D.nil UInt8).toArray, (0 : Int), (0 : Int), (0 : Int), (0 : Int), (0 : Int), D.nil ByteArray)).snd.snd.fst;
 let c5 := D.get cs (D.nat c4) ((0 : Int), D.nil Bool, D.nil Int);
 let c6 := c5.fst;
 let c7 := c5.snd;
 let c8 := c7.fst;
 let c9 := c7.snd;
 let c10 := c2.snd.snd.fst; true = true ∧ (onP c1 line d → D.ile (0 : Int) line ∧ D.ilt line (D.ilen ls) ∧ 1 = 1 ∧ 0 = 0 ∧ 1 = 1 ∧ 1 = 1 ∧ 0 = 0 ∧ D.ile (0 :
  Int) c3 ∧ D.ilt c3 (D.ilen fs) ∧ D.ile (0 : Int) c4 ∧ D.ilt c4 (D.ilen cs) ∧ 1 = 1 ∧ 0 = 0 ∧ 1 = 1 ∧ 0 = 0 ∧ 1 = 1 ∧ 1 = 1 ∧ 0 = 0 ∧ okTime c6 c8 c9 d c10 ∧ 1
  = 1 ∧ 0 = 0 ∧ workP c6 c8 c9 d ∧ timeF c6 d c10 = leaveF c1 line d ∧ workF c8 c9 d = onB c1 line d ∧ True)) :
    evF (mkc KR3) noAnn 39 [net cs ns os fs ls ks, .dat I line, .dat I d] [] ⟨onP (cs, ns, os, fs, ls, ks) line d, .tup [.dat I (leaveF (cs, ns, os, fs, ls, ks) line d), .dat .bool (onB (cs, ns, os, fs, ls, ks) line d)], []⟩ := of_eq (by kernel_rfl) hvc
def KR4 : Kt := kOr 39 (dataK [.row N, .val I, .val I] (fun (n, l, d, _) => onP n l d) fun (n, l, d, _) => .tup [.dat I (leaveF n l d), .dat .bool (onB n l d)]) KR3
def rdepA (n : Net) (line t : Int) : Ann := ⟨fun id s => match id with
  | 6 => some { α := Int, inv := fun d => rdepTo n line t d, st := fun d => put s [(11, .dat I d)], μ := fun d => D.nat (D.sub (D.add (dayF (calF n line).1 t) 62) d) }
  | _ => none, fun _ _ => none, fun _ _ => none⟩
theorem vc_rdepart (line t : Int) (cs : LC) (ns os : LB) (fs : List Off) (ls : List Line) (ks : List Cla) (hvc :
 let c1 := (ls, ks);
 let c2 := (fs, c1);
 let c3 := (cs, ns, os, c2);
 let c4 := rightF c3 line t;
 let c5 := D.not c4;
 let c6 := departD c3 line t;
 let c7 := departE c3 line t;
 let c8 := D.get ls (D.nat line) (ByteArray.mk (D.nil UInt8).toArray, (0 : Int), (0 : Int), (0 : Int), (0 : Int), (0 : Int));
 let c9 := c8.snd;
 let c10 := c9.fst;
 let c11 := D.get fs (D.nat c10) (ByteArray.mk (D.nil UInt8).toArray, (0 : Int), (0 : Int), (0 : Int), (0 : Int), (0 : Int), D.nil ByteArray);
 let c12 := c11.snd.snd;
 let c13 := c12.fst;
 let c14 := D.get cs (D.nat c13) ((0 : Int), D.nil Bool, D.nil Int);
 let c15 := c14.fst;
 let c16 := c14.snd;
 let c17 := c16.fst;
 let c18 := c16.snd;
 let c19 := dayF c15 t;
 let c20 := minF c15 t;
 let c21 := D.add c19 (61 : Int);
 let c22 := D.add t (86400 : Int);
 let c23 := D.add (dayF (calF c3 line).fst t) (62 : Int); true = true ∧ (fewC c3 = true → fewC c3 = true ∧ (c5 = true → (0 : Int) = c6 ∧ (1 : Int) = c7 ∧ True) ∧
  (c5 = false → D.ile (0 : Int) line ∧ D.ilt line (D.ilen ls) ∧ D.ile (0 : Int) c10 ∧ D.ilt c10 (D.ilen fs) ∧ D.ile (0 : Int) c13 ∧ D.ilt c13 (D.ilen cs) ∧ 1 = 1
  ∧ 0 = 0 ∧ 1 = 1 ∧ 0 = 0 ∧ okLocal c15 c17 c18 t ∧ (∃ x, rdepTo c3 line t x ∧ cs = cs ∧ ns = ns ∧ os = os ∧ fs = fs ∧ ls = ls ∧ ks = ks ∧ line = line ∧ t = t ∧
  c3 = c3 ∧ 1 = 1 ∧ 0 = 0 ∧ 0 = 0 ∧ c19 = c19 ∧ c20 = c20 ∧ c19 = x ∧ cs = cs ∧ ns = ns ∧ os = os ∧ fs = fs ∧ ls = ls ∧ ks = ks ∧ line = line ∧ t = t ∧ c4 = c4 ∧
  c5 = c5 ∧ c3 = c3 ∧ cs = cs ∧ c2 = c2 ∧ fs = fs ∧ c1 = c1 ∧ ls = ls ∧ line = line ∧ c8 = c8 ∧ c9 = c9 ∧ c10 = c10 ∧ c11 = c11 ∧ c12 = c12 ∧ c13 = c13 ∧ c14 =
  c14 ∧ c15 = c15 ∧ c17 = c17 ∧ c18 = c18 ∧ c19 = c19 ∧ c20 = c20 ∧ c15 = c15 ∧ c17 = c17 ∧ c18 = c18 ∧ t = t ∧ c19 = c19 ∧ c20 = c20 ∧ c19 = c19 ∧ c20 = c20 ∧
  c19 = c19 ∧ c15 = c15 ∧ c17 = c17 ∧ c18 = c18 ∧ True) ∧ ∀ (x : Int),
 let c24 := D.cnd (onB c3 line x) (D.ge (leaveF c3 line x) t) false;
 let c25 := D.cnd c24 (D.lt (leaveF c3 line x) c22) false;
 let c26 := D.add x (1 : Int); rdepTo c3 line t x → inR IntKind.i64 c21 ∧ (D.le x c21 = true → onP c3 line x ∧ (onB c3 line x = true → onB c3 line x = true → onB
  c3 line x = true) ∧ (onB c3 line x = true → onB c3 line x = true → onB c3 line x = true) ∧ (D.and true (onB c3 line x) = true → onB c3 line x = true) ∧ (c24 =
  true → c24 = true → c24 = true) ∧ (c24 = true → inR IntKind.i64 c22) ∧ (c24 = true → c24 = true → c24 = true) ∧ (c24 = true → c24 = true → c24 = true) ∧ (D.and
  true c24 = true → c24 = true) ∧ (c25 = true → leaveF c3 line x = c6 ∧ (0 : Int) = c7 ∧ True) ∧ (c25 = false → inR IntKind.i64 c26 ∧ ∃ y, rdepTo c3 line t y ∧
  (cs = cs ∧ ns = ns ∧ os = os ∧ fs = fs ∧ ls = ls ∧ ks = ks ∧ line = line ∧ t = t ∧ c3 = c3 ∧ 1 = 1 ∧ 0 = 0 ∧ 0 = 0 ∧ c19 = c19 ∧ c20 = c20 ∧ c26 = y ∧ cs = cs
  ∧ ns = ns ∧ os = os ∧ fs = fs ∧ ls = ls ∧ ks = ks ∧ line = line ∧ t = t ∧ c4 = c4 ∧ c5 = c5 ∧ c3 = c3 ∧ cs = cs ∧ c2 = c2 ∧ fs = fs ∧ c1 = c1 ∧ ls = ls ∧ line
  = line ∧ c8 = c8 ∧ c9 = c9 ∧ c10 = c10 ∧ c11 = c11 ∧ c12 = c12 ∧ c13 = c13 ∧ c14 = c14 ∧ c15 = c15 ∧ c17 = c17 ∧ c18 = c18 ∧ c19 = c19 ∧ c20 = c20 ∧ c15 = c15
  ∧ c17 = c17 ∧ c18 = c18 ∧ t = t ∧ c19 = c19 ∧ c20 = c20 ∧ c19 = c19 ∧ c20 = c20 ∧ c19 = c19 ∧ c15 = c15 ∧ c17 = c17 ∧ c18 = c18 ∧ True) ∧ D.nlt (D.nat (D.sub
  c23 y)) (D.nat (D.sub c23 x)))) ∧ (D.le x c21 = false → (0 : Int) = c6 ∧ (20 : Int) = c7 ∧ True)))) :
    evF (mkc KR4) (rdepA (cs, ns, os, fs, ls, ks) line t) 14 [net cs ns os fs ls ks, .dat I line, .dat I t] [] ⟨fewC (cs, ns, os, fs, ls, ks) = true, .tup [.dat I (departD (cs, ns, os, fs, ls, ks) line t), .dat I (departE (cs, ns, os, fs, ls, ks) line t)], []⟩ := of_eq (by kernel_rfl) hvc
def rdepsA (n : Net) (line a b : Int) : Ann := ⟨fun id s => match id with
  | 8 => match s.sig.T 18 with
    | .buf nm _ => some { α := Int, inv := fun d => rdepsTo n line a b d, st := fun d => putM (put (flat s) [(15, .dat I d), (9, .buf nm (D.len (dayDeps n line a b d)))]) nm (.buf 3 I (dayDeps n line a b d) []), μ := fun d => D.nat (D.sub (D.add (dayF (calF n line).1 b) 1) d) }
    | _ => none
  | _ => none, fun _ _ => none, fun _ _ => none⟩
theorem vc_rdeps (line a b : Int) (cs : LC) (ns os : LB) (fs : List Off) (ls : List Line) (ks : List Cla) (hvc :
 let c1 := (ls, ks);
 let c2 := (fs, c1);
 let c3 := (cs, ns, os, c2);
 let c4 := rightF c3 line a;
 let c5 := D.not c4;
 let c6 := D.not c5;
 let c7 := D.cnd c5 true (D.not (rightF c3 line b));
 let c8 := D.not c7;
 let c9 := D.add a (86400 : Int);
 let c10 := D.cnd c7 true (D.gt b c9);
 let c11 := depsF c3 line a b;
 let c12 := D.get ls (D.nat line) (ByteArray.mk (D.nil UInt8).toArray, (0 : Int), (0 : Int), (0 : Int), (0 : Int), (0 : Int));
 let c13 := c12.snd;
 let c14 := c13.fst;
 let c15 := D.get fs (D.nat c14) (ByteArray.mk (D.nil UInt8).toArray, (0 : Int), (0 : Int), (0 : Int), (0 : Int), (0 : Int), D.nil ByteArray);
 let c16 := c15.snd.snd;
 let c17 := c16.fst;
 let c18 := D.get cs (D.nat c17) ((0 : Int), D.nil Bool, D.nil Int);
 let c19 := c18.fst;
 let c20 := c18.snd;
 let c21 := c20.fst;
 let c22 := c20.snd;
 let c23 := dayF c19 a;
 let c24 := minF c19 a;
 let c25 := dayF c19 b;
 let c26 := minF c19 b;
 let c27 := D.add (dayF (calF c3 line).fst b) (1 : Int); true = true ∧ (fewC c3 = true → fewC c3 = true ∧ (c6 = true → c6 = true → c6 = true) ∧ (c6 = true → c6 =
  true → c6 = true) ∧ (c6 = true → c6 = true → c6 = true) ∧ (c6 = true → fewC c3 = true) ∧ (c6 = true → c6 = true → c6 = true) ∧ (D.and true c6 = true → c6 =
  true) ∧ (c8 = true → c8 = true → c8 = true) ∧ (c8 = true → inR IntKind.i64 c9) ∧ (c8 = true → c8 = true → c8 = true) ∧ (c8 = true → c8 = true → c8 = true) ∧
  (D.and true c8 = true → c8 = true) ∧ (c10 = true → D.len (D.nil Int) = 0 ∧ D.nil Int = c11 ∧ True) ∧ (c10 = false → D.ile (0 : Int) line ∧ D.ilt line (D.ilen
  ls) ∧ D.ile (0 : Int) c14 ∧ D.ilt c14 (D.ilen fs) ∧ D.ile (0 : Int) c17 ∧ D.ilt c17 (D.ilen cs) ∧ 1 = 1 ∧ 0 = 0 ∧ 1 = 1 ∧ 0 = 0 ∧ okLocal c19 c21 c22 a ∧ 1 = 1
  ∧ 0 = 0 ∧ okLocal c19 c21 c22 b ∧ (∃ x,
 let c28 := dayDeps c3 line a b x; rdepsTo c3 line a b x ∧ cs = cs ∧ ns = ns ∧ os = os ∧ fs = fs ∧ ls = ls ∧ ks = ks ∧ line = line ∧ a = a ∧ b = b ∧ c3 = c3 ∧
  Value.slice none (0) (0) = Value.slice none (0) (0) ∧ 0 = D.len c28 ∧ 1 = 1 ∧ 0 = 0 ∧ 0 = 0 ∧ c23 = c23 ∧ c24 = c24 ∧ c25 = c25 ∧ c26 = c26 ∧ c23 = x ∧ 0 = 0 ∧
  cs = cs ∧ ns = ns ∧ os = os ∧ fs = fs ∧ ls = ls ∧ ks = ks ∧ line = line ∧ a = a ∧ c4 = c4 ∧ c5 = c5 ∧ c5 = c5 ∧ c7 = c7 ∧ c7 = c7 ∧ c10 = c10 ∧ c3 = c3 ∧ cs =
  cs ∧ c2 = c2 ∧ fs = fs ∧ c1 = c1 ∧ ls = ls ∧ line = line ∧ c12 = c12 ∧ c13 = c13 ∧ c14 = c14 ∧ c15 = c15 ∧ c16 = c16 ∧ c17 = c17 ∧ c18 = c18 ∧ c19 = c19 ∧ c21
  = c21 ∧ c22 = c22 ∧ c23 = c23 ∧ c24 = c24 ∧ c19 = c19 ∧ c21 = c21 ∧ c22 = c22 ∧ a = a ∧ c23 = c23 ∧ c24 = c24 ∧ c23 = c23 ∧ c24 = c24 ∧ c25 = c25 ∧ c26 = c26 ∧
  c19 = c19 ∧ c21 = c21 ∧ c22 = c22 ∧ b = b ∧ c25 = c25 ∧ c26 = c26 ∧ c25 = c25 ∧ c26 = c26 ∧ c23 = c23 ∧ D.nil Int = c28 ∧ c19 = c19 ∧ c21 = c21 ∧ c22 = c22 ∧
  True) ∧ ∀ (x : Int),
 let c29 := D.cnd (onB c3 line x) (D.ge (leaveF c3 line x) a) false;
 let c30 := D.cnd c29 (D.lt (leaveF c3 line x) b) false;
 let c31 := dayDeps c3 line a b x;
 let c32 := D.len c31;
 let c33 := [leaveF c3 line x];
 let c34 := D.nadd c32 (D.len c33);
 let c35 := D.add x (1 : Int); rdepsTo c3 line a b x → (D.le x c25 = true → onP c3 line x ∧ (onB c3 line x = true → onB c3 line x = true → onB c3 line x = true)
  ∧ (onB c3 line x = true → onB c3 line x = true → onB c3 line x = true) ∧ (D.and true (onB c3 line x) = true → onB c3 line x = true) ∧ (c29 = true → c29 = true
  → c29 = true) ∧ (c29 = true → c29 = true → c29 = true) ∧ (D.and true c29 = true → c29 = true) ∧ (c30 = true → c32 = c32 ∧ D.nle (D.nmul c34 (8))
  (140737488355328) ∧ D.nle c34 (9223372036854775807) ∧ inR IntKind.i64 c35 ∧ ∃ y,
 let c36 := dayDeps c3 line a b y; rdepsTo c3 line a b y ∧ (cs = cs ∧ ns = ns ∧ os = os ∧ fs = fs ∧ ls = ls ∧ ks = ks ∧ line = line ∧ a = a ∧ b = b ∧ c3 = c3 ∧
  Value.slice none (0) (0) = Value.slice none (0) (0) ∧ c34 = D.len c36 ∧ 1 = 1 ∧ 0 = 0 ∧ 0 = 0 ∧ c23 = c23 ∧ c24 = c24 ∧ c25 = c25 ∧ c26 = c26 ∧ c35 = y ∧ 0 = 0
  ∧ cs = cs ∧ ns = ns ∧ os = os ∧ fs = fs ∧ ls = ls ∧ ks = ks ∧ line = line ∧ a = a ∧ c4 = c4 ∧ c5 = c5 ∧ c5 = c5 ∧ c7 = c7 ∧ c7 = c7 ∧ c10 = c10 ∧ c3 = c3 ∧ cs
  = cs ∧ c2 = c2 ∧ fs = fs ∧ c1 = c1 ∧ ls = ls ∧ line = line ∧ c12 = c12 ∧ c13 = c13 ∧ c14 = c14 ∧ c15 = c15 ∧ c16 = c16 ∧ c17 = c17 ∧ c18 = c18 ∧ c19 = c19 ∧
  c21 = c21 ∧ c22 = c22 ∧ c23 = c23 ∧ c24 = c24 ∧ c19 = c19 ∧ c21 = c21 ∧ c22 = c22 ∧ a = a ∧ c23 = c23 ∧ c24 = c24 ∧ c23 = c23 ∧ c24 = c24 ∧ c25 = c25 ∧ c26 =
  c26 ∧ c19 = c19 ∧ c21 = c21 ∧ c22 = c22 ∧ b = b ∧ c25 = c25 ∧ c26 = c26 ∧ c25 = c25 ∧ c26 = c26 ∧ c23 = c23 ∧ D.app c31 c33 = c36 ∧ c19 = c19 ∧ c21 = c21 ∧ c22
  = c22 ∧ True) ∧ D.nlt (D.nat (D.sub c27 y)) (D.nat (D.sub c27 x))) ∧ (c30 = false → inR IntKind.i64 c35 ∧ ∃ y,
 let c37 := dayDeps c3 line a b y; rdepsTo c3 line a b y ∧ (cs = cs ∧ ns = ns ∧ os = os ∧ fs = fs ∧ ls = ls ∧ ks = ks ∧ line = line ∧ a = a ∧ b = b ∧ c3 = c3 ∧
  Value.slice none (0) (0) = Value.slice none (0) (0) ∧ c32 = D.len c37 ∧ 1 = 1 ∧ 0 = 0 ∧ 0 = 0 ∧ c23 = c23 ∧ c24 = c24 ∧ c25 = c25 ∧ c26 = c26 ∧ c35 = y ∧ 0 = 0
  ∧ cs = cs ∧ ns = ns ∧ os = os ∧ fs = fs ∧ ls = ls ∧ ks = ks ∧ line = line ∧ a = a ∧ c4 = c4 ∧ c5 = c5 ∧ c5 = c5 ∧ c7 = c7 ∧ c7 = c7 ∧ c10 = c10 ∧ c3 = c3 ∧ cs
  = cs ∧ c2 = c2 ∧ fs = fs ∧ c1 = c1 ∧ ls = ls ∧ line = line ∧ c12 = c12 ∧ c13 = c13 ∧ c14 = c14 ∧ c15 = c15 ∧ c16 = c16 ∧ c17 = c17 ∧ c18 = c18 ∧ c19 = c19 ∧
  c21 = c21 ∧ c22 = c22 ∧ c23 = c23 ∧ c24 = c24 ∧ c19 = c19 ∧ c21 = c21 ∧ c22 = c22 ∧ a = a ∧ c23 = c23 ∧ c24 = c24 ∧ c23 = c23 ∧ c24 = c24 ∧ c25 = c25 ∧ c26 =
  c26 ∧ c19 = c19 ∧ c21 = c21 ∧ c22 = c22 ∧ b = b ∧ c25 = c25 ∧ c26 = c26 ∧ c25 = c25 ∧ c26 = c26 ∧ c23 = c23 ∧ c31 = c37 ∧ c19 = c19 ∧ c21 = c21 ∧ c22 = c22 ∧
  True) ∧ D.nlt (D.nat (D.sub c27 y)) (D.nat (D.sub c27 x)))) ∧ (D.le x c25 = false → c32 = c32 ∧ c31 = c11 ∧ True)))) :
    evF { mkc KR4 with mb := fun t => t == 18 } (rdepsA (cs, ns, os, fs, ls, ks) line a b) 19 [net cs ns os fs ls ks, .dat I line, .dat I a, .dat I b] [] ⟨fewC (cs, ns, os, fs, ls, ks) = true, .dat R (depsF (cs, ns, os, fs, ls, ks) line a b), []⟩ := of_eq (by kernel_rfl) hvc
def KR5 : Kt := kOr 14 (dataK [.row N, .val I, .val I] (fun (n, _, _, _) => fewC n = true) fun (n, l, t, _) => .tup [.dat I (departD n l t), .dat I (departE n l t)]) <|
  kOr 19 (dataK [.row N, .val I, .val I, .val I] (fun (n, _, _, _, _) => fewC n = true) fun (n, l, a, b, _) => .dat R (depsF n l a b)) KR4
def rwaitA (n : Net) (line a b : Int) : Ann := ⟨fun id s => match id with
  | 6 => some { α := Int × Int, inv := fun x => rwaitTo n line a b x.1 x.2, st := fun x => put s [(11, .dat I x.1), (12, .dat I x.2)], μ := fun x => D.nat (D.sub (D.add (D.ilen (depsF n line a b)) 1) x.2) }
  | _ => none, fun id s => match id with
  | 4 => some (put (frz (allNames s) s) [(40, .top)])
  | _ => none, fun _ _ => none⟩
theorem vc_rwait (line a b : Int) (cs : LC) (ns os : LB) (fs : List Off) (ls : List Line) (ks : List Cla) (hvc :
 let c1 := (cs, ns, os, fs, ls, ks);
 let c2 := rightF c1 line a;
 let c3 := D.not c2;
 let c4 := D.not c3;
 let c5 := D.cnd c3 true (D.not (rightF c1 line b));
 let c6 := D.not c5;
 let c7 := D.cnd c5 true (D.le b a);
 let c8 := D.not c7;
 let c9 := D.add a (86400 : Int);
 let c10 := D.cnd c7 true (D.gt b c9);
 let c11 := waitD c1 line a b;
 let c12 := waitE c1 line a b;
 let c13 := D.sub a (1 : Int);
 let c14 := [c13];
 let c15 := depsF c1 line a b;
 let c16 := D.nadd (1) (D.len c15);
 let c17 := D.app c14 c15;
 let c18 := D.ilen c17;
 let c19 := D.add (D.ilen c15) (1 : Int); true = true ∧ (fewC c1 = true → fewC c1 = true ∧ (c4 = true → c4 = true → c4 = true) ∧ (c4 = true → c4 = true → c4 =
  true) ∧ (c4 = true → c4 = true → c4 = true) ∧ (c4 = true → fewC c1 = true) ∧ (c4 = true → c4 = true → c4 = true) ∧ (D.and true c4 = true → c4 = true) ∧ (c6 =
  true → c6 = true → c6 = true) ∧ (c6 = true → c6 = true → c6 = true) ∧ (D.and true c6 = true → c6 = true) ∧ (c8 = true → c8 = true → c8 = true) ∧ (c8 = true →
  inR IntKind.i64 c9) ∧ (c8 = true → c8 = true → c8 = true) ∧ (c8 = true → c8 = true → c8 = true) ∧ (D.and true c8 = true → c8 = true) ∧ (c10 = true → (0 : Int)
  = c11 ∧ (1 : Int) = c12 ∧ True) ∧ (c10 = false → inR IntKind.i64 c13 ∧ fewC c1 = true ∧ D.len c14 = 1 ∧ D.nle (D.nmul c16 (8)) (140737488355328) ∧ D.nle c16
  (9223372036854775807) ∧ cs = cs ∧ ns = ns ∧ os = os ∧ fs = fs ∧ ls = ls ∧ ks = ks ∧ line = line ∧ a = a ∧ b = b ∧ c1 = c1 ∧ (0 : Int) = (0 : Int) ∧ (0 : Int) =
  (0 : Int) ∧ D.len c17 = c16 ∧ c17 = c17 ∧ cs = cs ∧ ns = ns ∧ os = os ∧ fs = fs ∧ ls = ls ∧ ks = ks ∧ line = line ∧ a = a ∧ c2 = c2 ∧ c3 = c3 ∧ c3 = c3 ∧ c5 =
  c5 ∧ c5 = c5 ∧ c7 = c7 ∧ c7 = c7 ∧ c10 = c10 ∧ a = a ∧ c13 = c13 ∧ cs = cs ∧ ns = ns ∧ os = os ∧ fs = fs ∧ ls = ls ∧ ks = ks ∧ line = line ∧ a = a ∧ b = b ∧
  c15 = c15 ∧ D.len c17 = c16 ∧ c17 = c17 ∧ (∃ (x : Int × Int), rwaitTo c1 line a b x.fst x.snd ∧ cs = cs ∧ ns = ns ∧ os = os ∧ fs = fs ∧ ls = ls ∧ ks = ks ∧
  line = line ∧ a = a ∧ b = b ∧ c1 = c1 ∧ c17 = c17 ∧ (0 : Int) = x.fst ∧ (0 : Int) = x.snd ∧ cs = cs ∧ ns = ns ∧ os = os ∧ fs = fs ∧ ls = ls ∧ ks = ks ∧ line =
  line ∧ a = a ∧ c2 = c2 ∧ c3 = c3 ∧ c3 = c3 ∧ c5 = c5 ∧ c5 = c5 ∧ c7 = c7 ∧ c7 = c7 ∧ c10 = c10 ∧ a = a ∧ c13 = c13 ∧ cs = cs ∧ ns = ns ∧ os = os ∧ fs = fs ∧ ls
  = ls ∧ ks = ks ∧ line = line ∧ a = a ∧ b = b ∧ c15 = c15 ∧ c17 = c17 ∧ True) ∧ ∀ (x : Int × Int),
 let c20 := D.lt x.snd c18;
 let c21 := D.get c17 (D.nat x.snd) (0 : Int);
 let c22 := D.add c21 (1 : Int);
 let c23 := D.lt c22 b;
 let c24 := departE c1 line c22;
 let c25 := D.ne c24 (0 : Int);
 let c26 := D.sub (departD c1 line c22) c21;
 let c27 := D.sub c26 (1 : Int);
 let c28 := D.add x.snd (1 : Int); rwaitTo c1 line a b x.fst x.snd → (c20 = true → D.ile (0 : Int) x.snd ∧ D.ilt x.snd c18 ∧ inR IntKind.i64 c22 ∧ (c23 = true →
  D.ile (0 : Int) x.snd ∧ D.ilt x.snd c18 ∧ inR IntKind.i64 c22 ∧ fewC c1 = true ∧ (c25 = true → (0 : Int) = c11 ∧ c24 = c12 ∧ True) ∧ (c25 = false → D.ile (0 :
  Int) x.snd ∧ D.ilt x.snd c18 ∧ inR IntKind.i64 c26 ∧ inR IntKind.i64 c27 ∧ inR IntKind.i64 c28 ∧ ∃ (y : Int × Int), rwaitTo c1 line a b y.fst y.snd ∧ (cs = cs
  ∧ ns = ns ∧ os = os ∧ fs = fs ∧ ls = ls ∧ ks = ks ∧ line = line ∧ a = a ∧ b = b ∧ c1 = c1 ∧ c17 = c17 ∧ D.mx x.fst c27 = y.fst ∧ c28 = y.snd ∧ cs = cs ∧ ns =
  ns ∧ os = os ∧ fs = fs ∧ ls = ls ∧ ks = ks ∧ line = line ∧ a = a ∧ c2 = c2 ∧ c3 = c3 ∧ c3 = c3 ∧ c5 = c5 ∧ c5 = c5 ∧ c7 = c7 ∧ c7 = c7 ∧ c10 = c10 ∧ a = a ∧
  c13 = c13 ∧ cs = cs ∧ ns = ns ∧ os = os ∧ fs = fs ∧ ls = ls ∧ ks = ks ∧ line = line ∧ a = a ∧ b = b ∧ c15 = c15 ∧ c17 = c17 ∧ True) ∧ D.nlt (D.nat (D.sub c19
  y.snd)) (D.nat (D.sub c19 x.snd)))) ∧ (c23 = false → inR IntKind.i64 c28 ∧ ∃ (y : Int × Int), rwaitTo c1 line a b y.fst y.snd ∧ (cs = cs ∧ ns = ns ∧ os = os ∧
  fs = fs ∧ ls = ls ∧ ks = ks ∧ line = line ∧ a = a ∧ b = b ∧ c1 = c1 ∧ c17 = c17 ∧ x.fst = y.fst ∧ c28 = y.snd ∧ cs = cs ∧ ns = ns ∧ os = os ∧ fs = fs ∧ ls = ls
  ∧ ks = ks ∧ line = line ∧ a = a ∧ c2 = c2 ∧ c3 = c3 ∧ c3 = c3 ∧ c5 = c5 ∧ c5 = c5 ∧ c7 = c7 ∧ c7 = c7 ∧ c10 = c10 ∧ a = a ∧ c13 = c13 ∧ cs = cs ∧ ns = ns ∧ os
  = os ∧ fs = fs ∧ ls = ls ∧ ks = ks ∧ line = line ∧ a = a ∧ b = b ∧ c15 = c15 ∧ c17 = c17 ∧ True) ∧ D.nlt (D.nat (D.sub c19 y.snd)) (D.nat (D.sub c19 x.snd))))
  ∧ (c20 = false → x.fst = c11 ∧ (0 : Int) = c12 ∧ True)))) :
    evF { mkc KR5 with mb := fun t => t == 40 } (rwaitA (cs, ns, os, fs, ls, ks) line a b) 16 [net cs ns os fs ls ks, .dat I line, .dat I a, .dat I b] [] ⟨fewC (cs, ns, os, fs, ls, ks) = true, .tup [.dat I (waitD (cs, ns, os, fs, ls, ks) line a b), .dat I (waitE (cs, ns, os, fs, ls, ks) line a b)], []⟩ := of_eq (by kernel_rfl) hvc
def KR6 : Kt := kOr 16 (dataK [.row N, .val I, .val I, .val I] (fun (n, _, _, _, _) => fewC n = true) fun (n, l, a, b, _) => .tup [.dat I (waitD n l a b), .dat I (waitE n l a b)]) KR5
theorem KSR0 : KSound Tryz.prog G0 KR0 := KST16
theorem depart_some {n : Net} {l t : Int} (hu : usableF n l [t] = true) (h : departE n l t = 0) : firstO n l t = some (departD n l t) := by
  unfold departE at h
  unfold departD firstD
  rw [if_pos hu] at h ⊢
  unfold firstB at h
  cases e : firstO n l t with
  | none => rw [e] at h; cases h
  | some u => rfl
theorem depart_none {n : Net} {l t : Int} (hu : usableF n l [t] = true) (h : departE n l t ≠ 0) : firstO n l t = none ∧ departE n l t = 20 := by
  unfold departE at h ⊢
  rw [if_pos hu] at h ⊢
  unfold firstB at h ⊢
  cases e : firstO n l t with
  | none => exact ⟨rfl, rfl⟩
  | some u => rw [e] at h; exact (h rfl).elim
theorem depart_of {n : Net} {l t u : Int} (hu : usableF n l [t] = true) (h : firstO n l t = some u) : departD n l t = u ∧ departE n l t = 0 := by
  unfold departD departE firstD firstB
  rw [if_pos hu, if_pos hu, h]; exact ⟨rfl, rfl⟩
theorem dlt {a b : Int} (h : a < b) : D.lt a b = true := decide_eq_true h
theorem lineOf_fold (cs : LC) (ns os : LB) (fs : List Off) (ls : List Line) (ks : List Cla) (line : Int) : ls.getD line.toNat (⟨#[]⟩, 0, 0, 0, 0, 0) = lineOf (cs, ns, os, fs, ls, ks) line := rfl
theorem calF_fold (cs : LC) (ns os : LB) (fs : List Off) (ls : List Line) (ks : List Cla) (line : Int) : cs.getD (fs.getD (lineOf (cs, ns, os, fs, ls, ks) line).2.1.toNat (⟨#[]⟩, 0, 0, 0, 0, 0, [])).2.2.1.toNat (0, [], []) = calF (cs, ns, os, fs, ls, ks) line := rfl
theorem deps_first (cs : LC) (ns os : LB) (fs : List Off) (ls : List Line) (ks : List Cla) {line a b i : Int} (ha : atOk (cs, ns, os, fs, ls, ks) line) (ho : depsOk (cs, ns, os, fs, ls, ks) line a b) (hab : a ≤ b) (i0 : 0 ≤ i) (i1 : i < (depsF (cs, ns, os, fs, ls, ks) line a b).length) :
    firstO (cs, ns, os, fs, ls, ks) line (atF (depsF (cs, ns, os, fs, ls, ks) line a b) a i) = some ((depsF (cs, ns, os, fs, ls, ks) line a b).getD i.toNat 0) ∧ a ≤ atF (depsF (cs, ns, os, fs, ls, ks) line a b) a i ∧ atF (depsF (cs, ns, os, fs, ls, ks) line a b) a i ≤ b ∧ (depsF (cs, ns, os, fs, ls, ks) line a b).getD i.toNat 0 < b := by
  have hs := deps_sorted (cs, ns, os, fs, ls, ks) line a b
  have hm := fun v => mem_deps (v := v) ha ho
  have hb := ho.2
  generalize hl : depsF (cs, ns, os, fs, ls, ks) line a b = l at *
  have hg : l.getD i.toNat 0 = l[i.toNat]'(by omega) := by rw [List.getD_eq_getElem?_getD, List.getElem?_eq_getElem (by omega), Option.getD_some]
  obtain ⟨g1, g2, g3⟩ := (hm _).1 (hg ▸ List.getElem_mem (by omega))
  have hat : a ≤ atF l a i ∧ atF l a i ≤ l.getD i.toNat 0 ∧ ∀ v ∈ l, atF l a i ≤ v → l.getD i.toNat 0 ≤ v := by
    have hsort : ∀ j k : Nat, (hj : j < k) → (hk : k < l.length) → l[j]'(by omega) < l[k]'hk := fun j k hj hk => List.pairwise_iff_getElem.1 hs j k (by omega) hk hj
    unfold atF
    split
    · rename_i h0
      subst h0
      refine ⟨Int.le_refl _, g1, fun v hv _ => ?_⟩
      obtain ⟨j, hj, rfl⟩ := List.getElem_of_mem hv
      rw [hg]
      rcases Nat.eq_zero_or_pos j with h | h
      · subst h; exact Int.le_refl _
      · have := hsort 0 j h hj
        exact Int.le_of_lt this
    · rename_i h0
      have hp : l.getD (i - 1).toNat 0 = l[(i - 1).toNat]'(by omega) := by rw [List.getD_eq_getElem?_getD, List.getElem?_eq_getElem (by omega), Option.getD_some]
      obtain ⟨k1, k2, k3⟩ := (hm _).1 (hp ▸ List.getElem_mem (by omega))
      have hlt := hsort (i - 1).toNat i.toNat (by omega) (by omega)
      rw [← hp, ← hg] at hlt
      refine ⟨by omega, by omega, fun v hv hle => ?_⟩
      obtain ⟨j, hj, rfl⟩ := List.getElem_of_mem hv
      rw [hg]
      rcases Nat.lt_trichotomy j i.toNat with h | h | h
      · exfalso
        rcases Nat.lt_or_ge j (i - 1).toNat with q | q
        · have := hsort j (i - 1).toNat q (by omega)
          omega
        · have : j = (i - 1).toNat := by omega
          subst this; omega
      · subst h; exact Int.le_refl _
      · exact Int.le_of_lt (hsort i.toNat j h hj)
  refine ⟨first_is ha hat.2.1 (by omega) g3 fun v v1 v2 hv => ?_, hat.1, by omega, g2⟩
  have := hat.2.2 v ((hm v).2 ⟨by omega, by omega, hv⟩) v1
  omega
theorem deps_last (cs : LC) (ns os : LB) (fs : List Off) (ls : List Line) (ks : List Cla) {line a b u : Int} (ha : atOk (cs, ns, os, fs, ls, ks) line) (ho : depsOk (cs, ns, os, fs, ls, ks) line a b) (hab : a ≤ b) (h : firstO (cs, ns, os, fs, ls, ks) line (atF (depsF (cs, ns, os, fs, ls, ks) line a b) a (depsF (cs, ns, os, fs, ls, ks) line a b).length) = some u) : b ≤ u ∧ a ≤ atF (depsF (cs, ns, os, fs, ls, ks) line a b) a (depsF (cs, ns, os, fs, ls, ks) line a b).length ∧ atF (depsF (cs, ns, os, fs, ls, ks) line a b) a (depsF (cs, ns, os, fs, ls, ks) line a b).length ≤ b := by
  have hs := deps_sorted (cs, ns, os, fs, ls, ks) line a b
  have hm := fun v => mem_deps (v := v) ha ho
  obtain ⟨u1, u2, u3, u4⟩ := first_some ha h
  generalize hl : depsF (cs, ns, os, fs, ls, ks) line a b = l at *
  have key : a ≤ atF l a l.length ∧ atF l a l.length ≤ b ∧ ∀ v ∈ l, v < atF l a l.length := by
    have hsort : ∀ j k : Nat, (hj : j < k) → (hk : k < l.length) → l[j]'(by omega) < l[k]'hk := fun j k hj hk => List.pairwise_iff_getElem.1 hs j k (by omega) hk hj
    unfold atF
    split
    · rename_i h0
      have : l = [] := List.eq_nil_of_length_eq_zero (by omega)
      subst this
      exact ⟨Int.le_refl _, hab, fun v hv => by cases hv⟩
    · rename_i h0
      have hp : l.getD ((l.length : Int) - 1).toNat 0 = l[((l.length : Int) - 1).toNat]'(by omega) := by rw [List.getD_eq_getElem?_getD, List.getElem?_eq_getElem (by omega), Option.getD_some]
      obtain ⟨k1, k2, k3⟩ := (hm _).1 (hp ▸ List.getElem_mem (by omega))
      refine ⟨by omega, by omega, fun v hv => ?_⟩
      obtain ⟨j, hj, rfl⟩ := List.getElem_of_mem hv
      rcases Nat.lt_or_ge j ((l.length : Int) - 1).toNat with q | q
      · have := hsort j _ q (by omega)
        omega
      · have : j = ((l.length : Int) - 1).toNat := by omega
        subst this; omega
  refine ⟨Int.not_lt.1 fun hlt => ?_, key.1, key.2.1⟩
  have := key.2.2 u ((hm u).2 ⟨by omega, hlt, u3⟩)
  omega
theorem in_small' {x : Int} (h : -4000000000000 ≤ x ∧ x ≤ 4000000000000) : inR .i64 x := by unfold inR; simp only; omega
theorem t_rfloor (a b : Int) : SoundC Tryz.prog G0 65 [.dat I a, .dat I b] [] ⟨floorP a b, .tup [.dat I (flrD a b), .dat I (remF a b)], []⟩ := by
  refine sound_of_ev (c := mkc KR0) KSR0 KI0s hm (vc_rfloor a b ⟨rfl, fun ⟨⟨h1, h2⟩, h3, h4⟩ => ?_⟩)
  simp only [and_true, D.lt, D.ine, D.sub, D.add, decide_eq_true_eq, decide_eq_false_iff_not, D.quo, D.rem, flrD, remF]
  have e := Int.tmod_eq_emod (a := a) (b := b)
  have e1 := Int.emod_nonneg a (show b ≠ 0 by omega)
  have e2 := Int.emod_lt_of_pos a h3
  have e3 : (b.natAbs : Int) = b := Int.natAbs_of_nonneg (by omega)
  have e5 := Int.mul_ediv_add_emod a b
  have e6 := Int.mul_tdiv_add_tmod a b
  have habs : (a.tdiv b).natAbs ≤ a.natAbs := Int.natAbs_tdiv_le_natAbs a b
  by_cases hc : 0 ≤ a ∨ b ∣ a
  · rw [if_pos hc] at e
    have e7 : a.tdiv b = a / b := by
      have : b * a.tdiv b = b * (a / b) := by omega
      exact Int.eq_of_mul_eq_mul_left (by omega) this
    refine ⟨by omega, in_small' (by omega), by omega, fun h => by omega, fun _ => ⟨e7, by omega⟩⟩
  · rw [if_neg hc, e3] at e
    have hz : a % b ≠ 0 := fun h0 => hc (.inr (Int.dvd_of_emod_eq_zero h0))
    have e7 : a.tdiv b = a / b + 1 := by
      have : b * a.tdiv b = b * (a / b + 1) := by rw [Int.mul_add]; omega
      exact Int.eq_of_mul_eq_mul_left (by omega) this
    refine ⟨by omega, in_small' (by omega), by omega, fun h => ⟨in_small' (by omega), in_small (by omega), by omega, by omega⟩, fun h => by omega⟩
theorem t_rrange (a : Int) : SoundC Tryz.prog G0 84 [.dat I a] [] ⟨True, .dat .bool (inDays a), []⟩ := by
  refine sound_of_ev (c := mkc KR0) KSR0 KI0s hm (vc_rrange a ⟨rfl, fun _ => ⟨fun h _ => h, fun h => by simpa [D.and] using h, ?_, trivial⟩⟩)
  rw [cnd_and]; simp [inDays, D.ge, D.le]
theorem t_rholiday (z : Int) (w : List Bool) (h : List Int) (d : Int) : SoundC Tryz.prog G0 110 [cal z w h, .dat I d] [] ⟨mildI h, .dat .bool (hasF h d), []⟩ := by
  refine sound_of_ev (c := mkc KR0) KSR0 KI0s hm (vc_rholiday z w h d ⟨rfl, fun hp => ?_⟩)
  have hp : h.length ≤ 1000000 := hp
  simp only [eq_self, true_and, and_true, exists_eq_right', D.eq, D.lt, D.ilen, D.ile, D.ilt, D.nlt, D.sub, D.add, D.nat, D.get, decide_eq_true_eq, decide_eq_false_iff_not, beq_iff_eq, beq_eq_false_iff_ne]
  refine ⟨⟨Int.le_refl _, Int.natCast_nonneg _, hp, rfl⟩, fun x ⟨x0, x1, x2, x3⟩ => ⟨fun hlt => ?_, fun hge => ?_⟩⟩
  · have hlt' : x.toNat < h.length := by omega
    have hg : h.getD x.toNat 0 = h[x.toNat] := by rw [List.getD_eq_getElem?_getD, List.getElem?_eq_getElem hlt', Option.getD_some]
    refine ⟨x0, hlt, fun he => ?_, fun he => ⟨in_small (by omega), x + 1, ⟨by omega, by omega, hp, ?_⟩, rfl, by omega⟩⟩
    · unfold hasF
      symm
      rw [List.contains_iff_mem, ← he, hg]
      exact List.getElem_mem _
    · rw [show (x + 1).toNat = x.toNat + 1 by omega, List.take_add_one, List.getElem?_eq_getElem hlt', ← Bool.not_eq_true, List.contains_iff_mem, List.mem_append]
      rw [← Bool.not_eq_true, List.contains_iff_mem] at x3
      rintro (g | g)
      · exact x3 g
      · rw [Option.toList_some, List.mem_singleton] at g
        exact he (hg.trans g.symm)
  · unfold hasF
    rw [List.take_of_length_le (by omega)] at x3
    exact x3.symm
theorem KSR1 : KSound Tryz.prog G0 KR1 := kOr_ok (dataK_ok fun (a, b, _) => t_rfloor a b) <| kOr_ok (dataK_ok fun (a, _) => t_rrange a) <| kOr_ok (dataK_ok fun ((z, w, h), d, _) => t_rholiday z w h d) KSR0
theorem day_ok {d : Int} (h : inDays d = true) : floorP d 7 := by
  have := inDays_iff.1 h
  exact ⟨⟨by omega, by omega⟩, by decide, by decide⟩
theorem t_rworking (z : Int) (w : List Bool) (h : List Int) (d : Int) : SoundC Tryz.prog G0 85 [cal z w h, .dat I d] [] ⟨workP z w h d, .dat .bool (workF w h d), []⟩ := by
  refine sound_of_ev (c := mkc KR1) KSR1 KI0s hm (vc_rworking z w h d ⟨rfl, fun ⟨hv, hd⟩ => ?_⟩)
  simp only [cnd_and, D.and, D.not, Bool.true_and, true_and, and_true, imp_self, implies_true, D.ilen, D.ile, D.ilt, D.nat, D.get]
  obtain ⟨_, _, v3, v4⟩ := (validF_iff.1 hv).1
  have e0 : 0 ≤ remF d 7 := Int.emod_nonneg d (by omega)
  have e1 : remF d 7 < 7 := Int.emod_lt_of_pos d (by omega)
  refine ⟨day_ok hd, e0, by omega, fun _ => (show h.length ≤ 1000000 by omega), ?_⟩
  rfl
theorem KSR2 : KSound Tryz.prog G0 KR2 := kOr_ok (dataK_ok fun ((z, w, h), d, _) => t_rworking z w h d) KSR1
theorem t_rwork (z : Int) (w : List Bool) (h : List Int) (d : Int) : SoundC Tryz.prog G0 67 [cal z w h, .dat I d] [] ⟨workP z w h d, .dat .bool (workF w h d), []⟩ := by
  refine sound_of_ev (c := mkc KR2) KSR2 KI0s hm (vc_rwork z w h d ⟨rfl, fun ⟨hv, hd⟩ => ?_⟩)
  simp only [cnd_and, D.and, Bool.true_and, Bool.and_true, eq_self, true_and, and_true, imp_self, forall_const, hv, hd]
  exact ⟨hv, hd⟩
theorem t_rlocal (z : Int) (w : List Bool) (h : List Int) (t : Int) : SoundC Tryz.prog G0 38 [cal z w h, .dat I t] [] ⟨okLocal z w h t, .tup [.dat I (dayF z t), .dat I (minF z t)], []⟩ := by
  refine sound_of_ev (c := mkc KR2) KSR2 KI0s hm (vc_rlocal z w h t ⟨rfl, fun ⟨hv, h1, h2⟩ => ?_⟩)
  obtain ⟨v1, v2, _⟩ := (validF_iff.1 hv).1
  have a1 : ¬ t < -2000000000 := by omega
  have a2 : ¬ t > 2000000000 := by omega
  simp only [cnd_or, D.and, D.not, Bool.true_and, Bool.and_true, eq_self, true_and, and_true, imp_self, implies_true, Bool.not_eq_true', Bool.or_eq_true, Bool.or_eq_false_iff, Bool.not_eq_false', Bool.not_not, D.lt, D.gt, D.add, decide_eq_true_eq, decide_eq_false_iff_not, hv, a1, a2]
  refine ⟨fun g => ?_, fun _ => ⟨in_small' (by omega), ⟨⟨by omega, by omega⟩, by decide, by decide⟩, rfl, rfl⟩⟩
  rcases g with (g | g) | g <;> cases g
theorem t_rtime (z : Int) (w : List Bool) (h : List Int) (d m : Int) : SoundC Tryz.prog G0 66 [cal z w h, .dat I d, .dat I m] [] ⟨okTime z w h d m, .dat I (timeF z d m), []⟩ := by
  refine sound_of_ev (c := mkc KR2) KSR2 KI0s hm (vc_rtime z w h d m ⟨rfl, fun ⟨hv, hd, h1, h2⟩ => ?_⟩)
  obtain ⟨v1, v2, _⟩ := (validF_iff.1 hv).1
  have a1 : ¬ m < 0 := by omega
  have a2 : ¬ m > 1439 := by omega
  have hd' := inDays_iff.1 hd
  simp only [cnd_or, D.and, D.not, Bool.true_and, Bool.and_true, eq_self, true_and, and_true, imp_self, implies_true, Bool.not_eq_true', Bool.or_eq_true, Bool.or_eq_false_iff, Bool.not_eq_false', Bool.not_not, D.lt, D.gt, D.sub, D.add, D.mul, decide_eq_true_eq, decide_eq_false_iff_not, hv, hd, a1, a2]
  refine ⟨fun g => ?_, fun _ => ⟨in_small' (by omega), in_small' (by omega), in_small' (by omega), by unfold timeF; omega⟩⟩
  rcases g with ((g | g) | g) | g <;> cases g
theorem t_right (line t : Int) (cs : LC) (ns os : LB) (fs : List Off) (ls : List Line) (ks : List Cla) : SoundC Tryz.prog G0 37 [net cs ns os fs ls ks, .dat I line, .dat I t] [] ⟨fewC (cs, ns, os, fs, ls, ks) = true, .dat .bool (rightF (cs, ns, os, fs, ls, ks) line t), []⟩ := by
  refine sound_of_ev (c := mkc KR2) KSR2 KI0s hm (vc_right line t cs ns os fs ls ks ⟨rfl, fun hp => ?_⟩)
  have e : rightF (cs, ns, os, fs, ls, ks) line t = (soundF (cs, ns, os, fs, ls, ks) && (decide (0 ≤ line) && decide (line < (ls.length : Int))) && (decide (0 ≤ t) && decide (t ≤ 2000000))) := by
    unfold rightF idxF timeOk; simp
  rw [e]
  simp only [cnd_and, D.and, Bool.true_and, true_and, and_true, imp_self, implies_true, Bool.and_eq_true, D.lt, D.le, D.ge, D.ilen, decide_eq_true_eq]
  refine ⟨hp, ?_⟩
  simp [Bool.and_assoc]
theorem KSR3 : KSound Tryz.prog G0 KR3 := kOr_ok (dataK_ok fun ((z, w, h), d, _) => t_rwork z w h d) <| kOr_ok (dataK_ok fun ((z, w, h), t, _) => t_rlocal z w h t) <| kOr_ok (dataK_ok fun ((z, w, h), d, m, _) => t_rtime z w h d m) <| kOr_ok (dataK_ok fun ((cs, ns, os, fs, ls, ks), l, t, _) => t_right l t cs ns os fs ls ks) KSR2
theorem t_on (line d : Int) (cs : LC) (ns os : LB) (fs : List Off) (ls : List Line) (ks : List Cla) : SoundC Tryz.prog G0 39 [net cs ns os fs ls ks, .dat I line, .dat I d] [] ⟨onP (cs, ns, os, fs, ls, ks) line d, .tup [.dat I (leaveF (cs, ns, os, fs, ls, ks) line d), .dat .bool (onB (cs, ns, os, fs, ls, ks) line d)], []⟩ := by
  refine sound_of_ev (c := mkc KR3) KSR3 KI0s hm (vc_on line d cs ns os fs ls ks ⟨rfl, fun ⟨hl, hd⟩ => ?_⟩)
  simp only [eq_self, true_and, and_true, D.nil, D.ilen, D.ile, D.ilt, D.nat, D.get, lineOf_fold cs ns os fs ls ks, calF_fold cs ns os fs ls ks]
  obtain ⟨hv, q1, q2, q3, q4, m0, m1⟩ := cal_ok cs ns os fs ls ks hl
  exact ⟨hl.2.1, hl.2.2, q1, q2, q3, q4, ⟨hv, hd, m0, by omega⟩, ⟨hv, hd⟩, rfl, rfl⟩
theorem KSR4 : KSound Tryz.prog G0 KR4 := kOr_ok (dataK_ok fun ((cs, ns, os, fs, ls, ks), l, d, _) => t_on l d cs ns os fs ls ks) KSR3
theorem right_usable {n : Net} {line t : Int} : rightF n line t = usableF n line [t] := by
  unfold rightF usableF
  cases soundF n <;> cases idxF line n.2.2.2.2.1.length <;> simp
theorem right_two {n : Net} {line a b : Int} : usableF n line [a, b] = (rightF n line a && rightF n line b) := by
  unfold rightF usableF
  cases soundF n <;> cases idxF line n.2.2.2.2.1.length <;> simp
theorem t_rdepart (line t : Int) (cs : LC) (ns os : LB) (fs : List Off) (ls : List Line) (ks : List Cla) : SoundC Tryz.prog G0 14 [net cs ns os fs ls ks, .dat I line, .dat I t] [] ⟨fewC (cs, ns, os, fs, ls, ks) = true, .tup [.dat I (departD (cs, ns, os, fs, ls, ks) line t), .dat I (departE (cs, ns, os, fs, ls, ks) line t)], []⟩ := by
  refine sound_of_ev (c := mkc KR4) KSR4 KI0s hm (vc_rdepart line t cs ns os fs ls ks ⟨rfl, fun hp => ?_⟩)
  simp only [cnd_and, D.and, D.not, Bool.true_and, eq_self, true_and, and_true, imp_self, implies_true, Bool.not_eq_true', Bool.not_eq_false', Bool.and_eq_true, Bool.and_eq_false_imp, exists_eq_right', D.nil, D.lt, D.le, D.ge, D.ilen, D.ile, D.ilt, D.nlt, D.sub, D.add, D.nat, D.get, decide_eq_true_eq, decide_eq_false_iff_not, lineOf_fold cs ns os fs ls ks, calF_fold cs ns os fs ls ks]
  refine ⟨hp, fun hr => ?_, fun hr => ?_⟩
  · rw [right_usable] at hr
    unfold departD departE
    rw [hr]; exact ⟨rfl, rfl⟩
  · have hu := hr
    rw [right_usable] at hu
    obtain ⟨hl, t0, t1⟩ := usable_first cs ns os fs ls ks hu (List.mem_singleton.2 rfl)
    have ha := line_at cs ns os fs ls ks hl
    obtain ⟨hv, q1, q2, q3, q4, m0, m1⟩ := cal_ok cs ns os fs ls ks hl
    obtain ⟨d0, d1⟩ := today_in hv t0 t1
    obtain ⟨v1, v2, _⟩ := (validF_iff.1 hv).1
    refine ⟨hl.2.1, hl.2.2, q1, q2, q3, q4, ⟨hv, by omega, by omega⟩, ⟨⟨hl, t0, t1⟩, hr, Int.le_refl _, by omega, fun e e1 e2 => by omega⟩, fun x hx => ⟨in_small (by omega), fun hle => ?_, fun hgt => ?_⟩⟩
    · obtain ⟨_, _, x0, x1, x2⟩ := hx
      have hle : x ≤ dayF (calF (cs, ns, os, fs, ls, ks) line).1 t + 61 := by first | exact hle | exact of_decide_eq_true hle
      have hmono : ∀ e, leaveF (cs, ns, os, fs, ls, ks) line e < leaveF (cs, ns, os, fs, ls, ks) line x ↔ e < x := fun e => by unfold leaveF timeF; omega
      refine ⟨⟨hl, inDays_iff.2 (by omega)⟩, fun _ => in_small (by omega), fun ⟨⟨h1, h2⟩, h3⟩ => ?_, fun h1 => ⟨in_small (by omega), x + 1, ⟨⟨hl, t0, t1⟩, hr, by omega, by omega, fun e e1 e2 hw => ?_⟩, rfl, by omega⟩⟩
      · have hf : firstO (cs, ns, os, fs, ls, ks) line t = some (leaveF (cs, ns, os, fs, ls, ks) line x) := first_is ha h2 h3 (leave_dep ha h1) fun v v1 v2 hv => by
          have hlv := dep_leave hv
          have h5 : dayF (calF (cs, ns, os, fs, ls, ks) line).1 v < x := (hmono _).1 (by rw [hlv]; exact v2)
          have h6 : dayF (calF (cs, ns, os, fs, ls, ks) line).1 t ≤ dayF (calF (cs, ns, os, fs, ls, ks) line).1 v := by unfold dayF; omega
          rcases x2 _ h6 h5 hv.1 with g | g
          · rw [hlv] at g; omega
          · rw [hlv] at g; omega
        obtain ⟨k1, k2⟩ := depart_of hu hf
        exact ⟨k1.symm, k2.symm⟩
      · by_cases he : e = x
        · subst he
          by_cases g : leaveF (cs, ns, os, fs, ls, ks) line e < t
          · exact .inl g
          · right
            refine Int.not_lt.1 fun g2 => ?_
            have := h1 ⟨hw, by omega⟩
            omega
        · exact x2 e e1 (by omega) hw
    · obtain ⟨_, _, x0, x1, x2⟩ := hx
      have hgt : ¬ x ≤ dayF (calF (cs, ns, os, fs, ls, ks) line).1 t + 61 := by first | exact hgt | exact of_decide_eq_false hgt
      have hf : firstO (cs, ns, os, fs, ls, ks) line t = none := first_no ha fun v v1 v2 hv => by
        have hlv := dep_leave hv
        have h6 : dayF (calF (cs, ns, os, fs, ls, ks) line).1 t ≤ dayF (calF (cs, ns, os, fs, ls, ks) line).1 v ∧ dayF (calF (cs, ns, os, fs, ls, ks) line).1 v < x := by
          unfold dayF at *; omega
        rcases x2 _ h6.1 h6.2 hv.1 with g | g <;> (rw [hlv] at g; omega)
      unfold departD departE firstD firstB
      rw [hu, hf]; exact ⟨rfl, rfl⟩
theorem listF_next {w : List Bool} {h : List Int} {a n : Int} (n0 : 0 ≤ n) : listF w h a (n + 1) = listF w h a n ++ (if workF w h (a + n) then [a + n] else []) := by
  unfold listF
  rw [show (n + 1).toNat = n.toNat + 1 by omega, List.range_succ, List.map_append, List.filter_append]
  congr 1
  simp only [List.map_cons, List.map_nil, List.filter_cons, List.filter_nil, show a + ((n.toNat : Nat) : Int) = a + n by omega]
theorem dayDeps_next {n : Net} {line a b x : Int} (x0 : dayF (calF n line).1 a ≤ x) : dayDeps n line a b (x + 1) = dayDeps n line a b x ++ (if (onB n line x = true ∧ a ≤ leaveF n line x) ∧ leaveF n line x < b then [leaveF n line x] else []) := by
  unfold dayDeps
  rw [show x + 1 - dayF (calF n line).1 a = (x - dayF (calF n line).1 a) + 1 by omega, listF_next (by omega), List.map_append, List.filter_append, show dayF (calF n line).1 a + (x - dayF (calF n line).1 a) = x by omega]
  congr 1
  unfold onB
  by_cases h1 : workF (calF n line).2.1 (calF n line).2.2 x = true
  · rw [if_pos h1, List.map_singleton, List.filter_cons, List.filter_nil]
    by_cases h2 : a ≤ leaveF n line x ∧ leaveF n line x < b
    · rw [if_pos (show (decide (a ≤ leaveF n line x) && decide (leaveF n line x < b)) = true by rw [decide_eq_true h2.1, decide_eq_true h2.2]; rfl), if_pos ⟨⟨h1, h2.1⟩, h2.2⟩]
    · rw [if_neg (show ¬ (decide (a ≤ leaveF n line x) && decide (leaveF n line x < b)) = true by rw [Bool.and_eq_true, decide_eq_true_eq, decide_eq_true_eq]; exact h2), if_neg (fun g => h2 ⟨g.1.2, g.2⟩)]
  · rw [if_neg h1, if_neg (fun g => h1 g.1.1)]; rfl
theorem dayDeps_zero (n : Net) (line a b : Int) : dayDeps n line a b (dayF (calF n line).1 a) = [] := by
  unfold dayDeps listF
  rw [show (dayF (calF n line).1 a - dayF (calF n line).1 a).toNat = 0 by omega]; rfl
theorem dayDeps_len {n : Net} {line a b x : Int} : (dayDeps n line a b x).length ≤ (x - dayF (calF n line).1 a).toNat := by
  unfold dayDeps listF
  refine Nat.le_trans (List.length_filter_le _ _) ?_
  rw [List.length_map]
  refine Nat.le_trans (List.length_filter_le _ _) ?_
  rw [List.length_map, List.length_range]; exact Nat.le_refl _
theorem t_rdeps (line a b : Int) (cs : LC) (ns os : LB) (fs : List Off) (ls : List Line) (ks : List Cla) : SoundC Tryz.prog G0 19 [net cs ns os fs ls ks, .dat I line, .dat I a, .dat I b] [] ⟨fewC (cs, ns, os, fs, ls, ks) = true, .dat R (depsF (cs, ns, os, fs, ls, ks) line a b), []⟩ := by
  refine sound_of_ev (c := { mkc KR4 with mb := fun t => t == 18 }) KSR4 KI0s hm (vc_rdeps line a b cs ns os fs ls ks ⟨rfl, fun hp => ?_⟩)
  simp only [cnd_or, cnd_and, D.and, D.not, Bool.true_and, eq_self, true_and, and_true, imp_self, implies_true, Bool.not_eq_true', Bool.or_eq_true, Bool.or_eq_false_iff, Bool.not_eq_false', Bool.and_eq_true, Bool.and_eq_false_imp, Bool.not_not, D.nil, D.lt, D.gt, D.le, D.ge, D.ilen, D.ile, D.ilt, D.nle, D.nlt, D.sub, D.add, D.nat, D.len, D.nadd, D.nmul, D.get, D.app, decide_eq_true_eq, decide_eq_false_iff_not, lineOf_fold cs ns os fs ls ks, calF_fold cs ns os fs ls ks]
  have fst_of : ∀ t, rightF (cs, ns, os, fs, ls, ks) line t = true → firstP (cs, ns, os, fs, ls, ks) line t := fun t ht => usable_first cs ns os fs ls ks (right_usable ▸ ht) (List.mem_singleton.2 rfl)
  refine ⟨hp, fun _ => hp, fun h => ?_, fun h => ?_, fun h => ?_⟩
  · obtain ⟨_, a0, a1⟩ := fst_of a h.1
    exact in_small (by omega)
  · refine ⟨rfl, ?_⟩
    unfold depsF
    rcases h with (h | h) | h
    · rw [right_two, h]; rfl
    · rw [right_two, h, Bool.and_false]; rfl
    · rw [decide_eq_false (show ¬ b ≤ a + 86400 by omega), Bool.and_false]; rfl
  · obtain ⟨⟨ra, rb⟩, hb⟩ := h
    obtain ⟨hl, a0, a1⟩ := fst_of a ra
    obtain ⟨_, b0, b1⟩ := fst_of b rb
    have hb : b ≤ a + 86400 := by first | omega | (have := of_decide_eq_false hb; omega)
    obtain ⟨hv, q1, q2, q3, q4, m0, m1⟩ := cal_ok cs ns os fs ls ks hl
    obtain ⟨d0, d1⟩ := today_in hv a0 a1
    obtain ⟨e0, e1⟩ := today_in hv b0 b1
    refine ⟨hl.2.1, hl.2.2, q1, q2, q3, q4, ⟨hv, by omega, by omega⟩, ⟨hv, by omega, by omega⟩, ⟨_, ⟨⟨hl, a0, a1⟩, ⟨hl, b0, b1⟩, ra, rb, hb, Int.le_refl _, .inr rfl⟩, by rw [dayDeps_zero]; rfl, rfl, by rw [dayDeps_zero]⟩, fun x hx => ⟨fun hle => ?_, fun hgt => ?_⟩⟩
    · have hle : x ≤ dayF (calF (cs, ns, os, fs, ls, ks) line).1 b := by first | exact hle | exact of_decide_eq_true hle
      have x0 := hx.2.2.2.2.2.1
      have hnx := dayDeps_next (n := (cs, ns, os, fs, ls, ks)) (line := line) (b := b) x0
      have hln := dayDeps_len (n := (cs, ns, os, fs, ls, ks)) (line := line) (a := a) (b := b) (x := x)
      have hx1 : rdepsTo (cs, ns, os, fs, ls, ks) line a b (x + 1) := ⟨⟨hl, a0, a1⟩, ⟨hl, b0, b1⟩, ra, rb, hb, by omega, .inl (by omega)⟩
      refine ⟨⟨hl, inDays_iff.2 (by omega)⟩, fun h => ?_, fun h => ?_⟩
      · rw [if_pos h] at hnx
        simp only [List.length_singleton]
        exact ⟨by omega, by omega, in_small (by omega), x + 1, hx1, ⟨by rw [hnx, List.length_append]; rfl, rfl, hnx.symm⟩, by omega⟩
      · have h' : ¬ ((onB (cs, ns, os, fs, ls, ks) line x = true ∧ a ≤ leaveF (cs, ns, os, fs, ls, ks) line x) ∧ leaveF (cs, ns, os, fs, ls, ks) line x < b) := fun g => h ⟨g.1.1, g.1.2⟩ g.2
        rw [if_neg h', List.append_nil] at hnx
        exact ⟨in_small (by omega), x + 1, hx1, ⟨by rw [hnx], rfl, hnx.symm⟩, by omega⟩
    · have hgt : ¬ x ≤ dayF (calF (cs, ns, os, fs, ls, ks) line).1 b := by first | exact hgt | exact of_decide_eq_false hgt
      have hx2 := hx.2.2.2.2.2.2
      have hu : usableF (cs, ns, os, fs, ls, ks) line [a, b] = true := by rw [right_two, ra, rb]; rfl
      rw [depsF_eq ⟨hu, hb⟩]
      unfold dayDeps spanL wdaysL
      rcases hx2 with g | g
      · rw [show x = dayF (calF (cs, ns, os, fs, ls, ks) line).1 b + 1 by omega, show dayF (calF (cs, ns, os, fs, ls, ks) line).1 b + 1 - dayF (calF (cs, ns, os, fs, ls, ks) line).1 a = dayF (calF (cs, ns, os, fs, ls, ks) line).1 b - dayF (calF (cs, ns, os, fs, ls, ks) line).1 a + 1 by omega]
      · subst g
        unfold listF
        rw [show (dayF (calF (cs, ns, os, fs, ls, ks) line).1 a - dayF (calF (cs, ns, os, fs, ls, ks) line).1 a).toNat = 0 by omega, show (dayF (calF (cs, ns, os, fs, ls, ks) line).1 b - dayF (calF (cs, ns, os, fs, ls, ks) line).1 a + 1).toNat = 0 by omega]
theorem KSR5 : KSound Tryz.prog G0 KR5 := kOr_ok (dataK_ok fun ((cs, ns, os, fs, ls, ks), l, t, _) => t_rdepart l t cs ns os fs ls ks) <| kOr_ok (dataK_ok fun ((cs, ns, os, fs, ls, ks), l, a, b, _) => t_rdeps l a b cs ns os fs ls ks) KSR4
theorem rstart_at {n : Net} {line a b i : Int} (i0 : 0 ≤ i) : rstart n line a b i = atF (depsF n line a b) a i := by
  unfold rstart atF
  by_cases h : i = 0
  · subst h; rw [if_pos rfl]; show a - 1 + 1 = a; omega
  · rw [if_neg h, show i.toNat = (i - 1).toNat + 1 by omega]
    show ((a - 1) :: depsF n line a b).getD ((i - 1).toNat + 1) 0 + 1 = _
    rw [List.getD_cons_succ]
theorem rstart_next {n : Net} {line a b i : Int} (i0 : 0 ≤ i) : rstart n line a b (i + 1) = (depsF n line a b).getD i.toNat 0 + 1 := by
  rw [rstart_at (by omega)]
  unfold atF
  rw [if_neg (by omega), show i + 1 - 1 = i by omega]
theorem t_rwait (line a b : Int) (cs : LC) (ns os : LB) (fs : List Off) (ls : List Line) (ks : List Cla) : SoundC Tryz.prog G0 16 [net cs ns os fs ls ks, .dat I line, .dat I a, .dat I b] [] ⟨fewC (cs, ns, os, fs, ls, ks) = true, .tup [.dat I (waitD (cs, ns, os, fs, ls, ks) line a b), .dat I (waitE (cs, ns, os, fs, ls, ks) line a b)], []⟩ := by
  refine sound_of_ev (c := { mkc KR5 with mb := fun t => t == 40 }) KSR5 KI0s hm (vc_rwait line a b cs ns os fs ls ks ⟨rfl, fun hp => ?_⟩)
  simp only [cnd_or, D.and, D.not, Bool.true_and, eq_self, true_and, and_true, imp_self, implies_true, Bool.not_eq_true', Bool.or_eq_true, Bool.or_eq_false_iff, Bool.not_eq_false', Bool.not_not, D.ne, D.lt, D.gt, D.le, D.ilen, D.ile, D.ilt, D.nle, D.nlt, D.sub, D.add, D.nat, D.len, D.nadd, D.nmul, D.get, D.mx, D.app, decide_eq_true_eq, decide_eq_false_iff_not, bne_iff_ne, bne_eq_false_iff_eq]
  have fst_of : ∀ t, rightF (cs, ns, os, fs, ls, ks) line t = true → firstP (cs, ns, os, fs, ls, ks) line t := fun t ht => usable_first cs ns os fs ls ks (right_usable ▸ ht) (List.mem_singleton.2 rfl)
  refine ⟨hp, fun _ => hp, fun h => ?_, fun h => ?_, fun h => ?_⟩
  · obtain ⟨_, a0, a1⟩ := fst_of a h.1.1
    exact in_small (by omega)
  · have : waitOk (cs, ns, os, fs, ls, ks) line a b = false := by
      unfold waitOk
      rcases h with ((h | h) | h) | h
      · rw [right_two, h]; rfl
      · rw [right_two, h, Bool.and_false]; rfl
      · rw [decide_eq_false (show ¬ a < b by omega), Bool.and_false]; rfl
      · rw [decide_eq_false (show ¬ b ≤ a + 86400 by omega), Bool.and_false]
    unfold waitD waitE
    rw [this]; exact ⟨rfl, rfl⟩
  · obtain ⟨⟨⟨ra, rb⟩, hab⟩, hb⟩ := h
    have hab : a < b := by omega
    have hb : b ≤ a + 86400 := by omega
    obtain ⟨hl, a0, a1⟩ := fst_of a ra
    obtain ⟨_, b0, b1⟩ := fst_of b rb
    have ha := line_at cs ns os fs ls ks hl
    have hu : usableF (cs, ns, os, fs, ls, ks) line [a, b] = true := by rw [right_two, ra, rb]; rfl
    have hok : waitOk (cs, ns, os, fs, ls, ks) line a b = true := by
      unfold waitOk; rw [hu, decide_eq_true hab, decide_eq_true hb]; rfl
    have hdo : depsOk (cs, ns, os, fs, ls, ks) line a b := ⟨hu, hb⟩
    have hut : ∀ t, 0 ≤ t → t ≤ 2000000 → usableF (cs, ns, os, fs, ls, ks) line [t] = true := fun t g0 g1 => by
      rw [← right_usable]
      unfold rightF at ra ⊢
      rw [Bool.and_eq_true] at ra
      rw [ra.1]
      unfold timeOk
      exact decide_eq_true ⟨g0, g1⟩
    have dl : (depsF (cs, ns, os, fs, ls, ks) line a b).length ≤ 100 := by
      rw [depsF_eq hdo]
      refine Nat.le_trans (List.length_filter_le _ _) ?_
      rw [List.length_map]
      refine Nat.le_trans spanL_len ?_
      unfold dayF; omega
    have hl1 : ([a - 1] ++ depsF (cs, ns, os, fs, ls, ks) line a b).length = 1 + (depsF (cs, ns, os, fs, ls, ks) line a b).length := by rw [List.length_append]; rfl
    refine ⟨in_small (by omega), hp, rfl, by omega, by omega, hl1, hl1, ⟨(0, 0), ⟨hok, Int.le_refl _, by omega, Int.le_refl _, (by show (0 : Int) ≤ 86400; omega), fun _ => ?_, fun h => (by have h : (0 : Int) = _ := h; omega)⟩, rfl, rfl⟩, fun x => ?_⟩
    · show waitGo _ _ _ (b - (a - 1 + 1)).toNat (a - 1 + 1) 0 = _
      rw [show a - 1 + 1 = a by omega]; rfl
    obtain ⟨m, i⟩ := x
    simp only
    rintro ⟨_, i0, i1, m0, m1, hg, he⟩
    refine ⟨fun hlt => ?_, fun hge => ?_⟩
    · have hi : i ≤ (depsF (cs, ns, os, fs, ls, ks) line a b).length := by rw [hl1] at hlt; omega
      have hw := hg hi
      have hst : ([a - 1] ++ depsF (cs, ns, os, fs, ls, ks) line a b).getD i.toNat 0 + 1 = rstart (cs, ns, os, fs, ls, ks) line a b i := rfl
      have hat := rstart_at (n := (cs, ns, os, fs, ls, ks)) (line := line) (a := a) (b := b) i0
      have hrange : a ≤ rstart (cs, ns, os, fs, ls, ks) line a b i ∧ rstart (cs, ns, os, fs, ls, ks) line a b i ≤ b := by
        by_cases hz : i = 0
        · subst hz; rw [hat]; unfold atF; rw [if_pos rfl]; omega
        · obtain ⟨g1, g2, g3, g4⟩ := deps_first cs ns os fs ls ks (line := line) (a := a) (b := b) (i := i - 1) ha hdo (by omega) (by omega) (by omega)
          have gr := firstO_range g1
          rw [hat]; unfold atF; rw [if_neg hz]; omega
      rw [hst]
      have hvx : ([a - 1] ++ depsF (cs, ns, os, fs, ls, ks) line a b).getD i.toNat 0 = rstart (cs, ns, os, fs, ls, ks) line a b i - 1 := by omega
      rw [hvx]
      refine ⟨i0, hlt, in_small (by omega), fun ht => ⟨i0, hlt, in_small (by omega), hp, fun hE => ?_, fun hE => ?_⟩, fun ht => ⟨in_small (by omega), (m, i + 1), ⟨hok, by omega, by omega, m0, m1, fun h => ?_, fun h => ?_⟩, ⟨rfl, rfl⟩, by omega⟩⟩
      · obtain ⟨hn, e20⟩ := depart_none (hut _ (by omega) (by omega)) hE
        rw [show (b - rstart (cs, ns, os, fs, ls, ks) line a b i).toNat = (b - rstart (cs, ns, os, fs, ls, ks) line a b i).toNat - 1 + 1 by omega, waitGo, if_pos ht, hn] at hw
        have hw : waitO (cs, ns, os, fs, ls, ks) line a b = none := hw.symm
        unfold waitD waitE
        rw [hok, hw, e20]; exact ⟨rfl, rfl⟩
      · have hs := depart_some (hut _ (by omega) (by omega)) hE
        obtain ⟨u0, u1⟩ := firstO_range hs
        rw [show (b - rstart (cs, ns, os, fs, ls, ks) line a b i).toNat = (b - rstart (cs, ns, os, fs, ls, ks) line a b i).toNat - 1 + 1 by omega, waitGo, if_pos ht, hs] at hw
        have hw : waitGo (cs, ns, os, fs, ls, ks) line b ((b - rstart (cs, ns, os, fs, ls, ks) line a b i).toNat - 1) (departD (cs, ns, os, fs, ls, ks) line (rstart (cs, ns, os, fs, ls, ks) line a b i) + 1) (maxF m (departD (cs, ns, os, fs, ls, ks) line (rstart (cs, ns, os, fs, ls, ks) line a b i) - rstart (cs, ns, os, fs, ls, ks) line a b i)) = waitO (cs, ns, os, fs, ls, ks) line a b := hw
        have emx : D.mx m (departD (cs, ns, os, fs, ls, ks) line (rstart (cs, ns, os, fs, ls, ks) line a b i) - (rstart (cs, ns, os, fs, ls, ks) line a b i - 1) - 1) = maxF m (departD (cs, ns, os, fs, ls, ks) line (rstart (cs, ns, os, fs, ls, ks) line a b i) - rstart (cs, ns, os, fs, ls, ks) line a b i) := by
          unfold maxF
          show max m _ = _
          split <;> omega
        have hmx : 0 ≤ maxF m (departD (cs, ns, os, fs, ls, ks) line (rstart (cs, ns, os, fs, ls, ks) line a b i) - rstart (cs, ns, os, fs, ls, ks) line a b i) ∧ maxF m (departD (cs, ns, os, fs, ls, ks) line (rstart (cs, ns, os, fs, ls, ks) line a b i) - rstart (cs, ns, os, fs, ls, ks) line a b i) ≤ 86400 := by unfold maxF; split <;> omega
        refine ⟨i0, hlt, in_small (by omega), in_small (by omega), in_small (by omega), (maxF m (departD (cs, ns, os, fs, ls, ks) line (rstart (cs, ns, os, fs, ls, ks) line a b i) - rstart (cs, ns, os, fs, ls, ks) line a b i), i + 1), ⟨hok, by omega, by omega, hmx.1, hmx.2, fun h => ?_, fun h => ?_⟩, ⟨emx, rfl⟩, by omega⟩
        · have h : i + 1 ≤ (depsF (cs, ns, os, fs, ls, ks) line a b).length := h
          obtain ⟨g1, g2, g3, g4⟩ := deps_first cs ns os fs ls ks (line := line) (a := a) (b := b) (i := i) ha hdo (by omega) i0 (by omega)
          rw [← hat, hs] at g1
          have g1 := Option.some.inj g1
          rw [rstart_next i0, ← g1, ← hw]
          exact waitGo_fuel _ _ _ _ (Nat.le_refl _) (by omega)
        · have h : i + 1 = (depsF (cs, ns, os, fs, ls, ks) line a b).length + 1 := h
          have hi2 : i = (depsF (cs, ns, os, fs, ls, ks) line a b).length := by omega
          have hs2 := hs
          rw [hat, hi2] at hs2
          obtain ⟨g1, _⟩ := deps_last cs ns os fs ls ks (line := line) (a := a) (b := b) ha hdo (by omega) hs2
          rw [← hi2, ← hat] at g1
          rw [← hw]
          cases (b - rstart (cs, ns, os, fs, ls, ks) line a b i).toNat - 1 with
          | zero => rfl
          | succ k => rw [waitGo, if_neg (by omega)]
      · have h : i + 1 ≤ (depsF (cs, ns, os, fs, ls, ks) line a b).length := h
        exfalso
        obtain ⟨g1, g2, g3, g4⟩ := deps_first cs ns os fs ls ks (line := line) (a := a) (b := b) (i := i) ha hdo (by omega) i0 (by omega)
        have gr := firstO_range g1
        rw [← hat] at gr
        omega
      · rw [← hw, show (b - rstart (cs, ns, os, fs, ls, ks) line a b i).toNat = 0 by omega]; rfl
    · have hi : i = (depsF (cs, ns, os, fs, ls, ks) line a b).length + 1 := by rw [hl1] at hge; omega
      have hw := he hi
      unfold waitD waitE
      rw [hok, hw]; exact ⟨rfl, rfl⟩
theorem KSR6 : KSound Tryz.prog G0 KR6 := kOr_ok (dataK_ok fun ((cs, ns, os, fs, ls, ks), l, a, b, _) => t_rwait l a b cs ns os fs ls ks) KSR5
end Go.Eng.Sv
