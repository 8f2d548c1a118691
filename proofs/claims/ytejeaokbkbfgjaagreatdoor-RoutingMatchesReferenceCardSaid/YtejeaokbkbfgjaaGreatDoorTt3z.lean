/- PeTt3z -/
import Derived.Test.YtejeaokbkbfgjaaGreatDoorX22
import Derived.Test.YtejeaokbkbfgjaaGreatDoorTt2z
set_option linter.unusedSimpArgs false
set_option linter.unusedVariables false
set_option maxRecDepth 100000
noncomputable section
namespace Go.Eng.Sv
open Go.Proofs
def listF (w : List Bool) (h : List Int) (a n : Int) : List Int := ((List.range n.toNat).map fun (i : Nat) => a + (i : Int)).filter fun d => workF w h d
def cntTo (w : List Bool) (h : List Int) (a d : Int) : Nat := (((List.range (d - a).toNat).map fun (i : Nat) => a + (i : Int)).filter fun d => workF w h d).length
def daysTo (a n d : Int) : Prop := a ≤ d ∧ (d ≤ a + n ∨ d = a)
def wdaysP (z : Int) (w : List Bool) (h : List Int) (a b : Int) : Prop := validF z w h = true ∧ inDays a = true ∧ inDays b = true
def wdaysL (w : List Bool) (h : List Int) (a b : Int) : List Int := listF w h a (b - a + 1)
def lineP (n : Net) (line : Int) : Prop := noF n = true ∧ 0 ≤ line ∧ line < n.2.2.2.2.1.length
def lineOf (n : Net) (line : Int) : Line := n.2.2.2.2.1.getD line.toNat (⟨#[]⟩, 0, 0, 0, 0, 0)
def calF (n : Net) (line : Int) : Int × List Bool × List Int := n.1.getD (n.2.2.2.1.getD (lineOf n line).2.1.toNat (⟨#[]⟩, 0, 0, 0, 0, 0, [])).2.2.1.toNat (0, [], [])
def timeOk (t : Int) : Bool := decide (0 ≤ t ∧ t ≤ 2000000)
def usableF (n : Net) (line : Int) (ts : List Int) : Bool := idxF line n.2.2.2.2.1.length && ts.all timeOk && soundF n
def timesTo (ts : List Int) (k : Int) : Prop := 0 ≤ k ∧ k ≤ ts.length ∧ (ts.take k.toNat).all timeOk = true
def fewTs (ts : List Int) : Prop := ts.length ≤ 1000000
def firstP (n : Net) (line time : Int) : Prop := lineP n line ∧ 0 ≤ time ∧ time ≤ 2000000
def leaveF (n : Net) (line d : Int) : Int := timeF (calF n line).1 d (lineOf n line).2.2.2.1
def todayL (n : Net) (line time : Int) : List Int := wdaysL (calF n line).2.1 (calF n line).2.2 (dayF (calF n line).1 time) (dayF (calF n line).1 time + 60)
def firstO (n : Net) (line time : Int) : Option Int := (((todayL n line time).map (leaveF n line)).find? fun t => decide (time ≤ t)).bind fun t => if t < time + 86400 then some t else none
def firstD (n : Net) (line time : Int) : Int := (firstO n line time).getD 0
def firstB (n : Net) (line time : Int) : Bool := (firstO n line time).isSome
def firstTo (n : Net) (line time : Int) (k : Nat) : Prop := k ≤ (todayL n line time).length ∧ ((todayL n line time).take k).all (fun d => decide (leaveF n line d < time)) = true
def KT5 : Kt := kOr 72 (dataK [.row C, .val I] (fun (c, d, _) => validF c.1 c.2.1 c.2.2 = true ∧ inDays d = true) fun (c, d, _) => .dat .bool (workF c.2.1 c.2.2 d)) KT4
def usableA (ts : List Int) : Ann := ⟨fun id s => match id with
  | 4 => some { α := Int, inv := fun k => timesTo ts k, st := fun k => put s [(20, .dat I k)], μ := fun k => D.nat (D.sub (D.ilen ts) k) }
  | _ => none, fun _ _ => none, fun _ _ => none⟩
theorem vc_usable (line : Int) (ts : List Int) (cs : LC) (ns os : LB) (fs : List Off) (ls : List Line) (ks : List Cla) (hvc :
 let c1 := D.lt line (0 : Int);
 let c2 := D.not c1;
 let c3 := D.cnd c1 true (D.ge line (D.ilen ls));
 let c4 := (cs, ns, os, fs, ls, ks);
 let c5 := usableF c4 line ts; true = true ∧ (fewTs ts → (c2 = true → c2 = true → c2 = true) ∧ (c2 = true → c2 = true → c2 = true) ∧ (c2 = true → c2 = true → c2
  = true) ∧ (c2 = true → c2 = true → c2 = true) ∧ (D.and true c2 = true → c2 = true) ∧ (c3 = true → false = c5 ∧ True) ∧ (c3 = false → (∃ x, timesTo ts x ∧ cs =
  cs ∧ ns = ns ∧ os = os ∧ fs = fs ∧ ls = ls ∧ ks = ks ∧ line = line ∧ ts = ts ∧ c4 = c4 ∧ line = line ∧ c1 = c1 ∧ c1 = c1 ∧ c3 = c3 ∧ ts = ts ∧ D.ilen ts =
  D.ilen ts ∧ (0 : Int) = x ∧ True) ∧ ∀ (x : Int),
 let c6 := D.lt x (D.ilen ts);
 let c7 := D.get ts (D.nat x) (0 : Int);
 let c8 := D.lt c7 (0 : Int);
 let c9 := D.not c8;
 let c10 := D.cnd c8 true (D.gt c7 (2000000 : Int));
 let c11 := D.add x (1 : Int); timesTo ts x → (c6 = true → D.ile (0 : Int) x ∧ D.ilt x (D.ilen ts) ∧ (c9 = true → c9 = true → c9 = true) ∧ (D.and true c9 = true
  → c9 = true) ∧ (c10 = true → false = c5 ∧ True) ∧ (c10 = false → inR IntKind.i64 c11 ∧ ∃ y, timesTo ts y ∧ (cs = cs ∧ ns = ns ∧ os = os ∧ fs = fs ∧ ls = ls ∧
  ks = ks ∧ line = line ∧ ts = ts ∧ c4 = c4 ∧ line = line ∧ c1 = c1 ∧ c1 = c1 ∧ c3 = c3 ∧ ts = ts ∧ D.ilen ts = D.ilen ts ∧ c11 = y ∧ True) ∧ D.nlt (D.nat (D.sub
  (D.ilen ts) y)) (D.nat (D.sub (D.ilen ts) x)))) ∧ (c6 = false → True ∧ D.eq (D.ilen (checkF c4)) (0 : Int) = c5 ∧ True)))) :
    evF (mkc KT5) (usableA ts) 35 [net cs ns os fs ls ks, .dat I line, .dat R ts] [] ⟨fewTs ts, .dat .bool (usableF (cs, ns, os, fs, ls, ks) line ts), []⟩ := of_eq (by kernel_rfl) hvc
theorem vc_calOf (line : Int) (cs : LC) (ns os : LB) (fs : List Off) (ls : List Line) (ks : List Cla) (hvc :
 let c1 := (cs, ns, os, fs, ls, ks);
 let c2 := (D.get ls (D.nat line) (ByteArray.mk (D.nil UInt8).toArray, (0 : Int), (0 : Int), (0 : Int), (0 : Int), (0 : Int))).snd.fst;
 let c3 := (D.get fs (D.nat c2) (ByteArray.mk (D.nil UInt8).toArray, (0 : Int), (0 : Int), (0 : Int), (0 : Int), (0 : Int), D.nil ByteArray)).snd.snd.fst;
 let c4 := D.get cs (D.nat c3) ((0 : Int), D.nil Bool, D.nil Int);
 let c5 := calF c1 line;
 let c6 := c4.snd;
 let c7 := c5.snd; true = true ∧ (lineP c1 line → D.ile (0 : Int) line ∧ D.ilt line (D.ilen ls) ∧ D.ile (0 : Int) c2 ∧ D.ilt c2 (D.ilen fs) ∧ D.ile (0 : Int) c3
  ∧ D.ilt c3 (D.ilen cs) ∧ 1 = 1 ∧ 0 = 0 ∧ 1 = 1 ∧ 0 = 0 ∧ c4.fst = c5.fst ∧ c6.fst = c7.fst ∧ c6.snd = c7.snd ∧ True)) :
    evF (mkc KT5) noAnn 41 [net cs ns os fs ls ks, .dat I line] [] ⟨lineP (cs, ns, os, fs, ls, ks) line, cal (calF (cs, ns, os, fs, ls, ks) line).1 (calF (cs, ns, os, fs, ls, ks) line).2.1 (calF (cs, ns, os, fs, ls, ks) line).2.2, []⟩ := of_eq (by kernel_rfl) hvc
theorem vc_workdays (z a b : Int) (w : List Bool) (h : List Int) (hvc :
 let c1 := (z, w, h); true = true ∧ (True → a = a ∧ b = b ∧ c1 = c1 ∧ True)) :
    evF (mkc KT5) noAnn 43 [cal z w h, .dat I a, .dat I b] [] ⟨True, .fn 71 [.ip I a, .ip I b, .ip C (z, w, h)], []⟩ := of_eq (by kernel_rfl) hvc
def wdaysA (w : List Bool) (h : List Int) (a b : Int) : AnnY := ⟨fun id y => match id with
  | 1 => some { α := Int, inv := fun d => daysTo a (D.add (D.sub b a) 1) d, st := fun d => ⟨put y.s [(5, .dat I d)], cntTo w h a d, true⟩, μ := fun d => D.nat (D.sub (D.add b 1) d) }
  | _ => none, fun _ _ => none, fun id => id == 3⟩
theorem vc_wdays (z a b : Int) (w : List Bool) (h : List Int) (hvc :
 let c1 := (z, w, h);
 let c2 := wdaysL w h a b;
 let c3 := D.len c2;
 let c4 := D.add b (1 : Int); true = true ∧ true = true ∧ true = true ∧ false = false ∧ ∀ (l : Nat), wdaysP z w h a b → (∃ x, daysTo a (D.add (D.sub b a) (1 :
  Int)) x ∧ (l = l ∧ a = a ∧ b = b ∧ c1 = c1 ∧ a = x ∧ a = a ∧ True) ∧ 0 = cntTo w h a x ∧ true = true) ∧ ∀ (x : Int),
 let c5 := D.add (D.sub b a) (1 : Int);
 let c6 := cntTo w h a x;
 let c7 := D.nadd c6 (1);
 let c8 := D.add x (1 : Int);
 let c9 := D.cnd (workF w h x) (D.not false) false; daysTo a c5 x → (D.le x b = true → false = false ∧ (validF z w h = true ∧ inDays x = true) ∧ (workF w h x =
  true → (workF w h x = true → workF w h x = true) ∧ (workF w h x = true → workF w h x = true) ∧ l = l ∧ true = true ∧ isAt c2 c6 x ∧ ∀ (b_1 : Bool),
 let c10 := D.cnd (workF w h x) (D.not b_1) false; (D.and true (workF w h x) = true → workF w h x = true) ∧ (c10 = true → b_1 = true → c7 = c3) ∧ (c10 = false →
  inR IntKind.i64 c8 ∧ ∃ y, daysTo a c5 y ∧ ((l = l ∧ a = a ∧ b = b ∧ c1 = c1 ∧ c8 = y ∧ a = a ∧ True) ∧ c7 = cntTo w h a y ∧ b_1 = true) ∧ D.nlt (D.nat (D.sub
  c4 y)) (D.nat (D.sub c4 x)))) ∧ (workF w h x = false → (workF w h x = true → workF w h x = true → workF w h x = true) ∧ (D.and true (workF w h x) = true →
  workF w h x = true) ∧ (c9 = true → true = true → c6 = c3) ∧ (c9 = false → inR IntKind.i64 c8 ∧ ∃ y, daysTo a c5 y ∧ ((l = l ∧ a = a ∧ b = b ∧ c1 = c1 ∧ c8 = y
  ∧ a = a ∧ True) ∧ c6 = cntTo w h a y ∧ true = true) ∧ D.nlt (D.nat (D.sub c4 y)) (D.nat (D.sub c4 x))))) ∧ (D.le x b = false → true = true → c6 = c3)) :
    evI (mkc KT5) (wdaysA w h a b) 71 [.ip I a, .ip I b, .ip C (z, w, h)] ⟨wdaysP z w h a b, I, wdaysL w h a b⟩ := of_eq (by kernel_rfl) hvc
def KT6 : Kt := kOr 41 (dataK [.row N, .val I] (fun (n, l, _) => lineP n l) fun (n, l, _) => cal (calF n l).1 (calF n l).2.1 (calF n l).2.2) <|
  kOr 43 (dataK [.row C, .val I, .val I] (fun _ => True) fun (c, a, b, _) => .fn 71 [.ip I a, .ip I b, .ip C (c.1, c.2.1, c.2.2)]) <|
  kOr 35 (dataK [.row N, .val I, .val R] (fun (_, _, ts, _) => fewTs ts) fun (n, l, ts, _) => .dat .bool (usableF n l ts)) KT5
def KIT6 : FuncId → List AV → Option IRes := fun f caps => match f, caps with
  | 71, [.ip (.int .i64) a, .ip (.int .i64) b, .ip (.pair (.int .i64) (.pair (.sl .bool) (.sl (.int .i64)))) c] => some ⟨wdaysP c.1 c.2.1 c.2.2 a b, I, wdaysL c.2.1 c.2.2 a b⟩
  | _, _ => none
noncomputable def mkr (K : Kt) (mb : Tmp → Bool) : Cfg := ⟨Tryz.prog, G0, K, mb, KIT6, true⟩
def flat (s : St) : St := { s with tm := s.tm.map topU }
def firstA (n : Net) (line time : Int) : Ann := ⟨fun id s => match id with
  | 4 => some { α := Nat, inv := fun k => firstTo n line time k, st := fun _ => flat s, μ := fun k => k }
  | _ => none, fun _ _ => none, fun _ _ => none⟩
theorem vc_first (line time : Int) (cs : LC) (ns os : LB) (fs : List Off) (ls : List Line) (ks : List Cla) (hvc :
 let c1 := (cs, ns, os, fs, ls, ks);
 let c2 := calF c1 line;
 let c3 := c2.fst;
 let c4 := c2.snd;
 let c5 := c4.fst;
 let c6 := c4.snd;
 let c7 := dayF c3 time;
 let c8 := D.add c7 (60 : Int);
 let c9 := minF c3 time;
 let c10 := (c3, c5, c6);
 let c11 := wdaysL c5 c6 c7 c8;
 let c12 := (D.get ls (D.nat line) (ByteArray.mk (D.nil UInt8).toArray, (0 : Int), (0 : Int), (0 : Int), (0 : Int), (0 : Int))).snd.snd.snd.fst;
 let c13 := D.add time (86400 : Int);
 let c14 := firstD c1 line time;
 let c15 := firstB c1 line time; true = true ∧ (firstP c1 line time → lineP c1 line ∧ 1 = 1 ∧ 0 = 0 ∧ 1 = 1 ∧ 0 = 0 ∧ okLocal c3 c5 c6 time ∧ 1 = 1 ∧ 0 = 0 ∧ inR
  IntKind.i64 c8 ∧ True ∧ wdaysP c3 c5 c6 c7 c8 ∧ (∃ x, firstTo c1 line time x ∧ x = 0 ∧ cs = cs ∧ ns = ns ∧ os = os ∧ fs = fs ∧ ls = ls ∧ ks = ks ∧ line = line
  ∧ time = time ∧ c1 = c1 ∧ line = line ∧ time = time ∧ 1 = 1 ∧ 0 = 0 ∧ 0 = 0 ∧ 1 = 1 ∧ 0 = 0 ∧ 0 = 0 ∧ 1 = 1 ∧ 0 = 0 ∧ 0 = 0 ∧ c7 = c7 ∧ c9 = c9 ∧ cs = cs ∧ ns
  = ns ∧ os = os ∧ fs = fs ∧ ls = ls ∧ ks = ks ∧ line = line ∧ c3 = c3 ∧ c5 = c5 ∧ c6 = c6 ∧ c7 = c7 ∧ c9 = c9 ∧ c3 = c3 ∧ c5 = c5 ∧ c6 = c6 ∧ time = time ∧ c7 =
  c7 ∧ c9 = c9 ∧ c7 = c7 ∧ c9 = c9 ∧ c3 = c3 ∧ c5 = c5 ∧ c6 = c6 ∧ c7 = c7 ∧ c7 = c7 ∧ c8 = c8 ∧ c7 = c7 ∧ c8 = c8 ∧ c10 = c10 ∧ (0 : Int) = (0 : Int) ∧ false =
  false ∧ c3 = c3 ∧ c5 = c5 ∧ c6 = c6 ∧ True) ∧ (∀ (x : Nat) (y : Int),
 let c16 := D.lt (timeF c3 y c12) time;
 let c17 := D.ge (timeF c3 y c12) c13; firstTo c1 line time x → isAt c11 x y → 1 = 1 ∧ 0 = 0 ∧ D.ile (0 : Int) line ∧ D.ilt line (D.ilen ls) ∧ okTime c3 c5 c6 y
  c12 ∧ (c16 = true → ∃ z, firstTo c1 line time z ∧ z = D.nadd x (1) ∧ cs = cs ∧ ns = ns ∧ os = os ∧ fs = fs ∧ ls = ls ∧ ks = ks ∧ line = line ∧ time = time ∧ c1
  = c1 ∧ line = line ∧ time = time ∧ 1 = 1 ∧ 0 = 0 ∧ 0 = 0 ∧ 1 = 1 ∧ 0 = 0 ∧ 0 = 0 ∧ 1 = 1 ∧ 0 = 0 ∧ 0 = 0 ∧ c7 = c7 ∧ c9 = c9 ∧ cs = cs ∧ ns = ns ∧ os = os ∧ fs
  = fs ∧ ls = ls ∧ ks = ks ∧ line = line ∧ c3 = c3 ∧ c5 = c5 ∧ c6 = c6 ∧ c7 = c7 ∧ c9 = c9 ∧ c3 = c3 ∧ c5 = c5 ∧ c6 = c6 ∧ time = time ∧ c7 = c7 ∧ c9 = c9 ∧ c7 =
  c7 ∧ c9 = c9 ∧ c3 = c3 ∧ c5 = c5 ∧ c6 = c6 ∧ c7 = c7 ∧ c7 = c7 ∧ c8 = c8 ∧ c7 = c7 ∧ c8 = c8 ∧ c10 = c10 ∧ (0 : Int) = (0 : Int) ∧ false = false ∧ c3 = c3 ∧ c5
  = c5 ∧ c6 = c6 ∧ True) ∧ (c16 = false → inR IntKind.i64 c13 ∧ (c17 = true → 1 = 1 ∧ 0 = 0 ∧ 1 = 1 ∧ 0 = 0 ∧ 1 = 1 ∧ 0 = 0 ∧ 1 = 1 ∧ 0 = 0 ∧ (0 : Int) = c14 ∧
  false = c15 ∧ True) ∧ (c17 = false → 1 = 1 ∧ 0 = 0 ∧ 1 = 1 ∧ 0 = 0 ∧ 1 = 1 ∧ 0 = 0 ∧ 1 = 1 ∧ 0 = 0 ∧ timeF c3 y c12 = c14 ∧ true = c15 ∧ True))) ∧ ∀ (x : Nat),
  firstTo c1 line time x → x = D.len c11 → 1 = 1 ∧ 0 = 0 ∧ 1 = 1 ∧ 0 = 0 ∧ 1 = 1 ∧ 0 = 0 ∧ 1 = 1 ∧ 0 = 0 ∧ (0 : Int) = c14 ∧ false = c15 ∧ True)) :
    evF (mkr KT6 fun _ => false) (firstA (cs, ns, os, fs, ls, ks) line time) 36 [net cs ns os fs ls ks, .dat I line, .dat I time] [] ⟨firstP (cs, ns, os, fs, ls, ks) line time, .tup [.dat I (firstD (cs, ns, os, fs, ls, ks) line time), .dat .bool (firstB (cs, ns, os, fs, ls, ks) line time)], []⟩ := of_eq (by kernel_rfl) hvc
def KT7 : Kt := kOr 36 (dataK [.row N, .val I, .val I] (fun (n, l, t, _) => firstP n l t) fun (n, l, t, _) => .tup [.dat I (firstD n l t), .dat .bool (firstB n l t)]) KT6
theorem KST5 : KSound Tryz.prog G0 KT5 := kOr_ok (dataK_ok fun ((z, w, h), d, _) => s_Work z w h d) KST4
theorem filt_at {α : Type} {f : Nat → α} {p : α → Bool} {k : Nat} (hp : p (f k) = true) : ∀ N : Nat, k < N → (((List.range N).map f).filter p)[(((List.range k).map f).filter p).length]? = some (f k)
  | 0, h => by omega
  | N + 1, h => by
    rw [List.range_succ, List.map_append, List.filter_append]
    rcases Nat.lt_or_ge k N with hk | hk
    · have ih := filt_at hp N hk
      rw [List.getElem?_append_left (List.getElem?_eq_some_iff.1 ih).1]
      exact ih
    · have e : N = k := by omega
      subst e
      rw [List.getElem?_append_right (Nat.le_refl _), Nat.sub_self]
      simp [hp]
theorem at_list {w : List Bool} {h : List Int} {a n x : Int} (h1 : a ≤ x) (h2 : x < a + n) (hw : workF w h x = true) : isAt (listF w h a n) (cntTo w h a x) x := by
  have e : a + ((x - a).toNat : Int) = x := by omega
  have := filt_at (f := fun (i : Nat) => a + (i : Int)) (p := fun d => workF w h d) (k := (x - a).toNat) (by simp only [e]; exact hw) n.toNat (by omega)
  simp only [e] at this
  exact this
theorem cnt_succ {w : List Bool} {h : List Int} {a x : Int} (h1 : a ≤ x) : cntTo w h a (x + 1) = cntTo w h a x + (if workF w h x then 1 else 0) := by
  unfold cntTo
  rw [show (x + 1 - a).toNat = (x - a).toNat + 1 by omega, List.range_succ, List.map_append, List.filter_append, List.length_append]
  have e : a + ((x - a).toNat : Int) = x := by omega
  congr 1
  simp only [List.map_cons, List.map_nil, e, List.filter_cons, List.filter_nil]
  split <;> simp_all
theorem cnt_zero (w : List Bool) (h : List Int) (a : Int) : cntTo w h a a = 0 := by
  unfold cntTo
  rw [show (a - a).toNat = 0 by omega]; rfl
theorem cnt_end {w : List Bool} {h : List Int} {a n x : Int} (hx : daysTo a n x) (hge : ¬ x < a + n) : cntTo w h a x = (listF w h a n).length := by
  unfold cntTo listF
  obtain ⟨g1, g2⟩ := hx
  rw [show (x - a).toNat = n.toNat by omega]
theorem cal_ok (cs : LC) (ns os : LB) (fs : List Off) (ls : List Line) (ks : List Cla) {line : Int} (h : lineP (cs, ns, os, fs, ls, ks) line) : validF (calF (cs, ns, os, fs, ls, ks) line).1 (calF (cs, ns, os, fs, ls, ks) line).2.1 (calF (cs, ns, os, fs, ls, ks) line).2.2 = true ∧ 0 ≤ (lineOf (cs, ns, os, fs, ls, ks) line).2.1 ∧ (lineOf (cs, ns, os, fs, ls, ks) line).2.1 < fs.length ∧
    0 ≤ (fs.getD (lineOf (cs, ns, os, fs, ls, ks) line).2.1.toNat (⟨#[]⟩, 0, 0, 0, 0, 0, [])).2.2.1 ∧ (fs.getD (lineOf (cs, ns, os, fs, ls, ks) line).2.1.toNat (⟨#[]⟩, 0, 0, 0, 0, 0, [])).2.2.1 < cs.length ∧ 0 ≤ (lineOf (cs, ns, os, fs, ls, ks) line).2.2.2.1 ∧ (lineOf (cs, ns, os, fs, ls, ks) line).2.2.2.1 ≤ 1439 := by
  obtain ⟨hno, l0, l1⟩ := h
  have l1 : line < ls.length := l1
  have hl : lineOf (cs, ns, os, fs, ls, ks) line ∈ ls := by
    unfold lineOf
    show ls.getD line.toNat _ ∈ ls
    rw [List.getD_eq_getElem?_getD, List.getElem?_eq_getElem (by omega), Option.getD_some]
    exact List.getElem_mem _
  obtain ⟨g1, g2, g3, g4, g5, g6, _⟩ := goodLin_spec ((noF_lines cs ns os fs ls ks hno).2.2.2 _ hl)
  have f0 : 0 ≤ (lineOf (cs, ns, os, fs, ls, ks) line).2.1 := g1
  have f1 : (lineOf (cs, ns, os, fs, ls, ks) line).2.1 < fs.length := g2
  have ho : fs.getD (lineOf (cs, ns, os, fs, ls, ks) line).2.1.toNat (⟨#[]⟩, 0, 0, 0, 0, 0, []) ∈ fs := by
    rw [List.getD_eq_getElem?_getD, List.getElem?_eq_getElem (by omega), Option.getD_some]
    exact List.getElem_mem _
  have gc := (noF_offs cs ns os fs ls ks hno).2.2.2 _ ho
  unfold goodOff idxF at gc
  simp only [Bool.and_eq_true, decide_eq_true_eq] at gc
  have gc : 0 ≤ (fs.getD (lineOf (cs, ns, os, fs, ls, ks) line).2.1.toNat (⟨#[]⟩, 0, 0, 0, 0, 0, [])).2.2.1 ∧ (fs.getD (lineOf (cs, ns, os, fs, ls, ks) line).2.1.toNat (⟨#[]⟩, 0, 0, 0, 0, 0, [])).2.2.1 < (cs.length : Int) := gc.1.1.1.1.1.2
  have hc := ((kind_iff (by decide)).1 (no_parts cs ns os fs ls ks hno).2.1).2.2.2
  have hcl : (calNames cs ns).length = cs.length := by unfold calNames; simp
  have := hc (fs.getD (lineOf (cs, ns, os, fs, ls, ks) line).2.1.toNat (⟨#[]⟩, 0, 0, 0, 0, 0, [])).2.2.1.toNat (by omega)
  unfold calGoods at this
  rw [map_getD (fun c : Int × List Bool × List Int => validF c.1 c.2.1 c.2.2) cs _ (0, [], []) false (by omega)] at this
  exact ⟨this, f0, f1, gc.1, gc.2, g6.1, g6.2⟩
theorem t_calOf (line : Int) (cs : LC) (ns os : LB) (fs : List Off) (ls : List Line) (ks : List Cla) : SoundC Tryz.prog G0 41 [net cs ns os fs ls ks, .dat I line] [] ⟨lineP (cs, ns, os, fs, ls, ks) line, cal (calF (cs, ns, os, fs, ls, ks) line).1 (calF (cs, ns, os, fs, ls, ks) line).2.1 (calF (cs, ns, os, fs, ls, ks) line).2.2, []⟩ := by
  refine sound_of_ev (c := mkc KT5) KST5 KI0s hm (vc_calOf line cs ns os fs ls ks ⟨rfl, fun hp => ?_⟩)
  obtain ⟨_, h1, h2, h3, h4, _⟩ := cal_ok cs ns os fs ls ks hp
  exact ⟨hp.2.1, hp.2.2, h1, h2, h3, h4, rfl, rfl, rfl, rfl, rfl, rfl, rfl, trivial⟩
theorem t_workdays (z a b : Int) (w : List Bool) (h : List Int) : SoundC Tryz.prog G0 43 [cal z w h, .dat I a, .dat I b] [] ⟨True, .fn 71 [.ip I a, .ip I b, .ip C (z, w, h)], []⟩ :=
  sound_of_ev (c := mkc KT5) KST5 KI0s hm (vc_workdays z a b w h ⟨rfl, fun _ => ⟨rfl, rfl, rfl, trivial⟩⟩)
theorem timeOk_iff {t : Int} : timeOk t = true ↔ ¬ t < 0 ∧ ¬ t > 2000000 := by unfold timeOk; rw [decide_eq_true_eq]; omega
theorem t_usable (line : Int) (ts : List Int) (cs : LC) (ns os : LB) (fs : List Off) (ls : List Line) (ks : List Cla) : SoundC Tryz.prog G0 35 [net cs ns os fs ls ks, .dat I line, .dat R ts] [] ⟨fewTs ts, .dat .bool (usableF (cs, ns, os, fs, ls, ks) line ts), []⟩ := by
  refine sound_of_ev (c := mkc KT5) KST5 KI0s hm (vc_usable line ts cs ns os fs ls ks ⟨rfl, fun hp => ?_⟩)
  simp only [cnd_or, D.and, D.not, Bool.true_and, eq_self, true_and, and_true, imp_self, implies_true, Bool.not_eq_true', Bool.or_eq_true, Bool.or_eq_false_iff, exists_eq_right', D.eq, D.lt, D.gt, D.ge, D.ilen, D.ile, D.ilt, D.nlt, D.sub, D.add, D.nat, D.get, decide_eq_true_eq, decide_eq_false_iff_not]
  have hp' : ts.length ≤ 1000000 := hp
  refine ⟨fun h => ?_, fun ⟨h1, h2⟩ => ⟨⟨Int.le_refl _, Int.natCast_nonneg _, rfl⟩, fun k ⟨k0, k1, k2⟩ => ⟨fun hk => ?_, fun hk => ?_⟩⟩⟩
  · unfold usableF
    have : idxF line (ls.length : Nat) = false := by unfold idxF; exact decide_eq_false (by omega)
    show false = (idxF line (ls.length : Nat) && _ && _)
    rw [this]; rfl
  · have hg : ts.getD k.toNat 0 = ts[k.toNat] := by rw [List.getD_eq_getElem?_getD, List.getElem?_eq_getElem (by omega), Option.getD_some]
    refine ⟨k0, hk, fun h => ?_, fun h => ⟨in_small (by omega), k + 1, ⟨by omega, by omega, ?_⟩, rfl, by omega⟩⟩
    · have hn : ts.all timeOk = false := by
        rw [List.all_eq_false]
        refine ⟨ts[k.toNat], List.getElem_mem _, fun g => ?_⟩
        rw [← hg, timeOk_iff] at g
        omega
      unfold usableF
      rw [hn, Bool.and_false]; rfl
    · rw [show (k + 1).toNat = k.toNat + 1 by omega, List.take_add_one, List.getElem?_eq_getElem (by omega), Option.toList_some, List.all_append, k2, ← hg]
      show (true && (timeOk _ && true)) = true
      rw [timeOk_iff.2 h]; rfl
  · have e1 : idxF line (ls.length : Nat) = true := by unfold idxF; exact decide_eq_true (by omega)
    have e2 : ts.all timeOk = true := by
      rw [List.take_of_length_le (by omega)] at k2; exact k2
    unfold usableF soundF
    show _ = (idxF line (ls.length : Nat) && ts.all timeOk && _)
    rw [e1, e2]
    cases checkF (cs, ns, os, fs, ls, ks) with
    | nil => rfl
    | cons a l =>
      show decide _ = false
      rw [decide_eq_false_iff_not]
      show ¬ ((((a :: l).length : Nat) : Int) = 0)
      rw [List.length_cons]; omega
theorem inDays_iff {d : Int} : inDays d = true ↔ -1000000 ≤ d ∧ d ≤ 1000000 := by unfold inDays; rw [decide_eq_true_eq]
theorem t_wdays (a b : Int) (c : C.den) : IterC Tryz.prog G0 71 [.ip I a, .ip I b, .ip C c] ⟨wdaysP c.1 c.2.1 c.2.2 a b, I, wdaysL c.2.1 c.2.2 a b⟩ := by
  obtain ⟨z, w, h⟩ := c
  refine iter_of_ev (c := mkc KT5) (A := wdaysA w h a b) KST5 KI0s hm ?_
  refine vc_wdays z a b w h ⟨rfl, rfl, rfl, rfl, fun l ⟨hv, ha, hb⟩ => ?_⟩
  simp only [cnd_and, D.and, D.not, Bool.true_and, eq_self, true_and, and_true, imp_self, implies_true, Bool.not_eq_true', Bool.not_eq_false', Bool.and_eq_true, Bool.and_eq_false_imp, forall_const, D.le, D.nlt, D.sub, D.add, D.nat, D.len, D.nadd, decide_eq_true_eq, decide_eq_false_iff_not]
  have ha' := inDays_iff.1 ha
  have hb' := inDays_iff.1 hb
  refine ⟨⟨a, ⟨Int.le_refl _, .inr rfl⟩, rfl, (cnt_zero w h a).symm⟩, fun x hx => ?_⟩
  have hx1 := hx.1
  have hx2 := hx.2
  refine ⟨fun hle => ⟨⟨hv, inDays_iff.2 (by omega)⟩, fun hw => ⟨at_list hx1 (by omega) hw, fun s => ⟨fun g1 g2 => (by rw [g1.2] at g2; cases g2), fun g => ⟨in_small (by omega), x + 1, ⟨by omega, .inl (by omega)⟩, ⟨rfl, ?_, g hw⟩, by omega⟩⟩⟩, fun hw => ⟨fun g => (by rw [hw] at g; cases g), fun _ => ⟨in_small (by omega), x + 1, ⟨by omega, .inl (by omega)⟩, ⟨rfl, ?_⟩, by omega⟩⟩⟩, fun hge => ?_⟩
  · rw [cnt_succ hx1, hw]; rfl
  · rw [cnt_succ hx1, hw]; rfl
  · exact cnt_end (n := b - a + 1) hx (by omega)
theorem KST6 : KSound Tryz.prog G0 KT6 := kOr_ok (dataK_ok fun ((cs, ns, os, fs, ls, ks), l, _) => t_calOf l cs ns os fs ls ks) <| kOr_ok (dataK_ok fun ((z, w, h), a, b, _) => t_workdays z a b w h) <| kOr_ok (dataK_ok fun ((cs, ns, os, fs, ls, ks), l, ts, _) => t_usable l ts cs ns os fs ls ks) KST5
theorem KIT6s : KISound Tryz.prog G0 KIT6 := by
  intro f caps c h
  unfold KIT6 at h
  split at h
  · cases h; exact t_wdays _ _ _
  · cases h
theorem find_at {f : Int → Int} {time y : Int} (hy : ¬ f y < time) : ∀ {L : List Int} {x : Nat}, L[x]? = some y → (L.take x).all (fun d => decide (f d < time)) = true → (L.map f).find? (fun t => decide (time ≤ t)) = some (f y)
  | [], x, h, _ => by simp at h
  | a :: L, 0, h, _ => by
    have : a = y := by simpa using h
    subst this
    rw [List.map_cons, List.find?_cons, decide_eq_true (show time ≤ f a by omega)]
  | a :: L, x + 1, h, g => by
    rw [List.take_succ_cons, List.all_cons, Bool.and_eq_true, decide_eq_true_eq] at g
    rw [List.map_cons, List.find?_cons, decide_eq_false (show ¬ time ≤ f a by omega)]
    exact find_at hy (by simpa using h) g.2
theorem find_no {f : Int → Int} {time : Int} : ∀ {L : List Int}, L.all (fun d => decide (f d < time)) = true → (L.map f).find? (fun t => decide (time ≤ t)) = none
  | [], _ => rfl
  | a :: L, g => by
    rw [List.all_cons, Bool.and_eq_true, decide_eq_true_eq] at g
    rw [List.map_cons, List.find?_cons, decide_eq_false (show ¬ time ≤ f a by omega)]
    exact find_no g.2
theorem wdaysL_mem {w : List Bool} {h : List Int} {a b y : Int} (hy : y ∈ wdaysL w h a b) : a ≤ y ∧ y ≤ b ∧ workF w h y = true := by
  unfold wdaysL listF at hy
  rw [List.mem_filter] at hy
  obtain ⟨hy, hw⟩ := hy
  obtain ⟨i, hi, rfl⟩ := List.mem_map.1 hy
  have := List.mem_range.1 hi
  exact ⟨by omega, by omega, hw⟩
theorem today_in {z : Int} {w : List Bool} {h : List Int} {t : Int} (hv : validF z w h = true) (t0 : 0 ≤ t) (t1 : t ≤ 2000000) : -2 ≤ dayF z t ∧ dayF z t ≤ 2000 := by
  obtain ⟨⟨v1, v2, _⟩, _⟩ := validF_iff.1 hv
  unfold dayF; omega
theorem t_first (line time : Int) (cs : LC) (ns os : LB) (fs : List Off) (ls : List Line) (ks : List Cla) : SoundC Tryz.prog G0 36 [net cs ns os fs ls ks, .dat I line, .dat I time] [] ⟨firstP (cs, ns, os, fs, ls, ks) line time, .tup [.dat I (firstD (cs, ns, os, fs, ls, ks) line time), .dat .bool (firstB (cs, ns, os, fs, ls, ks) line time)], []⟩ := by
  refine sound_of_ev (c := mkr KT6 fun _ => false) KST6 KIT6s hm (vc_first line time cs ns os fs ls ks ⟨rfl, fun hp => ?_⟩)
  simp only [eq_self, true_and, and_true, exists_eq_right, D.nil, D.lt, D.ge, D.ilen, D.ile, D.ilt, D.add, D.nat, D.len, D.nadd, D.get, decide_eq_true_eq, decide_eq_false_iff_not]
  obtain ⟨hl, t0, t1⟩ := hp
  obtain ⟨hv, _, _, _, _, m0, m1⟩ := cal_ok cs ns os fs ls ks hl
  obtain ⟨d0, d1⟩ := today_in hv t0 t1
  refine ⟨hl, ⟨hv, by omega, by omega⟩, in_small (by omega), ⟨hv, inDays_iff.2 (by omega), inDays_iff.2 (by omega)⟩, ⟨Nat.zero_le _, rfl⟩, fun x y hx hy => ?_, fun x hx hl => ?_⟩
  · have hy' : (todayL (cs, ns, os, fs, ls, ks) line time)[x]? = some y := hy
    obtain ⟨y0, y1, yw⟩ := wdaysL_mem (List.mem_of_getElem? hy)
    obtain ⟨x1, x2⟩ := hx
    refine ⟨hl.2.1, hl.2.2, ⟨hv, inDays_iff.2 (by omega), m0, (by show (lineOf (cs, ns, os, fs, ls, ks) line).2.2.2.1 < 1440; omega)⟩, fun hlt => ⟨(List.getElem?_eq_some_iff.1 hy').1, ?_⟩, fun hge => ⟨in_small (by omega), fun hfar => ?_, fun hnear => ?_⟩⟩
    · rw [List.take_add_one, hy', Option.toList_some, List.all_append, x2]
      show (true && (decide (leaveF (cs, ns, os, fs, ls, ks) line y < time) && true)) = true
      rw [decide_eq_true (show leaveF (cs, ns, os, fs, ls, ks) line y < time from hlt)]; rfl
    · have hf : firstO (cs, ns, os, fs, ls, ks) line time = none := by
        unfold firstO
        rw [find_at (f := leaveF (cs, ns, os, fs, ls, ks) line) hge hy' x2]
        show (if leaveF (cs, ns, os, fs, ls, ks) line y < time + 86400 then some (leaveF (cs, ns, os, fs, ls, ks) line y) else none) = none
        rw [if_neg (show ¬ leaveF (cs, ns, os, fs, ls, ks) line y < time + 86400 from by have : leaveF (cs, ns, os, fs, ls, ks) line y ≥ time + 86400 := hfar; omega)]
      unfold firstD firstB
      rw [hf]; exact ⟨rfl, rfl⟩
    · have hf : firstO (cs, ns, os, fs, ls, ks) line time = some (leaveF (cs, ns, os, fs, ls, ks) line y) := by
        unfold firstO
        rw [find_at (f := leaveF (cs, ns, os, fs, ls, ks) line) hge hy' x2]
        show (if leaveF (cs, ns, os, fs, ls, ks) line y < time + 86400 then some (leaveF (cs, ns, os, fs, ls, ks) line y) else none) = _
        rw [if_pos (show leaveF (cs, ns, os, fs, ls, ks) line y < time + 86400 from by have : ¬ leaveF (cs, ns, os, fs, ls, ks) line y ≥ time + 86400 := hnear; omega)]
      unfold firstD firstB
      rw [hf]; exact ⟨rfl, rfl⟩
  · obtain ⟨x1, x2⟩ := hx
    have hx' : x = (todayL (cs, ns, os, fs, ls, ks) line time).length := hl
    rw [hx', List.take_length] at x2
    have hf : firstO (cs, ns, os, fs, ls, ks) line time = none := by
      unfold firstO
      rw [find_no x2]; rfl
    unfold firstD firstB
    rw [hf]; exact ⟨rfl, rfl⟩
theorem KST7 : KSound Tryz.prog G0 KT7 := kOr_ok (dataK_ok fun ((cs, ns, os, fs, ls, ks), l, t, _) => t_first l t cs ns os fs ls ks) KST6
end Go.Eng.Sv
