/- PeTt10d -/
import Derived.Test.YtejeaokbkbfgjaaDoorX22
import Derived.Test.YtejeaokbkbfgjaaDoorTt9d
set_option linter.unusedSimpArgs false
set_option linter.unusedVariables false
set_option maxRecDepth 100000
namespace Go.Eng.Sv
open Go.Proofs

abbrev U8 : Ty := .int .u8
abbrev U16 : Ty := .int .u16
noncomputable def u8P (a : Int) : Prop := 0 ≤ a ∧ a ≤ 255
noncomputable def u16P (a : Int) : Prop := 0 ≤ a ∧ a ≤ 65535
noncomputable def lawFirstTo (n : Net) (line time d : Int) : Prop := fineF n line = true ∧ 0 ≤ time ∧ time ≤ 2000000 ∧ departE n line time = 0 ∧ dayF (calF n line).1 time ≤ d ∧ d ≤ dayF (calF n line).1 (departD n line time)
noncomputable def KT16 : Kt := kOr 9 (dataK [] (fun _ => True) fun _ => .dat .bool true) <| kOr 10 (dataK [.row N, .val I] (fun _ => True) fun (n, l, _) => .dat .bool (fineF n l)) KT15
noncomputable def lfirstA (n : Net) (line time : Int) : Ann := ⟨fun id s => match id with
  | 14 => some { α := Int, inv := fun d => lawFirstTo n line time d, st := fun d => put s [(18, .dat I d)], μ := fun d => D.nat (D.sub (dayF (calF n line).1 (departD n line time)) d) }
  | _ => none, fun _ _ => none, fun _ _ => none⟩
set_option maxRecDepth 100000 in
theorem vc_lfirst (line time raw : Int) (cs : List (Int × List Bool × List Int)) (ns os : List ByteArray) (fs : List Off) (ls : List Line) (ks : List Cla) (hvc :
    let c1 := (ls, ks);
    let c2 := (fs, c1);
    let c3 := (cs, ns, os, c2);
    let c4 := fineF c3 line;
    let c5 := D.not c4;
    let c6 := D.not c5;
    let c7 := D.cnd c5 true (D.lt time (0 : Int));
    let c8 := D.not c7;
    let c9 := D.cnd c7 true (D.gt time (2000000 : Int));
    let c10 := D.get ls (D.nat line) (ByteArray.mk (D.nil UInt8).toArray, (0 : Int), (0 : Int), (0 : Int), (0 : Int), (0 : Int));
    let c11 := c10.snd;
    let c12 := c11.fst;
    let c13 := D.get fs (D.nat c12) (ByteArray.mk (D.nil UInt8).toArray, (0 : Int), (0 : Int), (0 : Int), (0 : Int), (0 : Int), D.nil ByteArray);
    let c14 := c13.snd.snd;
    let c15 := c14.fst;
    let c16 := D.get cs (D.nat c15) ((0 : Int), D.nil Bool, D.nil Int);
    let c17 := c16.fst;
    let c18 := c16.snd;
    let c19 := c18.fst;
    let c20 := c18.snd;
    let c21 := departE c3 line time;
    let c22 := D.ne c21 (0 : Int);
    let c23 := dayF c17 time;
    let c24 := D.add c23 (D.rem raw (60 : Int));
    let c25 := D.cnd true (D.eq c21 (20 : Int)) false;
    let c26 := D.not (workF c19 c20 c24);
    let c27 := c11.snd.snd.fst;
    let c28 := departD c3 line time;
    let c29 := D.lt c28 time;
    let c30 := D.not c29;
    let c31 := minF c17 c28;
    let c32 := D.cnd c29 true (D.ne c31 c27);
    let c33 := D.not c32;
    let c34 := dayF c17 c28;
    let c35 := D.cnd c32 true (D.not (workF c19 c20 c34));
    let c36 := D.not c35;
    let c37 := D.add time (86400 : Int);
    let c38 := D.cnd c35 true (D.ge c28 c37);
    let c39 := minF c17 time;
    let c40 := dayF (calF c3 line).fst c28; true = true ∧ (u8P raw → True ∧ True ∧ (c6 = true → c6 = true → c6 = true) ∧ (D.and true c6 = true → c6 = true) ∧ (c8 =
     true → c8 = true → c8 = true) ∧ (D.and true c8 = true → c8 = true) ∧ (c9 = true → true = true ∧ True) ∧ (c9 = false → True ∧ D.ile (0 : Int) line ∧ D.ilt line
     (D.ilen ls) ∧ D.ile (0 : Int) c12 ∧ D.ilt c12 (D.ilen fs) ∧ D.ile (0 : Int) c15 ∧ D.ilt c15 (D.ilen cs) ∧ 1 = 1 ∧ 0 = 0 ∧ 1 = 1 ∧ 0 = 0 ∧ okLocal c17 c19 c20
     time ∧ (c22 = true → inR IntKind.i64 raw ∧ D.ine (60 : Int) (0 : Int) ∧ inR IntKind.i64 c24 ∧ (true = true → true = true → true = true) ∧ (D.and true true =
     true → true = true) ∧ (c25 = true → 1 = 1) ∧ (c25 = true → 0 = 0) ∧ (c25 = true → c25 = true → c25 = true) ∧ (c25 = true → c25 = true → c25 = true) ∧ (c25 =
     true → validF c17 c19 c20 = true ∧ inDays c24 = true) ∧ (c25 = true → c25 = true → c25 = true) ∧ (c25 = true → c25 = true → c25 = true) ∧ (D.and c25 (D.not
     c26) = true → 1 = 1) ∧ (D.and c25 (D.not c26) = true → 0 = 0) ∧ (D.and c25 (D.not c26) = true → D.and c25 (D.not c26) = true → D.and c25 (D.not c26) = true) ∧
     (D.and c25 (D.not c26) = true → D.and c25 (D.not c26) = true → D.and c25 (D.not c26) = true) ∧ (D.and c25 (D.not c26) = true → D.and c25 (D.not c26) = true →
     D.and c25 (D.not c26) = true) ∧ (D.and c25 (D.not c26) = true → D.ile (0 : Int) line) ∧ (D.and c25 (D.not c26) = true → D.ilt line (D.ilen ls)) ∧ (D.and c25
     (D.not c26) = true → D.and c25 (D.not c26) = true → D.and c25 (D.not c26) = true) ∧ (D.and c25 (D.not c26) = true → D.and c25 (D.not c26) = true → D.and c25
     (D.not c26) = true) ∧ (D.and c25 (D.not c26) = true → D.and c25 (D.not c26) = true → D.and c25 (D.not c26) = true) ∧ (D.and c25 (D.not c26) = true → D.and c25
     (D.not c26) = true → D.and c25 (D.not c26) = true) ∧ (D.and c25 (D.not c26) = true → D.and c25 (D.not c26) = true → D.and c25 (D.not c26) = true) ∧ (D.and c25
     (D.not c26) = true → okTime c17 c19 c20 c24 c27) ∧ (D.and c25 (D.not c26) = true → D.and c25 (D.not c26) = true → D.and c25 (D.not c26) = true) ∧ (D.and c25
     (D.not c26) = true → D.and c25 (D.not c26) = true → D.and c25 (D.not c26) = true) ∧ (c25 = true → c25 = true → c25 = true) ∧ (c25 = true → D.and c25 (D.not
     c26) = true → D.and c25 (D.not c26) = true) ∧ (D.and true c25 = true → c25 = true) ∧ D.cnd c25 (D.cnd c26 true (D.lt (timeF c17 c24 c27) time)) false = true ∧
     True) ∧ (c22 = false → 1 = 1 ∧ 0 = 0 ∧ okLocal c17 c19 c20 c28 ∧ (c30 = true → c30 = true → c30 = true) ∧ (c30 = true → c30 = true → c30 = true) ∧ (c30 = true
     → c30 = true → c30 = true) ∧ (c30 = true → D.ile (0 : Int) line) ∧ (c30 = true → D.ilt line (D.ilen ls)) ∧ (c30 = true → c30 = true → c30 = true) ∧ (c30 = true
     → c30 = true → c30 = true) ∧ (c30 = true → c30 = true → c30 = true) ∧ (c30 = true → c30 = true → c30 = true) ∧ (D.and true c30 = true → c30 = true) ∧ (c33 =
     true → 1 = 1) ∧ (c33 = true → 0 = 0) ∧ (c33 = true → c33 = true → c33 = true) ∧ (c33 = true → c33 = true → c33 = true) ∧ (c33 = true → validF c17 c19 c20 =
     true ∧ inDays c34 = true) ∧ (c33 = true → c33 = true → c33 = true) ∧ (D.and true c33 = true → c33 = true) ∧ (c36 = true → c36 = true → c36 = true) ∧ (c36 =
     true → inR IntKind.i64 c37) ∧ (c36 = true → c36 = true → c36 = true) ∧ (c36 = true → c36 = true → c36 = true) ∧ (D.and true c36 = true → c36 = true) ∧ (c38 =
     true → false = true ∧ True) ∧ (c38 = false → (∃ x, lawFirstTo c3 line time x ∧ cs = cs ∧ ns = ns ∧ os = os ∧ fs = fs ∧ ls = ls ∧ ks = ks ∧ line = line ∧ time =
     time ∧ raw = raw ∧ c3 = c3 ∧ true = true ∧ c28 = c28 ∧ c21 = c21 ∧ 1 = 1 ∧ 0 = 0 ∧ 0 = 0 ∧ c23 = c23 ∧ c39 = c39 ∧ c34 = c34 ∧ c31 = c31 ∧ c23 = x ∧ true =
     true ∧ cs = cs ∧ ns = ns ∧ os = os ∧ fs = fs ∧ ls = ls ∧ ks = ks ∧ line = line ∧ c4 = c4 ∧ c5 = c5 ∧ c5 = c5 ∧ c7 = c7 ∧ c7 = c7 ∧ c9 = c9 ∧ c28 = c28 ∧ c21 =
     c21 ∧ cs = cs ∧ ns = ns ∧ os = os ∧ fs = fs ∧ ls = ls ∧ ks = ks ∧ line = line ∧ time = time ∧ c28 = c28 ∧ c21 = c21 ∧ c28 = c28 ∧ c21 = c21 ∧ c3 = c3 ∧ cs = cs
     ∧ c2 = c2 ∧ fs = fs ∧ c1 = c1 ∧ ls = ls ∧ line = line ∧ c10 = c10 ∧ c11 = c11 ∧ c12 = c12 ∧ c13 = c13 ∧ c14 = c14 ∧ c15 = c15 ∧ c16 = c16 ∧ c17 = c17 ∧ c19 =
     c19 ∧ c20 = c20 ∧ c23 = c23 ∧ c39 = c39 ∧ c17 = c17 ∧ c19 = c19 ∧ c20 = c20 ∧ time = time ∧ c23 = c23 ∧ c39 = c39 ∧ c23 = c23 ∧ c39 = c39 ∧ c21 = c21 ∧ c22 =
     c22 ∧ c34 = c34 ∧ c31 = c31 ∧ c17 = c17 ∧ c19 = c19 ∧ c20 = c20 ∧ c28 = c28 ∧ c34 = c34 ∧ c31 = c31 ∧ c34 = c34 ∧ c31 = c31 ∧ c28 = c28 ∧ time = time ∧ c29 =
     c29 ∧ c29 = c29 ∧ c32 = c32 ∧ c32 = c32 ∧ c35 = c35 ∧ c35 = c35 ∧ c38 = c38 ∧ c23 = c23 ∧ c17 = c17 ∧ c19 = c19 ∧ c20 = c20 ∧ True) ∧ ∀ (x : Int),
    let c41 := D.cnd (workF c19 c20 x) (D.ge (timeF c17 x c27) time) false;
    let c42 := D.add x (1 : Int); lawFirstTo c3 line time x → (D.lt x c34 = true → 1 = 1 ∧ 0 = 0 ∧ (validF c17 c19 c20 = true ∧ inDays x = true) ∧ (workF c19 c20 x
     = true → 1 = 1) ∧ (workF c19 c20 x = true → 0 = 0) ∧ (workF c19 c20 x = true → workF c19 c20 x = true → workF c19 c20 x = true) ∧ (workF c19 c20 x = true →
     workF c19 c20 x = true → workF c19 c20 x = true) ∧ (workF c19 c20 x = true → workF c19 c20 x = true → workF c19 c20 x = true) ∧ (workF c19 c20 x = true → D.ile
     (0 : Int) line) ∧ (workF c19 c20 x = true → D.ilt line (D.ilen ls)) ∧ (workF c19 c20 x = true → workF c19 c20 x = true → workF c19 c20 x = true) ∧ (workF c19
     c20 x = true → workF c19 c20 x = true → workF c19 c20 x = true) ∧ (workF c19 c20 x = true → workF c19 c20 x = true → workF c19 c20 x = true) ∧ (workF c19 c20 x
     = true → workF c19 c20 x = true → workF c19 c20 x = true) ∧ (workF c19 c20 x = true → workF c19 c20 x = true → workF c19 c20 x = true) ∧ (workF c19 c20 x =
     true → okTime c17 c19 c20 x c27) ∧ (workF c19 c20 x = true → workF c19 c20 x = true → workF c19 c20 x = true) ∧ (workF c19 c20 x = true → workF c19 c20 x =
     true → workF c19 c20 x = true) ∧ (D.and true (workF c19 c20 x) = true → workF c19 c20 x = true) ∧ (c41 = true → false = true ∧ True) ∧ (c41 = false → inR
     IntKind.i64 c42 ∧ ∃ y, lawFirstTo c3 line time y ∧ (cs = cs ∧ ns = ns ∧ os = os ∧ fs = fs ∧ ls = ls ∧ ks = ks ∧ line = line ∧ time = time ∧ raw = raw ∧ c3 = c3
     ∧ true = true ∧ c28 = c28 ∧ c21 = c21 ∧ 1 = 1 ∧ 0 = 0 ∧ 0 = 0 ∧ c23 = c23 ∧ c39 = c39 ∧ c34 = c34 ∧ c31 = c31 ∧ c42 = y ∧ true = true ∧ cs = cs ∧ ns = ns ∧ os
     = os ∧ fs = fs ∧ ls = ls ∧ ks = ks ∧ line = line ∧ c4 = c4 ∧ c5 = c5 ∧ c5 = c5 ∧ c7 = c7 ∧ c7 = c7 ∧ c9 = c9 ∧ c28 = c28 ∧ c21 = c21 ∧ cs = cs ∧ ns = ns ∧ os =
     os ∧ fs = fs ∧ ls = ls ∧ ks = ks ∧ line = line ∧ time = time ∧ c28 = c28 ∧ c21 = c21 ∧ c28 = c28 ∧ c21 = c21 ∧ c3 = c3 ∧ cs = cs ∧ c2 = c2 ∧ fs = fs ∧ c1 = c1
     ∧ ls = ls ∧ line = line ∧ c10 = c10 ∧ c11 = c11 ∧ c12 = c12 ∧ c13 = c13 ∧ c14 = c14 ∧ c15 = c15 ∧ c16 = c16 ∧ c17 = c17 ∧ c19 = c19 ∧ c20 = c20 ∧ c23 = c23 ∧
     c39 = c39 ∧ c17 = c17 ∧ c19 = c19 ∧ c20 = c20 ∧ time = time ∧ c23 = c23 ∧ c39 = c39 ∧ c23 = c23 ∧ c39 = c39 ∧ c21 = c21 ∧ c22 = c22 ∧ c34 = c34 ∧ c31 = c31 ∧
     c17 = c17 ∧ c19 = c19 ∧ c20 = c20 ∧ c28 = c28 ∧ c34 = c34 ∧ c31 = c31 ∧ c34 = c34 ∧ c31 = c31 ∧ c28 = c28 ∧ time = time ∧ c29 = c29 ∧ c29 = c29 ∧ c32 = c32 ∧
     c32 = c32 ∧ c35 = c35 ∧ c35 = c35 ∧ c38 = c38 ∧ c23 = c23 ∧ c17 = c17 ∧ c19 = c19 ∧ c20 = c20 ∧ True) ∧ D.nlt (D.nat (D.sub c40 y)) (D.nat (D.sub c40 x)))) ∧
     (D.lt x c34 = false → true = true ∧ True)))))) :
    evF (mkc KT16) (lfirstA (cs, ns, os, fs, ls, ks) line time) 3 [net cs ns os fs ls ks, .dat I line, .dat I time, .dat U8 raw] [] ⟨u8P raw, .dat .bool true, []⟩ := of_eq (by kernel_rfl) hvc

set_option maxRecDepth 100000 in
theorem vc_llater (line time more : Int) (cs : List (Int × List Bool × List Int)) (ns os : List ByteArray) (fs : List Off) (ls : List Line) (ks : List Cla) (hvc :
    let c1 := (cs, ns, os, fs, ls, ks);
    let c2 := D.not (fineF c1 line);
    let c3 := D.not c2;
    let c4 := D.cnd c2 true (D.lt time (0 : Int));
    let c5 := D.not c4;
    let c6 := D.cnd c4 true (D.gt time (1000000 : Int));
    let c7 := D.ne (departE c1 line time) (0 : Int);
    let c8 := departD c1 line time;
    let c9 := D.add c8 (1 : Int);
    let c10 := D.ne (departE c1 line (D.add time more)) (0 : Int);
    let c11 := D.cnd true (D.cnd c10 true (D.ge (departD c1 line (D.add time more)) c8)) false;
    let c12 := D.cnd c11 (D.eq (departE c1 line c8) (0 : Int)) false;
    let c13 := D.cnd c12 (D.eq (departD c1 line c8) c8) false;
    let c14 := D.ne (departE c1 line c9) (0 : Int); true = true ∧ (u16P more → True ∧ True ∧ (c3 = true → c3 = true → c3 = true) ∧ (D.and true c3 = true → c3 =
     true) ∧ (c5 = true → c5 = true → c5 = true) ∧ (D.and true c5 = true → c5 = true) ∧ (c6 = true → true = true ∧ True) ∧ (c6 = false → True ∧ inR IntKind.i64 more
     ∧ inR IntKind.i64 (D.add time more) ∧ True ∧ (c7 = true → true = true ∧ True) ∧ (c7 = false → True ∧ inR IntKind.i64 c9 ∧ True ∧ (true = true → true = true →
     true = true) ∧ (true = true → true = true → true = true) ∧ (D.and true (D.not c10) = true → D.and true (D.not c10) = true → D.and true (D.not c10) = true) ∧
     (D.and true (D.not c10) = true → D.and true (D.not c10) = true → D.and true (D.not c10) = true) ∧ (true = true → true = true → true = true) ∧ (true = true →
     D.and true (D.not c10) = true → D.and true (D.not c10) = true) ∧ (D.and true true = true → true = true) ∧ (c11 = true → c11 = true → c11 = true) ∧ (D.and true
     c11 = true → c11 = true) ∧ (c12 = true → c12 = true → c12 = true) ∧ (c12 = true → c12 = true → c12 = true) ∧ (D.and true c12 = true → c12 = true) ∧ (c13 = true
     → c13 = true → c13 = true) ∧ (c13 = true → c13 = true → c13 = true) ∧ (D.and c13 (D.not c14) = true → D.and c13 (D.not c14) = true → D.and c13 (D.not c14) =
     true) ∧ (D.and c13 (D.not c14) = true → D.and c13 (D.not c14) = true → D.and c13 (D.not c14) = true) ∧ (c13 = true → c13 = true → c13 = true) ∧ (c13 = true →
     D.and c13 (D.not c14) = true → D.and c13 (D.not c14) = true) ∧ (D.and true c13 = true → c13 = true) ∧ D.cnd c13 (D.cnd c14 true (D.gt (departD c1 line c9) c8))
     false = true ∧ True)))) :
    evF (mkc KT16) noAnn 4 [net cs ns os fs ls ks, .dat I line, .dat I time, .dat U16 more] [] ⟨u16P more, .dat .bool true, []⟩ := of_eq (by kernel_rfl) hvc

theorem KST17 : KSound Tryd.prog G0 KT16 := kOr_ok (dataK_ok fun _ => t_head13) <| kOr_ok (dataK_ok fun ((cs, ns, os, fs, ls, ks), l, _) => t_fine l cs ns os fs ls ks) KST15
theorem fine_parts (cs : List (Int × List Bool × List Int)) (ns os : List ByteArray) (fs : List Off) (ls : List Line) (ks : List Cla) {line : Int} (h : fineF (cs, ns, os, fs, ls, ks) line = true) : lineP (cs, ns, os, fs, ls, ks) line ∧ ∀ ts : List Int, ts.all timeOk = true → usableF (cs, ns, os, fs, ls, ks) line ts = true := by
  unfold fineF at h
  rw [Bool.and_eq_true, Bool.and_eq_true] at h
  obtain ⟨⟨_, h2⟩, h3⟩ := h
  have hs := ((checkF_nil cs ns os fs ls ks).1 (List.isEmpty_iff.1 h2)).1
  have h3' := of_decide_eq_true h3
  refine ⟨⟨hs, h3'.1, h3'.2⟩, fun ts ht => ?_⟩
  unfold usableF
  rw [show idxF line (ls.length : Nat) = true from h3, ht, h2]; rfl
theorem depart_some {n : Net} {l t : Int} (hu : usableF n l [t] = true) (h : departE n l t = 0) : firstO n l t = some (departD n l t) := by
  unfold departE at h
  unfold departD firstD
  rw [if_pos hu] at h ⊢
  unfold firstB at h
  cases e : firstO n l t with
  | none => rw [e] at h; cases h
  | some u => rfl
theorem depart_none {n : Net} {l t : Int} (hu : usableF n l [t] = true) (h : departE n l t ≠ 0) : firstO n l t = none ∧ departE n l t = 20 := by
  unfold departE at h ⊢
  rw [if_pos hu] at h ⊢
  unfold firstB at h ⊢
  cases e : firstO n l t with
  | none => exact ⟨rfl, rfl⟩
  | some u => rw [e] at h; exact (h rfl).elim
theorem depart_of {n : Net} {l t u : Int} (hu : usableF n l [t] = true) (h : firstO n l t = some u) : departD n l t = u ∧ departE n l t = 0 := by
  unfold departD departE firstD firstB
  rw [if_pos hu, if_pos hu, h]; exact ⟨rfl, rfl⟩
theorem time_ok {t : Int} (h0 : 0 ≤ t) (h1 : t ≤ 2000000) : [t].all timeOk = true := by
  simp [timeOk, h0, h1]
theorem dlt {a b : Int} (h : a < b) : D.lt a b = true := decide_eq_true h
theorem ltd {a b : Int} (h : D.lt a b = true) : a < b := of_decide_eq_true h
theorem ged {a b : Int} (h : D.ge a b = true) : b ≤ a := of_decide_eq_true h
theorem lineOf_fold (cs : List (Int × List Bool × List Int)) (ns os : List ByteArray) (fs : List Off) (ls : List Line) (ks : List Cla) (line : Int) : ls.getD line.toNat (⟨#[]⟩, 0, 0, 0, 0, 0) = lineOf (cs, ns, os, fs, ls, ks) line := rfl
theorem calF_fold (cs : List (Int × List Bool × List Int)) (ns os : List ByteArray) (fs : List Off) (ls : List Line) (ks : List Cla) (line : Int) : cs.getD (fs.getD (lineOf (cs, ns, os, fs, ls, ks) line).2.1.toNat (⟨#[]⟩, 0, 0, 0, 0, 0, [])).2.2.1.toNat (0, [], []) = calF (cs, ns, os, fs, ls, ks) line := rfl
theorem t_lfirst (line time raw : Int) (cs : List (Int × List Bool × List Int)) (ns os : List ByteArray) (fs : List Off) (ls : List Line) (ks : List Cla) : SoundC Tryd.prog G0 3 [net cs ns os fs ls ks, .dat I line, .dat I time, .dat U8 raw] [] ⟨u8P raw, .dat .bool true, []⟩ := by
  refine sound_of_ev (c := mkc KT16) KST17 KI0s hm (vc_lfirst line time raw cs ns os fs ls ks ⟨rfl, fun hp => ?_⟩)
  simp only [cnd_or, cnd_and, D.and, D.or, D.not, Bool.true_and, Bool.and_true, Bool.false_or, Bool.or_false, eq_self, true_and, and_true, imp_self, implies_true, Bool.not_eq_true', Bool.or_eq_true, Bool.or_eq_false_iff, Bool.not_eq_false', Bool.and_eq_true, Bool.and_eq_false_imp, Bool.not_not, forall_const, exists_eq_right, exists_eq_right', exists_eq_left, exists_eq_left', Int.toNat_natCast, Nat.zero_add, Nat.mul_one, Int.ofNat_eq_natCast, D.nil, D.eq, D.ne, D.lt, D.gt, D.le, D.ge, D.beq, D.ilen, D.slen, D.ile, D.ilt, D.ine, D.nle, D.nlt, D.sub, D.add, D.mul, D.neg, D.nat, D.ofN, D.len, D.nadd, D.nmul, D.get, D.mn, D.mx, D.set, D.app, D.tail, D.part, D.seg, D.rep, D.at2, decide_eq_true_eq, decide_eq_false_iff_not, beq_iff_eq, bne_iff_ne, beq_eq_false_iff_ne, bne_eq_false_iff_eq, D.wrap, D.allNil, lineOf_fold cs ns os fs ls ks, calF_fold cs ns os fs ls ks]
  rintro ⟨⟨hf, t0⟩, t1⟩
  obtain ⟨hl, hus⟩ := fine_parts cs ns os fs ls ks hf
  have hu := hus [time] (time_ok (by omega) (by omega))
  have ha := line_at cs ns os fs ls ks hl
  obtain ⟨hv, q1, q2, q3, q4, m0, m1⟩ := cal_ok cs ns os fs ls ks hl
  obtain ⟨d0, d1⟩ := today_in hv (show 0 ≤ time by omega) (by omega)
  have r0 : 0 ≤ D.rem raw 60 := Int.tmod_nonneg _ hp.1
  have r1 : D.rem raw 60 < 60 := Int.tmod_lt_of_pos _ (by omega)
  have hraw := hp.2
  have hraw0 := hp.1
  have hds : ∀ d, inDays (dayF (calF (cs, ns, os, fs, ls, ks) line).1 time + d) = true ∨ d < 0 ∨ 60 ≤ d := fun d => by rw [inDays_iff]; omega
  refine ⟨hl.2.1, hl.2.2, q1, q2, q3, q4, ⟨hv, by omega, by omega⟩, fun hE => ?_, fun hE => ?_⟩
  · obtain ⟨hn, e20⟩ := depart_none hu hE
    have hid := (hds (D.rem raw 60)).resolve_right (by omega)
    refine ⟨in_small (by omega), by decide, in_small (by omega), fun _ => ⟨hv, hid⟩, fun _ => hl.2.1, fun _ => hl.2.2, fun _ => ⟨hv, hid, m0, by omega⟩, e20, ?_⟩
    by_cases hw : workF (calF (cs, ns, os, fs, ls, ks) line).2.1 (calF (cs, ns, os, fs, ls, ks) line).2.2 (dayF (calF (cs, ns, os, fs, ls, ks) line).1 time + D.rem raw 60) = true
    · right
      refine dlt (Int.not_le.1 fun hge => first_none hn _ hge ?_ (leave_dep ha hw))
      unfold timeF dayF
      omega
    · left; exact Bool.eq_false_iff.2 hw
  · have hs := depart_some hu hE
    obtain ⟨g1, g2, g3, g4⟩ := first_some ha hs
    obtain ⟨v1, v2, _⟩ := (validF_iff.1 hv).1
    have hdd : dayF (calF (cs, ns, os, fs, ls, ks) line).1 time ≤ dayF (calF (cs, ns, os, fs, ls, ks) line).1 (departD (cs, ns, os, fs, ls, ks) line time) ∧ dayF (calF (cs, ns, os, fs, ls, ks) line).1 (departD (cs, ns, os, fs, ls, ks) line time) ≤ 2100 := by
      unfold dayF; omega
    refine ⟨⟨hv, by omega, by omega⟩, fun _ => hl.2.1, fun _ => hl.2.2, fun _ => ⟨hv, inDays_iff.2 (by omega)⟩, fun _ => in_small (by omega), fun h => ?_, fun _ => ⟨⟨hf, by omega, by omega, hE, Int.le_refl _, hdd.1⟩, fun x hx hlt => ?_⟩⟩
    · rcases h with ((h | h) | h) | h
      · omega
      · exact (h g3.2).elim
      · rw [g3.1] at h; cases h
      · omega
    · have hlt := ltd hlt
      have x0 : dayF (calF (cs, ns, os, fs, ls, ks) line).1 time ≤ x := hx.2.2.2.2.1
      have hid : inDays x = true := inDays_iff.2 (by omega)
      have hlow : leaveF (cs, ns, os, fs, ls, ks) line x < departD (cs, ns, os, fs, ls, ks) line time := by
        have := dep_leave g3
        rw [← this]
        unfold leaveF timeF
        omega
      refine ⟨⟨hv, hid⟩, fun _ => hl.2.1, fun _ => hl.2.2, fun _ => ⟨hv, hid, m0, by omega⟩, fun ⟨h1, h2⟩ => ?_, fun _ => ⟨in_small (by omega), x + 1, ⟨hf, by omega, by omega, hE, by omega, by omega⟩, rfl, by omega⟩⟩
      exact (g4 _ (ged h2) hlow (leave_dep ha h1)).elim
theorem t_llater (line time more : Int) (cs : List (Int × List Bool × List Int)) (ns os : List ByteArray) (fs : List Off) (ls : List Line) (ks : List Cla) : SoundC Tryd.prog G0 4 [net cs ns os fs ls ks, .dat I line, .dat I time, .dat U16 more] [] ⟨u16P more, .dat .bool true, []⟩ := by
  refine sound_of_ev (c := mkc KT16) KST17 KI0s hm (vc_llater line time more cs ns os fs ls ks ⟨rfl, fun hp => ?_⟩)
  simp only [cnd_or, cnd_and, D.and, D.or, D.not, Bool.true_and, Bool.and_true, Bool.false_or, Bool.or_false, eq_self, true_and, and_true, imp_self, implies_true, Bool.not_eq_true', Bool.or_eq_true, Bool.or_eq_false_iff, Bool.not_eq_false', Bool.and_eq_true, Bool.and_eq_false_imp, Bool.not_not, forall_const, exists_eq_right, exists_eq_right', exists_eq_left, exists_eq_left', Int.toNat_natCast, Nat.zero_add, Nat.mul_one, Int.ofNat_eq_natCast, D.nil, D.eq, D.ne, D.lt, D.gt, D.le, D.ge, D.beq, D.ilen, D.slen, D.ile, D.ilt, D.ine, D.nle, D.nlt, D.sub, D.add, D.mul, D.neg, D.nat, D.ofN, D.len, D.nadd, D.nmul, D.get, D.mn, D.mx, D.set, D.app, D.tail, D.part, D.seg, D.rep, D.at2, decide_eq_true_eq, decide_eq_false_iff_not, beq_iff_eq, bne_iff_ne, beq_eq_false_iff_ne, bne_eq_false_iff_eq, D.wrap, D.allNil]
  rintro ⟨⟨hf, t0⟩, t1⟩
  obtain ⟨hl, hus⟩ := fine_parts cs ns os fs ls ks hf
  have ha := line_at cs ns os fs ls ks hl
  obtain ⟨p0, p1⟩ := hp
  refine ⟨in_small (by omega), in_small (by omega), fun hE => ?_⟩
  obtain ⟨g1, g2, g3, g4⟩ := first_some ha (depart_some (hus _ (time_ok (by omega) (by omega))) hE)
  have u1 := hus [departD (cs, ns, os, fs, ls, ks) line time] (time_ok (by omega) (by omega))
  have u2 := hus [departD (cs, ns, os, fs, ls, ks) line time + 1] (time_ok (by omega) (by omega))
  have u3 := hus [time + more] (time_ok (by omega) (by omega))
  obtain ⟨k1, k2⟩ := depart_of u1 (first_is ha (Int.le_refl _) (by omega) g3 fun v v1 v2 => (by omega))
  refine ⟨in_small (by omega), ⟨⟨?_, k2⟩, k1⟩, ?_⟩
  · by_cases h : departE (cs, ns, os, fs, ls, ks) line (time + more) = 0
    · right
      obtain ⟨h1, h2, h3, _⟩ := first_some ha (depart_some u3 h)
      exact Int.not_lt.1 fun hlt => g4 _ (by omega) hlt h3
    · left; exact h
  · by_cases h : departE (cs, ns, os, fs, ls, ks) line (departD (cs, ns, os, fs, ls, ks) line time + 1) = 0
    · right
      obtain ⟨h1, _⟩ := first_some ha (depart_some u2 h)
      omega
    · left; exact h
end Go.Eng.Sv
