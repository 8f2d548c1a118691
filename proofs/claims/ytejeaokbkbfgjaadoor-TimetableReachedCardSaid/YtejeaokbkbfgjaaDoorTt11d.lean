/- PeTt11d -/
import Derived.Test.YtejeaokbkbfgjaaDoorX22
import Derived.Test.YtejeaokbkbfgjaaDoorTt10d
set_option linter.unusedSimpArgs false
set_option linter.unusedVariables false
set_option maxRecDepth 100000
namespace Go.Eng.Sv
open Go.Proofs

noncomputable def atF (l : List Int) (a i : Int) : Int := if i = 0 then a else l.getD (i - 1).toNat 0 + 1
noncomputable def listsTo (n : Net) (line a b i : Int) : Prop := fineF n line = true ∧ 0 ≤ a ∧ a ≤ 1000000 ∧ a ≤ b ∧ b ≤ a + 86400 ∧ 0 ≤ i ∧ i ≤ (depsF n line a b).length
noncomputable def listsA (n : Net) (line a : Int) : Ann := ⟨fun id s => match id with
  | 12 => match s.sig.T 13, s.sig.T 14 with
    | .dat (.int .i64) b, .dat (.sl (.int .i64)) l => some { α := Int, inv := fun i => listsTo n line a b i, st := fun i => put s [(16, .dat I (atF l a i)), (17, .dat I i)], μ := fun i => D.nat (D.sub (D.ilen l) i) }
    | _, _ => none
  | _ => none, fun id s => match id with
  | 8 => some (put (frz (allNames s) s) [(57, .top), (63, .top)])
  | _ => none, fun _ _ => none⟩
set_option maxRecDepth 100000 in
theorem vc_llists (line a one two : Int) (cs : List (Int × List Bool × List Int)) (ns os : List ByteArray) (fs : List Off) (ls : List Line) (ks : List Cla) (hvc :
    let c1 := (cs, ns, os, fs, ls, ks);
    let c2 := fineF c1 line;
    let c3 := D.not c2;
    let c4 := D.not c3;
    let c5 := D.cnd c3 true (D.lt a (0 : Int));
    let c6 := D.not c5;
    let c7 := D.cnd c5 true (D.gt a (1000000 : Int));
    let c8 := D.not c7;
    let c9 := D.cnd c7 true (D.gt (D.add one two) (86400 : Int));
    let c10 := D.add (D.add a one) two;
    let c11 := depsF c1 line a (D.add a one);
    let c12 := D.nadd (0) (D.len c11);
    let c13 := D.app (D.nil Int) c11;
    let c14 := depsF c1 line (D.add a one) c10;
    let c15 := D.nadd c12 (D.len c14);
    let c16 := depsF c1 line a c10;
    let c17 := D.app c13 c14;
    let c18 := sameI c16 c17;
    let c19 := D.not c18;
    let c20 := D.ilen c16; true = true ∧ (u16P one ∧ u16P two → True ∧ True ∧ (c4 = true → c4 = true → c4 = true) ∧ (D.and true c4 = true → c4 = true) ∧ (c6 = true
     → c6 = true → c6 = true) ∧ (D.and true c6 = true → c6 = true) ∧ (c8 = true → c8 = true → c8 = true) ∧ (c8 = true → inR IntKind.i64 one) ∧ (c8 = true → c8 =
     true → c8 = true) ∧ (c8 = true → inR IntKind.i64 two) ∧ (c8 = true → c8 = true → c8 = true) ∧ (c8 = true → c8 = true → c8 = true) ∧ (c8 = true → inR
     IntKind.i64 (D.add one two)) ∧ (c8 = true → c8 = true → c8 = true) ∧ (D.and true c8 = true → c8 = true) ∧ (c9 = true → true = true ∧ True) ∧ (c9 = false → inR
     IntKind.i64 one ∧ inR IntKind.i64 (D.add a one) ∧ inR IntKind.i64 two ∧ inR IntKind.i64 c10 ∧ True ∧ True ∧ D.len (D.nil Int) = 0 ∧ D.nle (D.nmul c12 (8))
     (140737488355328) ∧ D.nle c12 (9223372036854775807) ∧ True ∧ D.len c13 = c12 ∧ D.nle (D.nmul c15 (8)) (140737488355328) ∧ D.nle c15 (9223372036854775807) ∧ cs
     = cs ∧ ns = ns ∧ os = os ∧ fs = fs ∧ ls = ls ∧ ks = ks ∧ line = line ∧ a = a ∧ one = one ∧ two = two ∧ c1 = c1 ∧ false = false ∧ true = true ∧ D.add a one =
     D.add a one ∧ c10 = c10 ∧ c16 = c16 ∧ D.len c17 = c15 ∧ c17 = c17 ∧ true = true ∧ cs = cs ∧ ns = ns ∧ os = os ∧ fs = fs ∧ ls = ls ∧ ks = ks ∧ line = line ∧ c2
     = c2 ∧ c3 = c3 ∧ c3 = c3 ∧ c5 = c5 ∧ c5 = c5 ∧ c7 = c7 ∧ c7 = c7 ∧ c9 = c9 ∧ a = a ∧ one = one ∧ one = one ∧ D.add a one = D.add a one ∧ D.add a one = D.add a
     one ∧ two = two ∧ two = two ∧ c10 = c10 ∧ cs = cs ∧ ns = ns ∧ os = os ∧ fs = fs ∧ ls = ls ∧ ks = ks ∧ line = line ∧ a = a ∧ c10 = c10 ∧ c16 = c16 ∧ cs = cs ∧
     ns = ns ∧ os = os ∧ fs = fs ∧ ls = ls ∧ ks = ks ∧ line = line ∧ a = a ∧ D.add a one = D.add a one ∧ c11 = c11 ∧ cs = cs ∧ ns = ns ∧ os = os ∧ fs = fs ∧ ls = ls
     ∧ ks = ks ∧ line = line ∧ D.add a one = D.add a one ∧ c10 = c10 ∧ c14 = c14 ∧ D.len c17 = c15 ∧ c17 = c17 ∧ mildI c16 ∧ (c19 = true → false = true ∧ True) ∧
     (c19 = false → (∃ x, listsTo c1 line a c10 x ∧ cs = cs ∧ ns = ns ∧ os = os ∧ fs = fs ∧ ls = ls ∧ ks = ks ∧ line = line ∧ a = a ∧ one = one ∧ two = two ∧ c1 =
     c1 ∧ true = true ∧ D.add a one = D.add a one ∧ c10 = c10 ∧ c16 = c16 ∧ c17 = c17 ∧ a = atF c16 a x ∧ (0 : Int) = x ∧ true = true ∧ cs = cs ∧ ns = ns ∧ os = os
     ∧ fs = fs ∧ ls = ls ∧ ks = ks ∧ line = line ∧ c2 = c2 ∧ c3 = c3 ∧ c3 = c3 ∧ c5 = c5 ∧ c5 = c5 ∧ c7 = c7 ∧ c7 = c7 ∧ c9 = c9 ∧ a = a ∧ one = one ∧ one = one ∧
     D.add a one = D.add a one ∧ D.add a one = D.add a one ∧ two = two ∧ two = two ∧ c10 = c10 ∧ cs = cs ∧ ns = ns ∧ os = os ∧ fs = fs ∧ ls = ls ∧ ks = ks ∧ line =
     line ∧ a = a ∧ c10 = c10 ∧ c16 = c16 ∧ cs = cs ∧ ns = ns ∧ os = os ∧ fs = fs ∧ ls = ls ∧ ks = ks ∧ line = line ∧ a = a ∧ D.add a one = D.add a one ∧ c11 = c11
     ∧ cs = cs ∧ ns = ns ∧ os = os ∧ fs = fs ∧ ls = ls ∧ ks = ks ∧ line = line ∧ D.add a one = D.add a one ∧ c10 = c10 ∧ c14 = c14 ∧ c17 = c17 ∧ c16 = c16 ∧ c17 =
     c17 ∧ c18 = c18 ∧ c19 = c19 ∧ a = a ∧ True) ∧ ∀ (x : Int),
    let c21 := D.ne (departE c1 line (atF c16 a x)) (0 : Int);
    let c22 := D.not c21;
    let c23 := departD c1 line (atF c16 a x);
    let c24 := D.cnd c21 true (D.ne c23 (D.get c16 (D.nat x) (0 : Int)));
    let c25 := D.not c24;
    let c26 := D.ge c23 c10;
    let c27 := D.cnd c24 true c26;
    let c28 := D.add c23 (1 : Int);
    let c29 := D.add x (1 : Int); listsTo c1 line a c10 x → (D.lt x c20 = true → True ∧ (c22 = true → c22 = true → c22 = true) ∧ (c22 = true → c22 = true → c22 =
     true) ∧ (c22 = true → D.ile (0 : Int) x) ∧ (c22 = true → D.ilt x c20) ∧ (c22 = true → c22 = true → c22 = true) ∧ (c22 = true → c22 = true → c22 = true) ∧ (c22
     = true → c22 = true → c22 = true) ∧ (D.and true c22 = true → c22 = true) ∧ (c25 = true → c25 = true → c25 = true) ∧ (c25 = true → c25 = true → c25 = true) ∧
     (D.and true c25 = true → c25 = true) ∧ (c27 = true → false = true ∧ True) ∧ (c27 = false → inR IntKind.i64 c28 ∧ inR IntKind.i64 c29 ∧ ∃ y, listsTo c1 line a
     c10 y ∧ (cs = cs ∧ ns = ns ∧ os = os ∧ fs = fs ∧ ls = ls ∧ ks = ks ∧ line = line ∧ a = a ∧ one = one ∧ two = two ∧ c1 = c1 ∧ true = true ∧ D.add a one = D.add
     a one ∧ c10 = c10 ∧ c16 = c16 ∧ c17 = c17 ∧ c28 = atF c16 a y ∧ c29 = y ∧ true = true ∧ cs = cs ∧ ns = ns ∧ os = os ∧ fs = fs ∧ ls = ls ∧ ks = ks ∧ line = line
     ∧ c2 = c2 ∧ c3 = c3 ∧ c3 = c3 ∧ c5 = c5 ∧ c5 = c5 ∧ c7 = c7 ∧ c7 = c7 ∧ c9 = c9 ∧ a = a ∧ one = one ∧ one = one ∧ D.add a one = D.add a one ∧ D.add a one =
     D.add a one ∧ two = two ∧ two = two ∧ c10 = c10 ∧ cs = cs ∧ ns = ns ∧ os = os ∧ fs = fs ∧ ls = ls ∧ ks = ks ∧ line = line ∧ a = a ∧ c10 = c10 ∧ c16 = c16 ∧ cs
     = cs ∧ ns = ns ∧ os = os ∧ fs = fs ∧ ls = ls ∧ ks = ks ∧ line = line ∧ a = a ∧ D.add a one = D.add a one ∧ c11 = c11 ∧ cs = cs ∧ ns = ns ∧ os = os ∧ fs = fs ∧
     ls = ls ∧ ks = ks ∧ line = line ∧ D.add a one = D.add a one ∧ c10 = c10 ∧ c14 = c14 ∧ c17 = c17 ∧ c16 = c16 ∧ c17 = c17 ∧ c18 = c18 ∧ c19 = c19 ∧ a = a ∧ True)
     ∧ D.nlt (D.nat (D.sub c20 y)) (D.nat (D.sub c20 x)))) ∧ (D.lt x c20 = false → True ∧ (true = true → true = true → true = true) ∧ (true = true → true = true →
     true = true) ∧ (D.and true c22 = true → D.and true c22 = true → D.and true c22 = true) ∧ (D.and true c22 = true → D.and true c22 = true → D.and true c22 =
     true) ∧ (true = true → true = true → true = true) ∧ (true = true → D.and true c22 = true → D.and true c22 = true) ∧ (D.and true true = true → true = true) ∧
     D.cnd true (D.cnd c21 true c26) false = true ∧ True))))) :
    evF { mkc KT16 with mb := fun t => t == 57 } (listsA (cs, ns, os, fs, ls, ks) line a) 5 [net cs ns os fs ls ks, .dat I line, .dat I a, .dat U16 one, .dat U16 two] [] ⟨u16P one ∧ u16P two, .dat .bool true, []⟩ := of_eq (by kernel_rfl) hvc

set_option maxRecDepth 100000 in
theorem vc_lwait (line a len at_ less : Int) (cs : List (Int × List Bool × List Int)) (ns os : List ByteArray) (fs : List Off) (ls : List Line) (ks : List Cla) (hvc :
    let c1 := D.add (1 : Int) len;
    let c2 := (cs, ns, os, fs, ls, ks);
    let c3 := D.not (fineF c2 line);
    let c4 := D.not c3;
    let c5 := D.cnd c3 true (D.lt a (0 : Int));
    let c6 := D.not c5;
    let c7 := D.cnd c5 true (D.gt a (1000000 : Int));
    let c8 := D.add a c1;
    let c9 := waitE c2 line a c8;
    let c10 := D.ne c9 (0 : Int);
    let c11 := D.add a (D.rem at_ c1);
    let c12 := D.add a (1 : Int);
    let c13 := D.add c12 (D.rem less c1);
    let c14 := D.cnd true (D.eq (departE c2 line c11) (0 : Int)) false;
    let c15 := D.sub (departD c2 line c11) c11;
    let c16 := waitD c2 line a c8;
    let c17 := D.cnd c14 (D.le c15 c16) false;
    let c18 := D.cnd c17 (D.eq (waitE c2 line a c13) (0 : Int)) false; true = true ∧ (u16P len ∧ u16P at_ ∧ u16P less → True ∧ inR IntKind.i64 len ∧ inR IntKind.i64
     c1 ∧ True ∧ (c4 = true → c4 = true → c4 = true) ∧ (D.and true c4 = true → c4 = true) ∧ (c6 = true → c6 = true → c6 = true) ∧ (D.and true c6 = true → c6 = true)
     ∧ (c7 = true → true = true ∧ True) ∧ (c7 = false → inR IntKind.i64 c8 ∧ True ∧ (c10 = true → (true = true → true = true → true = true) ∧ (D.and true true =
     true → true = true) ∧ D.cnd true (D.eq c9 (20 : Int)) false = true ∧ True) ∧ (c10 = false → inR IntKind.i64 at_ ∧ D.ine c1 (0 : Int) ∧ inR IntKind.i64 c11 ∧
     True ∧ inR IntKind.i64 c12 ∧ inR IntKind.i64 less ∧ D.ine c1 (0 : Int) ∧ inR IntKind.i64 c13 ∧ True ∧ (true = true → true = true → true = true) ∧ (D.and true
     true = true → true = true) ∧ (c14 = true → c14 = true → c14 = true) ∧ (c14 = true → c14 = true → c14 = true) ∧ (c14 = true → inR IntKind.i64 c15) ∧ (c14 = true
     → c14 = true → c14 = true) ∧ (c14 = true → c14 = true → c14 = true) ∧ (D.and true c14 = true → c14 = true) ∧ (c17 = true → c17 = true → c17 = true) ∧ (D.and
     true c17 = true → c17 = true) ∧ (c18 = true → c18 = true → c18 = true) ∧ (c18 = true → c18 = true → c18 = true) ∧ (D.and true c18 = true → c18 = true) ∧ D.cnd
     c18 (D.le (waitD c2 line a c13) c16) false = true ∧ True)))) :
    evF (mkc KT16) noAnn 6 [net cs ns os fs ls ks, .dat I line, .dat I a, .dat U16 len, .dat U16 at_, .dat U16 less] [] ⟨u16P len ∧ u16P at_ ∧ u16P less, .dat .bool true, []⟩ := of_eq (by kernel_rfl) hvc

theorem depsOk_of (cs : List (Int × List Bool × List Int)) (ns os : List ByteArray) (fs : List Off) (ls : List Line) (ks : List Cla) {line a b : Int} (hf : fineF (cs, ns, os, fs, ls, ks) line = true) (a0 : 0 ≤ a) (b0 : 0 ≤ b) (a1 : a ≤ 2000000) (b1 : b ≤ 2000000) (h : b ≤ a + 86400) : depsOk (cs, ns, os, fs, ls, ks) line a b :=
  ⟨(fine_parts cs ns os fs ls ks hf).2 [a, b] (by simp [timeOk, a0, b0, a1, b1]), h⟩
theorem deps_len (cs : List (Int × List Bool × List Int)) (ns os : List ByteArray) (fs : List Off) (ls : List Line) (ks : List Cla) {line a b : Int} (hf : fineF (cs, ns, os, fs, ls, ks) line = true) (a0 : 0 ≤ a) (b0 : 0 ≤ b) (a1 : a ≤ 2000000) (b1 : b ≤ 2000000) (h : b ≤ a + 86400) : (depsF (cs, ns, os, fs, ls, ks) line a b).length ≤ 100 := by
  have ho := depsOk_of cs ns os fs ls ks hf a0 b0 a1 b1 h
  unfold depsF
  split
  · refine Nat.le_trans depsTo_len (Nat.le_trans spanL_len ?_)
    unfold dayF; omega
  · exact Nat.zero_le _
theorem sameI_eq {a b : List Int} (h : a = b) : sameI a b = true := by subst h; unfold sameI; simp
theorem deps_split (cs : List (Int × List Bool × List Int)) (ns os : List ByteArray) (fs : List Off) (ls : List Line) (ks : List Cla) {line a b c : Int} (hf : fineF (cs, ns, os, fs, ls, ks) line = true) (a0 : 0 ≤ a) (hab : a ≤ b) (hbc : b ≤ c) (c1 : c ≤ 2000000) (h : c ≤ a + 86400) : depsF (cs, ns, os, fs, ls, ks) line a c = depsF (cs, ns, os, fs, ls, ks) line a b ++ depsF (cs, ns, os, fs, ls, ks) line b c := by
  have ha := line_at cs ns os fs ls ks (fine_parts cs ns os fs ls ks hf).1
  have o1 := depsOk_of cs ns os fs ls ks (line := line) (a := a) (b := c) hf a0 (by omega) (by omega) c1 h
  have o2 := depsOk_of cs ns os fs ls ks (line := line) (a := a) (b := b) hf a0 (by omega) (by omega) (by omega) (by omega)
  have o3 := depsOk_of cs ns os fs ls ks (line := line) (a := b) (b := c) hf (by omega) (by omega) (by omega) c1 (by omega)
  refine sorted_ext (deps_sorted _ _ _ _) (List.pairwise_append.2 ⟨deps_sorted _ _ _ _, deps_sorted _ _ _ _, fun x hx y hy => ?_⟩) fun x => ?_
  · have h1 := (mem_deps ha o2).1 hx
    have h2 := (mem_deps ha o3).1 hy
    omega
  · rw [List.mem_append, mem_deps ha o1, mem_deps ha o2, mem_deps ha o3]
    constructor
    · rintro ⟨h1, h2, h3⟩
      by_cases g : x < b
      · exact .inl ⟨h1, g, h3⟩
      · exact .inr ⟨by omega, h2, h3⟩
    · rintro (⟨h1, h2, h3⟩ | ⟨h1, h2, h3⟩)
      · exact ⟨h1, by omega, h3⟩
      · exact ⟨by omega, h2, h3⟩
/-- The next departure of a sorted list is the first one from just behind the one before. -/
theorem deps_first (cs : List (Int × List Bool × List Int)) (ns os : List ByteArray) (fs : List Off) (ls : List Line) (ks : List Cla) {line a b i : Int} (hf : fineF (cs, ns, os, fs, ls, ks) line = true) (ho : depsOk (cs, ns, os, fs, ls, ks) line a b) (hab : a ≤ b) (i0 : 0 ≤ i) (i1 : i < (depsF (cs, ns, os, fs, ls, ks) line a b).length) :
    firstO (cs, ns, os, fs, ls, ks) line (atF (depsF (cs, ns, os, fs, ls, ks) line a b) a i) = some ((depsF (cs, ns, os, fs, ls, ks) line a b).getD i.toNat 0) ∧ a ≤ atF (depsF (cs, ns, os, fs, ls, ks) line a b) a i ∧ atF (depsF (cs, ns, os, fs, ls, ks) line a b) a i ≤ b ∧ (depsF (cs, ns, os, fs, ls, ks) line a b).getD i.toNat 0 < b := by
  have ha := line_at cs ns os fs ls ks (fine_parts cs ns os fs ls ks hf).1
  have hs := deps_sorted (cs, ns, os, fs, ls, ks) line a b
  have hm := fun v => mem_deps (v := v) ha ho
  have hb := ho.2
  generalize hl : depsF (cs, ns, os, fs, ls, ks) line a b = l at *
  have hg : l.getD i.toNat 0 = l[i.toNat]'(by omega) := by rw [List.getD_eq_getElem?_getD, List.getElem?_eq_getElem (by omega), Option.getD_some]
  obtain ⟨g1, g2, g3⟩ := (hm _).1 (hg ▸ List.getElem_mem (by omega))
  have hat : a ≤ atF l a i ∧ atF l a i ≤ l.getD i.toNat 0 ∧ ∀ v ∈ l, atF l a i ≤ v → l.getD i.toNat 0 ≤ v := by
    have hsort : ∀ j k : Nat, (hj : j < k) → (hk : k < l.length) → l[j]'(by omega) < l[k]'hk := fun j k hj hk => List.pairwise_iff_getElem.1 hs j k (by omega) hk hj
    unfold atF
    split
    · rename_i h0
      subst h0
      refine ⟨Int.le_refl _, g1, fun v hv _ => ?_⟩
      obtain ⟨j, hj, rfl⟩ := List.getElem_of_mem hv
      rw [hg]
      rcases Nat.eq_zero_or_pos j with h | h
      · subst h; exact Int.le_refl _
      · have := hsort 0 j h hj
        exact Int.le_of_lt this
    · rename_i h0
      have hp : l.getD (i - 1).toNat 0 = l[(i - 1).toNat]'(by omega) := by rw [List.getD_eq_getElem?_getD, List.getElem?_eq_getElem (by omega), Option.getD_some]
      obtain ⟨k1, k2, k3⟩ := (hm _).1 (hp ▸ List.getElem_mem (by omega))
      have hlt := hsort (i - 1).toNat i.toNat (by omega) (by omega)
      rw [← hp, ← hg] at hlt
      refine ⟨by omega, by omega, fun v hv hle => ?_⟩
      obtain ⟨j, hj, rfl⟩ := List.getElem_of_mem hv
      rw [hg]
      rcases Nat.lt_trichotomy j i.toNat with h | h | h
      · exfalso
        rcases Nat.lt_or_ge j (i - 1).toNat with q | q
        · have := hsort j (i - 1).toNat q (by omega)
          omega
        · have : j = (i - 1).toNat := by omega
          subst this; omega
      · subst h; exact Int.le_refl _
      · exact Int.le_of_lt (hsort i.toNat j h hj)
  refine ⟨first_is ha hat.2.1 (by omega) g3 fun v v1 v2 hv => ?_, hat.1, by omega, g2⟩
  have := hat.2.2 v ((hm v).2 ⟨by omega, by omega, hv⟩) v1
  omega
/-- Behind the last departure of the list there is none before the end. -/
theorem deps_last (cs : List (Int × List Bool × List Int)) (ns os : List ByteArray) (fs : List Off) (ls : List Line) (ks : List Cla) {line a b u : Int} (hf : fineF (cs, ns, os, fs, ls, ks) line = true) (ho : depsOk (cs, ns, os, fs, ls, ks) line a b) (hab : a ≤ b) (h : firstO (cs, ns, os, fs, ls, ks) line (atF (depsF (cs, ns, os, fs, ls, ks) line a b) a (depsF (cs, ns, os, fs, ls, ks) line a b).length) = some u) : b ≤ u ∧ a ≤ atF (depsF (cs, ns, os, fs, ls, ks) line a b) a (depsF (cs, ns, os, fs, ls, ks) line a b).length ∧ atF (depsF (cs, ns, os, fs, ls, ks) line a b) a (depsF (cs, ns, os, fs, ls, ks) line a b).length ≤ b := by
  have ha := line_at cs ns os fs ls ks (fine_parts cs ns os fs ls ks hf).1
  have hs := deps_sorted (cs, ns, os, fs, ls, ks) line a b
  have hm := fun v => mem_deps (v := v) ha ho
  obtain ⟨u1, u2, u3, u4⟩ := first_some ha h
  generalize hl : depsF (cs, ns, os, fs, ls, ks) line a b = l at *
  have key : a ≤ atF l a l.length ∧ atF l a l.length ≤ b ∧ ∀ v ∈ l, v < atF l a l.length := by
    have hsort : ∀ j k : Nat, (hj : j < k) → (hk : k < l.length) → l[j]'(by omega) < l[k]'hk := fun j k hj hk => List.pairwise_iff_getElem.1 hs j k (by omega) hk hj
    unfold atF
    split
    · rename_i h0
      have : l = [] := List.eq_nil_of_length_eq_zero (by omega)
      subst this
      exact ⟨Int.le_refl _, hab, fun v hv => by cases hv⟩
    · rename_i h0
      have hp : l.getD ((l.length : Int) - 1).toNat 0 = l[((l.length : Int) - 1).toNat]'(by omega) := by rw [List.getD_eq_getElem?_getD, List.getElem?_eq_getElem (by omega), Option.getD_some]
      obtain ⟨k1, k2, k3⟩ := (hm _).1 (hp ▸ List.getElem_mem (by omega))
      refine ⟨by omega, by omega, fun v hv => ?_⟩
      obtain ⟨j, hj, rfl⟩ := List.getElem_of_mem hv
      rcases Nat.lt_or_ge j ((l.length : Int) - 1).toNat with q | q
      · have := hsort j _ q (by omega)
        omega
      · have : j = ((l.length : Int) - 1).toNat := by omega
        subst this; omega
  refine ⟨Int.not_lt.1 fun hlt => ?_, key.1, key.2.1⟩
  have := key.2.2 u ((hm u).2 ⟨by omega, hlt, u3⟩)
  omega
theorem t_llists (line a one two : Int) (cs : List (Int × List Bool × List Int)) (ns os : List ByteArray) (fs : List Off) (ls : List Line) (ks : List Cla) : SoundC Tryd.prog G0 5 [net cs ns os fs ls ks, .dat I line, .dat I a, .dat U16 one, .dat U16 two] [] ⟨u16P one ∧ u16P two, .dat .bool true, []⟩ := by
  refine sound_of_ev (c := { mkc KT16 with mb := fun t => t == 57 }) KST17 KI0s hm (vc_llists line a one two cs ns os fs ls ks ⟨rfl, fun hp => ?_⟩)
  simp only [cnd_or, cnd_and, D.and, D.or, D.not, Bool.true_and, Bool.and_true, Bool.false_or, Bool.or_false, eq_self, true_and, and_true, imp_self, implies_true, Bool.not_eq_true', Bool.or_eq_true, Bool.or_eq_false_iff, Bool.not_eq_false', Bool.and_eq_true, Bool.and_eq_false_imp, Bool.not_not, forall_const, exists_eq_right, exists_eq_right', exists_eq_left, exists_eq_left', Int.toNat_natCast, Nat.zero_add, Nat.mul_one, Int.ofNat_eq_natCast, D.nil, D.eq, D.ne, D.lt, D.gt, D.le, D.ge, D.beq, D.ilen, D.slen, D.ile, D.ilt, D.ine, D.nle, D.nlt, D.sub, D.add, D.mul, D.neg, D.nat, D.ofN, D.len, D.nadd, D.nmul, D.get, D.mn, D.mx, D.set, D.app, D.tail, D.part, D.seg, D.rep, D.at2, decide_eq_true_eq, decide_eq_false_iff_not, beq_iff_eq, bne_iff_ne, beq_eq_false_iff_ne, bne_eq_false_iff_eq, D.wrap, D.allNil]
  obtain ⟨⟨p0, p1⟩, q0, q1⟩ := hp
  refine ⟨fun _ => in_small (by omega), fun _ => in_small (by omega), fun _ => in_small (by omega), ?_⟩
  rintro ⟨⟨⟨hf, t0⟩, t1⟩, h2⟩
  have l1 := deps_len cs ns os fs ls ks (line := line) (a := a) (b := a + one) hf (by omega) (by omega) (by omega) (by omega) (by omega)
  have l2 := deps_len cs ns os fs ls ks (line := line) (a := a + one) (b := a + one + two) hf (by omega) (by omega) (by omega) (by omega) (by omega)
  have l3 := deps_len cs ns os fs ls ks (line := line) (a := a) (b := a + one + two) hf (by omega) (by omega) (by omega) (by omega) (by omega)
  have hsp := deps_split cs ns os fs ls ks (line := line) (a := a) (b := a + one) (c := a + one + two) hf (by omega) (by omega) (by omega) (by omega) (by omega)
  have hlen := congrArg List.length hsp
  rw [List.length_append] at hlen
  have ho := depsOk_of cs ns os fs ls ks (line := line) (a := a) (b := a + one + two) hf (by omega) (by omega) (by omega) (by omega) (by omega)
  have hus := (fine_parts cs ns os fs ls ks hf).2
  have hsame : sameI (depsF (cs, ns, os, fs, ls, ks) line a (a + one + two)) ([] ++ depsF (cs, ns, os, fs, ls, ks) line a (a + one) ++ depsF (cs, ns, os, fs, ls, ks) line (a + one) (a + one + two)) = true := sameI_eq (by rw [List.nil_append]; exact hsp)
  refine ⟨in_small (by omega), in_small (by omega), in_small (by omega), in_small (by omega), rfl, by omega, by omega, rfl, by omega, by omega, by rw [List.length_append]; rfl, by rw [List.length_append]; rfl, Nat.le_trans l3 (by decide), fun h => (by rw [hsame] at h; cases h), fun _ => ⟨⟨0, ⟨hf, by omega, by omega, by omega, by omega, Int.le_refl _, Int.natCast_nonneg _⟩, rfl, rfl⟩, fun x hx => ⟨fun hlt => ?_, fun hge => ?_⟩⟩⟩
  · have x0 : 0 ≤ x := hx.2.2.2.2.2.1
    obtain ⟨g1, g2, g3, g4⟩ := deps_first cs ns os fs ls ks (line := line) (a := a) (b := a + one + two) (i := x) hf ho (by omega) x0 hlt
    obtain ⟨k1, k2⟩ := depart_of (hus [_] (time_ok (by omega) (by omega))) g1
    have gl := first_some (line_at cs ns os fs ls ks (fine_parts cs ns os fs ls ks hf).1) g1
    refine ⟨fun _ => x0, fun _ => hlt, fun h => ?_, fun _ => ⟨in_small (by omega), in_small (by omega), x + 1, ⟨hf, by omega, by omega, by omega, by omega, by omega, by omega⟩, ⟨?_, rfl⟩, by omega⟩⟩
    · rcases h with (h | h) | h
      · exact (h k2).elim
      · exact (h k1).elim
      · omega
    · rw [k1]
      show _ = atF _ a (x + 1)
      unfold atF
      rw [if_neg (by omega), show x + 1 - 1 = x by omega]
  · have hx' : x = (depsF (cs, ns, os, fs, ls, ks) line a (a + one + two)).length := by have := hx.2.2.2.2.2.2; omega
    subst hx'
    by_cases h : departE (cs, ns, os, fs, ls, ks) line (atF (depsF (cs, ns, os, fs, ls, ks) line a (a + one + two)) a (depsF (cs, ns, os, fs, ls, ks) line a (a + one + two)).length) = 0
    · right
      have hat : a ≤ atF (depsF (cs, ns, os, fs, ls, ks) line a (a + one + two)) a (depsF (cs, ns, os, fs, ls, ks) line a (a + one + two)).length ∧ atF (depsF (cs, ns, os, fs, ls, ks) line a (a + one + two)) a (depsF (cs, ns, os, fs, ls, ks) line a (a + one + two)).length ≤ a + one + two := by
        by_cases hz : (depsF (cs, ns, os, fs, ls, ks) line a (a + one + two)).length = 0
        · unfold atF; rw [if_pos (by omega)]; omega
        · obtain ⟨g1, g2, g3, g4⟩ := deps_first cs ns os fs ls ks (line := line) (a := a) (b := a + one + two) (i := ((depsF (cs, ns, os, fs, ls, ks) line a (a + one + two)).length : Int) - 1) hf ho (by omega) (by omega) (by omega)
          have gl := first_some (line_at cs ns os fs ls ks (fine_parts cs ns os fs ls ks hf).1) g1
          unfold atF; rw [if_neg (by omega)]; omega
      exact (deps_last cs ns os fs ls ks hf ho (by omega) (depart_some (hus [_] (time_ok (by omega) (by omega))) h)).1
    · left; exact h
theorem wait_ok (cs : List (Int × List Bool × List Int)) (ns os : List ByteArray) (fs : List Off) (ls : List Line) (ks : List Cla) {line a b : Int} (hf : fineF (cs, ns, os, fs, ls, ks) line = true) (a0 : 0 ≤ a) (hab : a < b) (b1 : b ≤ 2000000) (h : b ≤ a + 86400) : waitOk (cs, ns, os, fs, ls, ks) line a b = true := by
  unfold waitOk
  rw [(fine_parts cs ns os fs ls ks hf).2 [a, b] (by simp [timeOk]; omega), decide_eq_true hab, decide_eq_true h]; rfl
theorem wait_spec (cs : List (Int × List Bool × List Int)) (ns os : List ByteArray) (fs : List Off) (ls : List Line) (ks : List Cla) {line a b : Int} (h : waitOk (cs, ns, os, fs, ls, ks) line a b = true) : (waitE (cs, ns, os, fs, ls, ks) line a b = 0 ∧ waitO (cs, ns, os, fs, ls, ks) line a b = some (waitD (cs, ns, os, fs, ls, ks) line a b)) ∨ (waitE (cs, ns, os, fs, ls, ks) line a b = 20 ∧ waitO (cs, ns, os, fs, ls, ks) line a b = none) := by
  unfold waitE waitD
  rw [if_pos h, if_pos h]
  cases e : waitO (cs, ns, os, fs, ls, ks) line a b with
  | none => exact .inr ⟨rfl, rfl⟩
  | some w => exact .inl ⟨rfl, rfl⟩
theorem t_lwait (line a len at_ less : Int) (cs : List (Int × List Bool × List Int)) (ns os : List ByteArray) (fs : List Off) (ls : List Line) (ks : List Cla) : SoundC Tryd.prog G0 6 [net cs ns os fs ls ks, .dat I line, .dat I a, .dat U16 len, .dat U16 at_, .dat U16 less] [] ⟨u16P len ∧ u16P at_ ∧ u16P less, .dat .bool true, []⟩ := by
  refine sound_of_ev (c := mkc KT16) KST17 KI0s hm (vc_lwait line a len at_ less cs ns os fs ls ks ⟨rfl, fun hp => ?_⟩)
  simp only [cnd_or, cnd_and, D.and, D.or, D.not, Bool.true_and, Bool.and_true, Bool.false_or, Bool.or_false, eq_self, true_and, and_true, imp_self, implies_true, Bool.not_eq_true', Bool.or_eq_true, Bool.or_eq_false_iff, Bool.not_eq_false', Bool.and_eq_true, Bool.and_eq_false_imp, Bool.not_not, forall_const, exists_eq_right, exists_eq_right', exists_eq_left, exists_eq_left', Int.toNat_natCast, Nat.zero_add, Nat.mul_one, Int.ofNat_eq_natCast, D.nil, D.eq, D.ne, D.lt, D.gt, D.le, D.ge, D.beq, D.ilen, D.slen, D.ile, D.ilt, D.ine, D.nle, D.nlt, D.sub, D.add, D.mul, D.neg, D.nat, D.ofN, D.len, D.nadd, D.nmul, D.get, D.mn, D.mx, D.set, D.app, D.tail, D.part, D.seg, D.rep, D.at2, decide_eq_true_eq, decide_eq_false_iff_not, beq_iff_eq, bne_iff_ne, beq_eq_false_iff_ne, bne_eq_false_iff_eq, D.wrap, D.allNil]
  obtain ⟨⟨p0, p1⟩, ⟨q0, q1⟩, r0, r1⟩ := hp
  refine ⟨in_small (by omega), in_small (by omega), ?_⟩
  rintro ⟨⟨hf, t0⟩, t1⟩
  have ha := line_at cs ns os fs ls ks (fine_parts cs ns os fs ls ks hf).1
  have hok := wait_ok cs ns os fs ls ks (line := line) (a := a) (b := a + (1 + len)) hf (by omega) (by omega) (by omega) (by omega)
  have s0 : 0 ≤ D.rem at_ (1 + len) := Int.tmod_nonneg _ q0
  have s1 : D.rem at_ (1 + len) < 1 + len := Int.tmod_lt_of_pos _ (by omega)
  have v0 : 0 ≤ D.rem less (1 + len) := Int.tmod_nonneg _ r0
  have v1 : D.rem less (1 + len) < 1 + len := Int.tmod_lt_of_pos _ (by omega)
  refine ⟨in_small (by omega), fun h => ?_, fun h => ?_⟩
  · rcases wait_spec cs ns os fs ls ks hok with g | g
    · exact (h g.1).elim
    · exact g.1
  · obtain ⟨_, hw⟩ := (wait_spec cs ns os fs ls ks hok).resolve_right (fun g => by rw [g.1] at h; cases h)
    obtain ⟨u, u1, u2⟩ := (wait_some ha (by omega) hw).1 (a + D.rem at_ (1 + len)) (by omega) (by omega)
    obtain ⟨k1, k2⟩ := depart_of ((fine_parts cs ns os fs ls ks hf).2 [_] (time_ok (by omega) (by omega))) u1
    have hur := firstO_range u1
    obtain ⟨v, w1, w2⟩ := wait_narrow ha (Int.le_refl _) (show a < a + 1 + D.rem less (1 + len) by omega) (by omega) hw
    have hok2 := wait_ok cs ns os fs ls ks (line := line) (a := a) (b := a + 1 + D.rem less (1 + len)) hf (by omega) (by omega) (by omega) (by omega)
    obtain ⟨e1, e2⟩ := (wait_spec cs ns os fs ls ks hok2).resolve_right (fun g => by rw [g.2] at w1; cases w1)
    rw [e2] at w1
    have w1 := Option.some.inj w1
    rw [k1]
    exact ⟨in_small (by omega), by omega, in_small (by omega), in_small (by omega), in_small (by omega), by omega, in_small (by omega), fun _ => in_small (by omega), ⟨⟨k2, by omega⟩, e1⟩, by omega⟩
end Go.Eng.Sv
